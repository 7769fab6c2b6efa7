/- The document's parser of rules says what the pieces say: pieces, names and sets. -/
import Derived.Test.YtjfjigknkhgkdaaTv03dm
namespace Go.Proofs.Ytjfjigknkhgkdaa.T
open Go Go.Tv Go.Proofs
def OkR {A B : Type} (cd : A → Er) (x : Option A) (y : B ⊕ Er) (R : A → B → Prop) : Prop := match y with
  | .inr e => ∃ a, x = some a ∧ cd a = e ∧ e.1 ≠ 0
  | .inl b => ∃ a, x = some a ∧ cd a = (0, 0) ∧ R a b
theorem OkR.bind {A B C D : Type} {cd : A → Er} {x : Option A} {y : B ⊕ Er} {R : A → B → Prop} (h : OkR cd x y R) {k : A → Option C} {cd' : C → Er} {s : D ⊕ Er} {R' : C → D → Prop}
    (h1 : ∀ a, y = .inr (cd a) → (cd a).1 ≠ 0 → s = .inr (cd a) ∧ ∃ c, k a = some c ∧ cd' c = cd a) (h2 : ∀ a b, y = .inl b → cd a = (0, 0) → R a b → OkR cd' (k a) s R') : OkR cd' (x.bind k) s R' := by
  cases y with
  | inr e =>
    obtain ⟨a, h3, h4, h5⟩ := h
    subst h4
    obtain ⟨h6, c, h7, h8⟩ := h1 a rfl h5
    rw [h3, h6, Option.bind_some]
    exact ⟨c, h7, h8, h5⟩
  | inl b =>
    obtain ⟨a, h3, h4, h5⟩ := h
    rw [h3]
    exact h2 a b rfl h4 h5
theorem signs_ok : ((List.range 256).all fun n => decide (firstN (fun i => ([40, 41, 91, 93, 94, 124, 42, 43, 63, 46, 59, 47, 61] : List UInt8).getD i 0 == n.toUInt8) 13 < 13) == sgnN n) = true := by kernel_rfl
theorem signs_at (c : UInt8) : decide (firstN (fun i => ([40, 41, 91, 93, 94, 124, 42, 43, 63, 46, 59, 47, 61] : List UInt8).getD i 0 == c) 13 < 13) = sgnN c.toNat := by
  have h1 := List.all_eq_true.mp signs_ok c.toNat (List.mem_range.mpr (u8_lt c))
  rw [beq_iff_eq] at h1
  have e : c.toNat.toUInt8 = c := by simp
  rw [e] at h1
  exact h1
theorem hereR_L2 (t : List UInt8) (a : Nat) (x y : Int) : iter (rq_here_v7_L2 t (a : Int) x y) 0 = some (if sgnN (t.getD a 0).toNat then .inr (((t.getD a 0).toNat : Int), (a : Int), x, y) else .inl ()) := by
  have hs := signs_at (t.getD a 0)
  have hb : ∀ k, k < firstN (fun i => ([40, 41, 91, 93, 94, 124, 42, 43, 63, 46, 59, 47, 61] : List UInt8).getD i 0 == t.getD a 0) 13 → rq_here_v7_L2 t (a : Int) x y (k : Int) = some (.inl ((k + 1 : Nat) : Int)) := fun k hk => by
    have h1 := firstN_lt _ _ hk
    have h2 := firstN_le (fun i => ([40, 41, 91, 93, 94, 124, 42, 43, 63, 46, 59, 47, 61] : List UInt8).getD i 0 == t.getD a 0) 13
    unfold rq_here_v7_L2
    rw [if_pos (by simp; omega), if_pos ⟨by omega, by simp; omega⟩, if_neg (by
      simp only [Int.toNat_natCast]; intro hh
      rw [beq_iff_eq] at hh
      have : ([40, 41, 91, 93, 94, 124, 42, 43, 63, 46, 59, 47, 61] : List UInt8).getD k 0 = t.getD a 0 := UInt8.toNat_inj.mp (by omega)
      rw [this] at h1
      simp at h1), wrap_i64 (by omega) (by omega)]
    rfl
  by_cases hp : firstN (fun i => ([40, 41, 91, 93, 94, 124, 42, 43, 63, 46, 59, 47, 61] : List UInt8).getD i 0 == t.getD a 0) 13 < 13
  · have hat := firstN_at _ _ hp
    rw [decide_eq_true hp] at hs
    rw [if_pos hs.symm]
    refine iter_count (fun k : Nat => (k : Int)) _ hb ?_
    unfold rq_here_v7_L2
    rw [show ([40, 41, 91, 93, 94, 124, 42, 43, 63, 46, 59, 47, 61] : List UInt8).length = 13 from rfl]
    rw [if_pos (decide_eq_true (Int.ofNat_lt.mpr hp)), if_pos ⟨Int.natCast_nonneg _, Int.ofNat_lt.mpr hp⟩, if_pos (by
      simp only [Int.toNat_natCast]
      rw [beq_iff_eq] at hat ⊢
      rw [hat])]
    simp only [Int.toNat_natCast]
  · have h2 := firstN_le (fun i => ([40, 41, 91, 93, 94, 124, 42, 43, 63, 46, 59, 47, 61] : List UInt8).getD i 0 == t.getD a 0) 13
    rw [decide_eq_false hp] at hs
    rw [if_neg (by rw [← hs]; simp)]
    refine iter_count (fun k : Nat => (k : Int)) _ hb ?_
    unfold rq_here_v7_L2
    rw [show ([40, 41, 91, 93, 94, 124, 42, 43, 63, 46, 59, 47, 61] : List UInt8).length = 13 from rfl]
    rw [if_neg (fun hh => hp (Int.ofNat_lt.mp (of_decide_eq_true hh)))]
theorem hereR_L1 {t : List UInt8} (ht : t.length ≤ 10000) : ∀ (m a : Nat), t.length - a ≤ m → a ≤ t.length → ∃ b : Nat, iter (rq_here_v7_L1 t) (a : Int) = some (b : Int) ∧ a ≤ b ∧ b ≤ t.length ∧ tk none (t.drop a) a = T t b := by
  intro m
  have hend : ∀ a : Nat, a = t.length → ∃ b : Nat, iter (rq_here_v7_L1 t) (a : Int) = some (b : Int) ∧ a ≤ b ∧ b ≤ t.length ∧ tk none (t.drop a) a = T t b := fun a h => by
    refine ⟨a, ?_, Nat.le_refl _, by omega, ?_⟩
    · apply iter_r
      unfold rq_here_v7_L1
      rw [if_neg (by simp; omega)]
      rfl
    · rw [T_end (by omega), List.drop_eq_nil_of_le (by omega)]
      rfl
  induction m with
  | zero => intro a h1 h2; exact hend a (by omega)
  | succ m ih =>
    intro a h1 h2
    rcases Nat.lt_or_ge a t.length with h | h
    · by_cases h10 : (t.getD a 0).toNat = 10
      · refine ⟨a, ?_, Nat.le_refl _, h2, ?_⟩
        · apply iter_r
          unfold rq_here_v7_L1
          rw [if_pos (by simp; omega), if_pos ⟨by omega, by omega⟩, Int.toNat_natCast, h10]
          rfl
        · rw [T_rem h, if_pos h10, T_nl h h10]
      · obtain ⟨b, k1, k2, k3, k4⟩ := ih (a + 1) (by omega) (by omega)
        refine ⟨b, ?_, by omega, k3, ?_⟩
        · rw [iter_l (s' := ((a + 1 : Nat) : Int)) (by
            unfold rq_here_v7_L1
            rw [if_pos (by simp; omega), if_pos ⟨by omega, by omega⟩, Int.toNat_natCast, wrap_i64 (by omega) (by omega)]
            simp only [Option.bind_some]
            rw [if_pos (by rw [bne_iff_ne]; omega)]
            rfl), k1]
        · rw [T_rem h, if_neg h10, k4]
    · exact hend a (by omega)
def hereRO : Toks → (Int × Int × Int) ⊕ (Int × Int × Int × Int)
  | .bad n => .inl (n, 20, n)
  | .eof n => .inl (n, 0, 0)
  | ts => .inr (ts.hd, ts.pos, 0, 0)
def hereRS : Toks → Int × Int × Int × Int
  | .bad n => (0, n, 20, n)
  | ts => (ts.hd, ts.pos, 0, 0)
theorem hereR_L3 {t : List UInt8} (ht : t.length ≤ 10000) (d3 d4 d5 d6 o1 o2 o3 o4 o5) : ∀ (m a : Nat), t.length - a ≤ m → a ≤ t.length → iter (rq_here_v7_L3 t d3 d4 d5 d6 o1 o2 o3 o4 o5) ((a : Int), 0, 0) = some (hereRO (T t a)) := by
  intro m
  have hend : ∀ a : Nat, a = t.length → iter (rq_here_v7_L3 t d3 d4 d5 d6 o1 o2 o3 o4 o5) ((a : Int), 0, 0) = some (hereRO (T t a)) := fun a h => by
    rw [T_end (by omega)]
    apply iter_r
    have c1 : decide ((a : Int) < (t.length : Int)) = false := by simp; omega
    unfold rq_here_v7_L3
    simp only [c1]
    rfl
  induction m with
  | zero => intro a h1 h2; exact hend a (by omega)
  | succ m ih =>
    intro a h1 h2
    rcases Nat.lt_or_ge a t.length with h | h
    · have c1 : decide ((a : Int) < (t.length : Int)) = true := by simp; omega
      have c2 : 0 ≤ (a : Int) ∧ (a : Int) < (t.length : Int) := ⟨by omega, by omega⟩
      have pre : ∀ {X : Type} (u v : Option X), (((if ((0 : Int) == (0 : Int)) = true then some (decide ((a : Int) < (t.length : Int))) else some (false))).bind fun (v45 : Bool) => (if v45 = true then u else v)) = u := fun u v => by
        rw [c1]; rfl
      by_cases h35 : (t.getD a 0).toNat = 35
      · have z35 : (((t.getD a 0).toNat : Int) == (35 : Int)) = true := by rw [h35]; rfl
        obtain ⟨b, k1, k2, k3, k4⟩ := hereR_L1 ht _ (a + 1) (Nat.le_refl _) (by omega)
        have k0 : iter (rq_here_v7_L1 t) (a : Int) = some (b : Int) := by
          rw [iter_l (s' := ((a + 1 : Nat) : Int)) (by
            unfold rq_here_v7_L1
            rw [if_pos (by simp; omega), if_pos ⟨by omega, by omega⟩, Int.toNat_natCast, wrap_i64 (by omega) (by omega), h35]
            rfl), k1]
        rw [iter_l (s' := ((b : Int), 0, 0)) (by
          unfold rq_here_v7_L3
          simp only []
          rw [pre, if_pos c2, Int.toNat_natCast, if_pos z35, k0]
          rfl), ih b (by omega) k3, T_hash h h35, T_rem h, if_neg (by omega), k4]
      · have hz : ¬ (((t.getD a 0).toNat : Int) == (35 : Int)) = true := by simp only [beq_iff_eq]; omega
        have e := T_step h
        rw [if_neg h35] at e
        have hbl : (if (((t.getD a 0).toNat : Int) == (32 : Int)) = true then some (true)
            else (if (((t.getD a 0).toNat : Int) == (9 : Int)) = true then some (true)
            else (if (((t.getD a 0).toNat : Int) == (10 : Int)) = true then some (true)
            else some ((((t.getD a 0).toNat : Int) == (13 : Int)))))) = some (blaN (t.getD a 0).toNat) := by
          have := rbla (t.getD a 0)
          unfold rules_blank at this
          rw [← this]
          repeat (first | rfl | (split <;> try rfl))
        by_cases hb : blaN (t.getD a 0).toNat = true
        · rw [iter_l (s' := (((a + 1 : Nat) : Int), 0, 0)) (by
            unfold rq_here_v7_L3
            simp only []
            rw [pre, if_pos c2, Int.toNat_natCast, if_neg hz, hbl, hb, wrap_i64 (by omega) (by omega)]
            rfl), ih (a + 1) (by omega) (by omega), e, if_pos hb]
        · rw [if_neg hb] at e
          have hb' : blaN (t.getD a 0).toNat = false := by simpa using hb
          by_cases hl : letN (t.getD a 0).toNat = true
          · have hsn : sgnN (t.getD a 0).toNat = false := by
              have h1 := List.all_eq_true.mp bytes_ok _ (List.mem_range.mpr (u8_lt (t.getD a 0)))
              simp only [Bool.and_eq_true] at h1
              have := h1.1.2
              rw [hl] at this
              simpa using this
            rw [if_pos hl] at e
            apply iter_r
            unfold rq_here_v7_L3
            simp only []
            rw [pre, if_pos c2, Int.toNat_natCast, if_neg hz, hbl, hb', hereR_L2, hsn]
            simp only [Option.bind_some, Bool.false_eq_true, if_false]
            rw [slet, hl, e]
            show _ = some (Sum.inr (Sum.inr ((((List.headD (List.takeWhile (fun x => letN x.toNat) (List.drop a t)) 0).toNat : Nat) : Int), (a : Int), (0 : Int), (0 : Int))))
            rw [drop_cons' (d := 0) h, List.takeWhile_cons, if_pos hl]
            rfl
          · rw [if_neg hl] at e
            have hl' : letN (t.getD a 0).toNat = false := by simpa using hl
            by_cases hs : sgnN (t.getD a 0).toNat = true
            · rw [if_pos hs] at e
              apply iter_r
              unfold rq_here_v7_L3
              simp only []
              rw [pre, if_pos c2, Int.toNat_natCast, if_neg hz, hbl, hb', hereR_L2, hs, e]
              rfl
            · rw [if_neg hs] at e
              have hs' : sgnN (t.getD a 0).toNat = false := by simpa using hs
              rw [iter_l (s' := ((a : Int), 20, (a : Int))) (by
                unfold rq_here_v7_L3
                simp only []
                rw [pre, if_pos c2, Int.toNat_natCast, if_neg hz, hbl, hb', hereR_L2, hs']
                simp only [Option.bind_some, Bool.false_eq_true, if_false]
                rw [slet, hl']
                rfl), e]
              exact iter_r rfl
    · exact hend a (by omega)
theorem hereR {t : List UInt8} (ht : t.length ≤ 10000) {p : Int} {ts : Toks} (h : At t p ts) (d3 d4 d5 d6 o1 o2 o3 o4 o5) : rq_here_v7 t p d3 d4 d5 d6 0 0 o1 o2 o3 o4 o5 = some (hereRS ts) := by
  obtain ⟨h1, h2, rfl⟩ := h
  obtain ⟨a, rfl⟩ := Int.eq_ofNat_of_zero_le h1
  unfold rq_here_v7
  rw [hereR_L3 ht d3 d4 d5 d6 o1 o2 o3 o4 o5 _ a (Nat.le_refl _) (by omega), Int.toNat_natCast]
  cases T t a <;> rfl
/-! Behind a fault nothing is changed. -/
section
variable {c : Int} (hc : c ≠ 0)
include hc
theorem c_false : (c == (0 : Int)) = false := by simpa using hc
theorem here_dead {t p d3 d4 d5 d6 x o1 o2 o3 o4 o5} : rq_here_v7 t p d3 d4 d5 d6 c x o1 o2 o3 o4 o5 = some (0, p, c, x) := by
  unfold rq_here_v7
  rw [iter_r (r := .inl (p, c, x)) (by
    unfold rq_here_v7_L3
    simp only [c_false hc]
    rfl)]
  rfl
theorem bad_dead {e n t p d3 d4 d5 d6 x o1 o2 o3 o4 o5} : rq_bad_v6 e n t p d3 d4 d5 d6 c x o1 o2 o3 o4 o5 = some (c, x) := by
  unfold rq_bad_v6
  rw [c_false hc]
  rfl
theorem word_dead {t p d3 d4 d5 d6 x o1 o2 o3 o4 o5} : rq_word_v8 t p d3 d4 d5 d6 c x o1 o2 o3 o4 o5 = some ([], p, p, c, x) := by
  unfold rq_word_v8
  rw [here_dead hc]
  have hb : (c != (0 : Int)) = true := by simpa using hc
  simp only [Option.bind_some, c_false hc, Bool.false_eq_true, if_false]
  rw [if_pos hb]
theorem sign_dead {s t p d3 d4 d5 d6 x o1 o2 o3 o4 o5} : rq_sign_v6 s t p d3 d4 d5 d6 c x o1 o2 o3 o4 o5 = some (false, p, c, x) := by
  unfold rq_sign_v6
  rw [here_dead hc]
  have hb : (c != (0 : Int)) = true := by simpa using hc
  simp only [Option.bind_some]
  rw [if_pos hb]
  rfl
theorem want_dead {s t p d3 d4 d5 d6 x o1 o2 o3 o4 o5} : rq_want_v3 s t p d3 d4 d5 d6 c x o1 o2 o3 o4 o5 = some (p, c, x) := by
  unfold rq_want_v3
  rw [sign_dead hc]
  simp only [Option.bind_some, Bool.not_false, if_true]
  rw [bad_dead hc]
  rfl
theorem named_dead {t p d3 d4 d5 d6 x o1 o2 o3 o4 o5} : rq_named_v3 t p d3 d4 d5 d6 c x o1 o2 o3 o4 o5 = some (0, p, c, x) := by
  unfold rq_named_v3
  rw [word_dead hc]
  have hb : (c != (0 : Int)) = true := by simpa using hc
  simp only [Option.bind_some]
  rw [if_pos hb]
theorem fresh_dead {t p d3 d4 d5 d6 x o1 o2 o3 o4 o5} : rq_fresh_v5 t p d3 d4 d5 d6 c x o1 o2 o3 o4 o5 = some ([], p, p, c, x) := by
  unfold rq_fresh_v5
  rw [word_dead hc]
  simp only [Option.bind_some, c_false hc, Bool.false_eq_true, if_false]
theorem list_dead_b {s t p d3 d4 d5 d6 x o1 o2 o3 o4 o5 b} : iter (rq_list_v3_L1 s t d3 d4 d5 d6 o1 o2 o3 o4 o5) (p, c, x, b) = some (b, p, c, x) := by
  apply iter_r
  unfold rq_list_v3_L1
  simp only [c_false hc, Option.bind_some, Bool.false_eq_true, if_false]
theorem list_dead {s t p d3 d4 d5 d6 x o1 o2 o3 o4 o5} : rq_list_v3 s t p d3 d4 d5 d6 c x o1 o2 o3 o4 o5 = some (0, p, c, x) := by
  unfold rq_list_v3
  rw [list_dead_b hc]
  rfl
theorem class_dead {t p d3 d4 d5 d6 x o1 o2 o3 o4 o5} : rq_class_v3 t p d3 d4 d5 d6 c x o1 o2 o3 o4 o5 = some (0, p, c, x) := by
  unfold rq_class_v3
  rw [word_dead hc]
  simp only [Option.bind_some]
  rw [iter_r (r := .inl ()) (by
    unfold rq_class_v3_L1
    simp only [c_false hc]
    split <;> rfl)]
  simp only [Option.bind_some]
  rw [bad_dead hc]
  rfl
end
end Go.Proofs.Ytjfjigknkhgkdaa.T
namespace Go.Proofs.Ytjfjigknkhgkdaa.T
open Go Go.Tv Go.Proofs
theorem find_eq {p1 p2 p3 p4 p5 p6 p7 p9 p10 p11 p12 p13} (names : List (List UInt8)) (w : List UInt8) (hl : names.length ≤ 20000) : rq_find_v2 p1 p2 p3 p4 p5 p6 p7 names p9 p10 p11 p12 p13 w = some (if place names w < names.length then (place names w : Int) else -1) := by
  unfold rq_find_v2
  have hle : place names w ≤ names.length := firstN_le _ _
  have hb : ∀ k, k < place names w → rq_find_v2_L1 names w (k : Int) = some (.inl ((k + 1 : Nat) : Int)) := fun k hk => by
    have := firstN_lt (fun i => names.getD i [] == w) names.length hk
    unfold rq_find_v2_L1
    rw [if_pos (by simp; omega), if_pos ⟨by omega, by omega⟩, if_neg (by
      rw [Int.toNat_natCast, this]; simp), wrap_i64 (by omega) (by omega)]
    rfl
  by_cases hp : place names w < names.length
  · have hat := firstN_at (fun i => names.getD i [] == w) names.length hp
    have he : rq_find_v2_L1 names w ((place names w : Nat) : Int) = some (.inr (.inr (place names w : Int))) := by
      unfold rq_find_v2_L1
      rw [if_pos (by simp; omega), if_pos ⟨by omega, by omega⟩, if_pos (by
        rw [Int.toNat_natCast]; exact hat)]
    have := iter_count (fun k : Nat => (k : Int)) (place names w) hb he
    rw [show iter (rq_find_v2_L1 names w) 0 = _ from this, if_pos hp]
    rfl
  · have hpe : place names w = names.length := by omega
    have he : rq_find_v2_L1 names w ((place names w : Nat) : Int) = some (.inr (.inl ())) := by
      unfold rq_find_v2_L1
      rw [if_neg (by simp; omega)]
    have := iter_count (fun k : Nat => (k : Int)) (place names w) hb he
    rw [show iter (rq_find_v2_L1 names w) 0 = _ from this, if_neg hp]
    rfl
theorem look_place : ∀ (names : List (List UInt8)) (bits : List Int) (w : List UInt8), names.length = bits.length → look (names.zip bits) w = if place names w < names.length then some (bits.getD (place names w) 0) else none
  | [], _, w, _ => rfl
  | n :: ns, [], w, h => by cases h
  | n :: ns, b :: bs, w, h => by
    have ih := look_place ns bs w (by simpa using h)
    have hp : place (n :: ns) w = if (n == w) = true then 0 else place ns w + 1 := by
      unfold place
      simp only [List.length_cons, firstN]
      rfl
    have hlk : look ((n :: ns).zip (b :: bs)) w = if (n == w) = true then some b else look (ns.zip bs) w := rfl
    rw [hlk, hp]
    by_cases hn : (n == w) = true
    · rw [if_pos hn, if_pos hn, if_pos (by simp)]
      rfl
    · rw [if_neg hn, if_neg hn, ih]
      by_cases hq : place ns w < ns.length
      · rw [if_pos hq, if_pos (by simp only [List.length_cons]; omega)]; rfl
      · rw [if_neg hq, if_neg (by simp only [List.length_cons]; omega)]
structure Nm (names : List (List UInt8)) (bits : List Int) (sets : Sets) : Prop where
  hz : sets = names.zip bits
  hlen : names.length = bits.length
theorem Nm.look {names bits sets} (h : Nm names bits sets) (w : List UInt8) : look sets w = if place names w < names.length then some (bits.getD (place names w) 0) else none := by
  rw [h.hz]; exact look_place names bits w h.hlen
theorem Nm.add {names bits sets} (h : Nm names bits sets) (w : List UInt8) (b : Int) : Nm (names ++ [w]) (bits ++ [b]) (sets ++ [(w, b)]) :=
  ⟨by rw [h.hz, List.zip_append h.hlen]; rfl, by simp [h.hlen]⟩
section
variable {t : List UInt8} (ht : t.length ≤ 10000)
include ht
theorem wordR {p : Int} {ts : Toks} (h : At t p ts) (d3 d4 d5 d6 o1 o2 o3 o4 o5) : OkR (fun a => a.2.2.2) (rq_word_v8 t p d3 d4 d5 d6 0 0 o1 o2 o3 o4 o5) (wordS ts) (fun a b => a.1 = b.1 ∧ a.2.1 = b.2.1 ∧ At t a.2.2.1 b.2.2) := by
  unfold rq_word_v8
  have e00 : ((0 : Int) == 0) = true := rfl
  have n00 : ((0 : Int) != 0) = false := rfl
  have hh := hereR ht h d3 d4 d5 d6 o1 o2 o3 o4 o5
  cases ts with
  | bad n =>
    rw [hh]
    exact ⟨([], n, n, 20, n), rfl, rfl, by show (20 : Int) ≠ 0; decide⟩
  | eof n =>
    rw [hh, show hereRS (.eof n) = (((0 : Nat) : Int), (n : Int), 0, 0) from rfl]
    simp only [Option.bind_some, wordS, e00, if_true]
    rw [(byte_all (show 0 < 256 by decide)).2.2.1]
    exact ⟨([], n, n, 21, n), rfl, rfl, by show (21 : Int) ≠ 0; decide⟩
  | sg c n r =>
    obtain ⟨h1, h2, h3, h4, h5⟩ := h.sg
    rw [hh, show hereRS (.sg c n r) = ((c : Int), (n : Int), 0, 0) from rfl]
    simp only [Option.bind_some, wordS, e00, if_true]
    rw [(byte_all h3).2.2.1, h1]
    exact ⟨([], n, n, 21, n), rfl, rfl, by show (21 : Int) ≠ 0; decide⟩
  | wd w n r =>
    obtain ⟨h1, h2, h3, h4, h5⟩ := h.wd
    rw [hh, show hereRS (.wd w n r) = ((((w.headD 0).toNat : Nat) : Int), (n : Int), 0, 0) from rfl]
    simp only [Option.bind_some, wordS, e00, if_true]
    rw [slet, h1]
    simp only [Option.bind_some, Bool.not_true, Bool.false_eq_true, if_false, n00]
    rw [wordR_L1 ht _ n (Nat.le_refl _) (by omega), ← h2]
    simp only [Option.bind_some]
    rw [if_pos ⟨by omega, by omega, by omega⟩]
    refine ⟨_, rfl, rfl, ?_, rfl, h4⟩
    simp only [Int.toNat_natCast]
    exact take_drop_word h2
theorem signR {c : Nat} (hc : letN c = false) (hc0 : c ≠ 0) {p : Int} {ts : Toks} (h : At t p ts) (d3 d4 d5 d6 o1 o2 o3 o4 o5) : OkR (fun a => a.2.2) (rq_sign_v6 (c : Int) t p d3 d4 d5 d6 0 0 o1 o2 o3 o4 o5) (signS c ts) (fun a b => a.1 = b.1 ∧ At t a.2.1 b.2 ∧ (a.1 = false → a.2.1 = b.2.pos)) := by
  unfold rq_sign_v6
  rw [hereR ht h]
  simp only [Option.bind_some]
  have hq := h.posn
  have n00 : ((0 : Int) != 0) = false := rfl
  cases ts with
  | bad n => exact ⟨(false, n, 20, n), rfl, rfl, by show (20 : Int) ≠ 0; decide⟩
  | eof n =>
    simp only [hereRS, Toks.hd, Toks.pos, signS, n00, Option.bind_some, Bool.false_eq_true, if_false]
    rw [if_pos (by rw [bne_iff_ne]; omega)]
    exact ⟨_, rfl, rfl, rfl, hq, fun _ => rfl⟩
  | sg d n r =>
    obtain ⟨h1, h2, h3, h4, h5⟩ := h.sg
    simp only [hereRS, Toks.hd, Toks.pos, signS, n00, Option.bind_some, Bool.false_eq_true, if_false]
    by_cases hd : d = c
    · rw [if_neg (by simp [hd]), if_pos hd, wrap_i64 (by omega) (by omega)]
      exact ⟨_, rfl, rfl, rfl, h4, fun h => by cases h⟩
    · rw [if_pos (by rw [bne_iff_ne]; omega), if_neg hd]
      exact ⟨_, rfl, rfl, rfl, hq, fun _ => rfl⟩
  | wd w n r =>
    obtain ⟨h1, h2, h3, h4, h5⟩ := h.wd
    simp only [hereRS, Toks.hd, Toks.pos, signS, n00, Option.bind_some, Bool.false_eq_true, if_false]
    rw [if_pos (by rw [bne_iff_ne]; exact letN_not hc h1)]
    exact ⟨_, rfl, rfl, rfl, hq, fun _ => rfl⟩
theorem wantR {c : Nat} (hc : letN c = false) (hc0 : c ≠ 0) {p : Int} {ts : Toks} (h : At t p ts) (d3 d4 d5 d6 o1 o2 o3 o4 o5) : OkR (fun a => a.2) (rq_want_v3 (c : Int) t p d3 d4 d5 d6 0 0 o1 o2 o3 o4 o5) (wantS c ts) (fun a b => At t a.1 b) := by
  have hs := signR ht hc hc0 h d3 d4 d5 d6 o1 o2 o3 o4 o5
  unfold rq_want_v3
  have live : signS c ts = .inl (false, ts) → wantS c ts = .inr (21, (ts.pos : Int)) → OkR (fun a => a.2) ((rq_sign_v6 (c : Int) t p d3 d4 d5 d6 0 0 o1 o2 o3 o4 o5).bind fun ((r22, r23, r24, r25) : Bool × Int × Int × Int) =>
      (((if (!r22) = true then ((rq_bad_v6 (21 : Int) r23 t r23 d3 d4 d5 d6 r24 r25 o1 o2 o3 o4 o5).bind fun ((r32, r33) : Int × Int) => some ((r32, r33)))
      else some ((r24, r25)))).bind fun ((v6, v7) : Int × Int) => some (r23, v6, v7))) (wantS c ts) (fun a b => At t a.1 b) := fun h1 h2 => by
    rw [h1] at hs
    obtain ⟨⟨b, q, u, v⟩, h1, h2', h3, h4, h5⟩ := hs
    cases h2'
    cases (show b = false from h3)
    rw [h1, h2]
    exact ⟨(q, 21, q), rfl, by show ((21, q) : Er) = (21, (ts.pos : Int)); rw [show q = _ from h5 rfl], by show (21 : Int) ≠ 0; decide⟩
  cases ts with
  | bad n =>
    obtain ⟨⟨b, q, u, v⟩, h1, h2, h3⟩ := hs
    cases h2
    rw [h1]
    cases b
    · exact ⟨(q, 20, n), rfl, rfl, by show (20 : Int) ≠ 0; decide⟩
    · exact ⟨(q, 20, n), rfl, rfl, by show (20 : Int) ≠ 0; decide⟩
  | eof n => exact live rfl rfl
  | wd w n r => exact live rfl rfl
  | sg d n r =>
    simp only [signS, wantS] at live hs ⊢
    by_cases hd : d = c
    · rw [if_pos hd] at hs ⊢
      obtain ⟨⟨b, q, u, v⟩, h1, h2', h3, h4, h5⟩ := hs
      cases h2'
      cases (show b = true from h3)
      rw [h1]
      exact ⟨_, rfl, rfl, h4⟩
    · exact live (by rw [if_neg hd]) (by rw [if_neg hd]; rfl)
theorem freshR {p : Int} {ts : Toks} (h : At t p ts) (d3 d4 d5 d6 o1 o2 o3) {o4 o5 sets} (hn : Nm o4 o5 sets) (hl : o4.length ≤ 20000) : OkR (fun a => a.2.2.2) (rq_fresh_v5 t p d3 d4 d5 d6 0 0 o1 o2 o3 o4 o5) (freshS sets ts) (fun a b => a.1 = b.1 ∧ a.2.1 = b.2.1 ∧ At t a.2.2.1 b.2.2) := by
  unfold rq_fresh_v5
  refine (wordR ht h d3 d4 d5 d6 o1 o2 o3 o4 o5).bind ?_ ?_
  · rintro ⟨w, n, q, c, x⟩ hy hc
    change c ≠ 0 at hc
    refine ⟨by simp only [freshS, hy], ?_⟩
    simp only [c_false hc, Bool.false_eq_true, if_false, Option.bind_some]
    exact ⟨_, rfl, rfl⟩
  · rintro ⟨w, n, q, c, x⟩ ⟨w', n', r⟩ hy hcd ⟨h1, h2, h3⟩
    dsimp only at h1 h2 h3
    cases hcd; subst h1; subst h2
    have hlk := hn.look w
    simp only [freshS, hy]
    simp only [find_eq o4 w hl, BEq.rfl, if_true, Option.bind_some]
    by_cases hp : place o4 w < o4.length
    · rw [if_pos hp] at hlk ⊢
      rw [hlk, decide_eq_true (by omega)]
      exact ⟨(w, n, q, 23, n), rfl, rfl, by show (23 : Int) ≠ 0; decide⟩
    · rw [if_neg hp] at hlk ⊢
      rw [hlk, show decide ((-1 : Int) ≥ 0) = false from rfl]
      exact ⟨(w, n, q, 0, 0), rfl, rfl, rfl, rfl, h3⟩
theorem namedR {p : Int} {ts : Toks} (h : At t p ts) (d3 d4 d5 d6 o1 o2 o3) {o4 o5 sets} (hn : Nm o4 o5 sets) (hl : o4.length ≤ 20000) : OkR (fun a => a.2.2) (rq_named_v3 t p d3 d4 d5 d6 0 0 o1 o2 o3 o4 o5) (namedS sets ts) (fun a b => a.1 = b.1 ∧ At t a.2.1 b.2) := by
  unfold rq_named_v3
  refine (wordR ht h d3 d4 d5 d6 o1 o2 o3 o4 o5).bind ?_ ?_
  · rintro ⟨w, n, q, c, x⟩ hy hc
    change c ≠ 0 at hc
    refine ⟨by simp only [namedS, hy], ?_⟩
    simp only []
    rw [if_pos (by rw [bne_iff_ne]; exact hc)]
    exact ⟨_, rfl, rfl⟩
  · rintro ⟨w, n, q, c, x⟩ ⟨w', n', r⟩ hy hcd ⟨h1, h2, h3⟩
    dsimp only at h1 h2 h3
    cases hcd; subst h1; subst h2
    have hlk := hn.look w
    simp only [namedS, hy]
    simp only [find_eq o4 w hl, bne_self_eq_false, Bool.false_eq_true, if_false, Option.bind_some]
    by_cases hp : place o4 w < o4.length
    · have := hn.hlen
      rw [if_pos hp] at hlk ⊢
      rw [hlk, if_neg (by simp), if_pos ⟨by omega, by omega⟩, if_pos (by omega)]
      exact ⟨_, rfl, rfl, rfl, h3⟩
    · rw [if_neg hp] at hlk ⊢
      rw [hlk, if_pos (by decide)]
      exact ⟨(0, q, 22, n), rfl, rfl, by show (22 : Int) ≠ 0; decide⟩
theorem classR {p : Int} {ts : Toks} (h : At t p ts) (d3 d4 d5 d6 o1 o2 o3 o4 o5) (hl : o1.length ≤ 24) : OkR (fun a => a.2.2) (rq_class_v3 t p d3 d4 d5 d6 0 0 o1 o2 o3 o4 o5) (oneS o1 ts) (fun a b => a.1 = b.1 ∧ At t a.2.1 b.2) := by
  unfold rq_class_v3
  refine (wordR ht h d3 d4 d5 d6 o1 o2 o3 o4 o5).bind ?_ ?_
  · rintro ⟨w, n, q, c, x⟩ hy hc
    change c ≠ 0 at hc
    refine ⟨by simp only [oneS, hy], ?_⟩
    simp only []
    rw [iter_r (r := .inl ()) (by
      unfold rq_class_v3_L1
      simp only [c_false hc]
      split <;> rfl)]
    simp only [Option.bind_some]
    rw [bad_dead hc]
    exact ⟨_, rfl, rfl⟩
  · rintro ⟨w, n, q, c, x⟩ ⟨w', n', r⟩ hy hcd ⟨h1, h2, h3⟩
    dsimp only at h1 h2 h3
    cases hcd; subst h1; subst h2
    simp only [oneS, hy]
    have hle : place o1 w ≤ o1.length := firstN_le _ _
    have pre : ∀ (k : Nat), k < o1.length → ((if decide ((k : Int) < (o1.length : Int)) = true then some ((0 : Int) == 0) else some false) : Option Bool) = some true := fun k hk => by
      rw [if_pos (by simp; omega)]; rfl
    have hb : ∀ k, k < place o1 w → rq_class_v3_L1 o1 w q 0 0 (k : Int) = some (.inl ((k + 1 : Nat) : Int)) := fun k hk => by
      have := firstN_lt (fun i => o1.getD i [] == w) o1.length hk
      unfold rq_class_v3_L1
      rw [pre k (by omega)]
      simp only [Option.bind_some, if_true]
      rw [if_pos ⟨by omega, by omega⟩, if_pos (by omega), if_neg (by
        rw [Int.toNat_natCast, this]; simp), wrap_i64 (by omega) (by omega)]
      rfl
    by_cases hp : place o1 w < o1.length
    · have hat := firstN_at (fun i => o1.getD i [] == w) o1.length hp
      have he : rq_class_v3_L1 o1 w q 0 0 ((place o1 w : Nat) : Int) = some (.inr (.inr ((place o1 w : Int), q, 0, 0))) := by
        unfold rq_class_v3_L1
        rw [pre _ hp]
        simp only [Option.bind_some, if_true]
        rw [if_pos ⟨by omega, by omega⟩, if_pos (by omega), if_pos (by
          rw [Int.toNat_natCast]; exact hat)]
      have := iter_count (fun k : Nat => (k : Int)) (place o1 w) hb he
      rw [show iter (rq_class_v3_L1 o1 w q 0 0) 0 = _ from this, if_pos hp]
      exact ⟨_, rfl, rfl, rfl, h3⟩
    · have hpe : place o1 w = o1.length := by omega
      have he : rq_class_v3_L1 o1 w q 0 0 ((place o1 w : Nat) : Int) = some (.inr (.inl ())) := by
        unfold rq_class_v3_L1
        rw [if_neg (by simp; omega)]
        rfl
      have := iter_count (fun k : Nat => (k : Int)) (place o1 w) hb he
      rw [show iter (rq_class_v3_L1 o1 w q 0 0) 0 = _ from this, if_neg hp]
      exact ⟨(0, q, 22, n), rfl, rfl, by show (22 : Int) ≠ 0; decide⟩
theorem listR_L1 {c : Nat} (hc : letN c = false) (hc0 : c ≠ 0) (d3 d4 d5 d6 o1 o2 o3) {o4 o5 sets} (hn : Nm o4 o5 sets) (hl : o4.length ≤ 20000) : ∀ (ts : Toks) (p b : Int), At t p ts → OkR (fun a => a.2.2) (iter (rq_list_v3_L1 (c : Int) t d3 d4 d5 d6 o1 o2 o3 o4 o5) (p, 0, 0, b)) (listS c sets ts b) (fun a b => a.1 = b.1 ∧ At t a.2.1 b.2) := by
  -- the fault of a word that isn't a name
  have fault : ∀ (ts : Toks) (p b n e : Int), At t p ts → signS c ts = .inl (false, ts) → namedS sets ts = .inr (e, n) → e ≠ 0 → ∃ a, iter (rq_list_v3_L1 (c : Int) t d3 d4 d5 d6 o1 o2 o3 o4 o5) (p, 0, 0, b) = some a ∧ a.2.2 = (e, n) := fun ts p b n e h h1 h2 he => by
    have hs := signR ht hc hc0 h d3 d4 d5 d6 o1 o2 o3 o4 o5
    rw [h1] at hs
    obtain ⟨⟨b1, q1, u, v⟩, k1, k2, k3, k4, k5⟩ := hs
    cases k2
    cases (show b1 = false from k3)
    have hm := namedR ht k4 d3 d4 d5 d6 o1 o2 o3 hn hl
    rw [h2] at hm
    obtain ⟨⟨m1, m2, m3, m4⟩, k6, k7, k8⟩ := hm
    cases k7
    rw [iter_l (s' := (m2, e, n, bitsOf .or .u32 b m1)) (by
      unfold rq_list_v3_L1
      simp only [BEq.rfl, if_true]
      rw [k1]
      simp only [Option.bind_some, Bool.not_false, if_true]
      dsimp only at k6
      rw [k6]
      rfl), list_dead_b he]
    exact ⟨_, rfl, rfl⟩
  intro ts
  induction ts with
  | bad n =>
    intro p b h
    have hs := signR ht hc hc0 h d3 d4 d5 d6 o1 o2 o3 o4 o5
    obtain ⟨⟨b1, q1, u, v⟩, k1, k2, k3⟩ := hs
    cases k2
    have hb : iter (rq_list_v3_L1 (c : Int) t d3 d4 d5 d6 o1 o2 o3 o4 o5) (p, 0, 0, b) = (if b1 then some (b, q1, 20, (n : Int)) else (iter (rq_list_v3_L1 (c : Int) t d3 d4 d5 d6 o1 o2 o3 o4 o5) (q1, 20, (n : Int), bitsOf .or .u32 b 0))) := by
      cases b1 with
      | true =>
        apply iter_r
        unfold rq_list_v3_L1
        simp only [BEq.rfl, if_true]
        rw [k1]
        rfl
      | false =>
        rw [if_neg (by decide)]
        apply iter_l
        unfold rq_list_v3_L1
        simp only [BEq.rfl, if_true]
        rw [k1]
        simp only [Option.bind_some, Bool.not_false, if_true]
        rw [named_dead (by decide)]
        rfl
    rw [hb]
    cases b1 with
    | true => exact ⟨_, rfl, rfl, by show (20 : Int) ≠ 0; decide⟩
    | false =>
      rw [if_neg (by decide), list_dead_b (by decide)]
      exact ⟨_, rfl, rfl, by show (20 : Int) ≠ 0; decide⟩
  | eof n =>
    intro p b h
    obtain ⟨a, h1, h2⟩ := fault _ p b n 21 h rfl rfl (by decide)
    exact ⟨a, h1, h2, by show (21 : Int) ≠ 0; decide⟩
  | sg d n r ih =>
    intro p b h
    simp only [listS]
    by_cases hd : d = c
    · have hs := signR ht hc hc0 h d3 d4 d5 d6 o1 o2 o3 o4 o5
      simp only [signS, if_pos hd] at hs
      rw [if_pos hd]
      obtain ⟨⟨b1, q1, u, v⟩, k1, k2, k3, k4, k5⟩ := hs
      cases k2
      cases (show b1 = true from k3)
      refine ⟨(b, q1, 0, 0), iter_r ?_, rfl, rfl, k4⟩
      unfold rq_list_v3_L1
      simp only [BEq.rfl, if_true]
      rw [k1]
      rfl
    · rw [if_neg hd]
      obtain ⟨a, h1, h2⟩ := fault _ p b n 21 h (by simp only [signS, if_neg hd]) rfl (by decide)
      exact ⟨a, h1, h2, by show (21 : Int) ≠ 0; decide⟩
  | wd w n r ih =>
    intro p b h
    simp only [listS]
    cases hlk : look sets w with
    | none =>
      obtain ⟨a, h1, h2⟩ := fault _ p b n 22 h rfl (by simp only [namedS, wordS, hlk]) (by decide)
      exact ⟨a, h1, h2, by show (22 : Int) ≠ 0; decide⟩
    | some x =>
      have hs := signR ht hc hc0 h d3 d4 d5 d6 o1 o2 o3 o4 o5
      obtain ⟨⟨b1, q1, u, v⟩, k1, k2, k3, k4, k5⟩ := hs
      cases k2
      cases (show b1 = false from k3)
      have hm := namedR ht k4 d3 d4 d5 d6 o1 o2 o3 hn hl
      simp only [namedS, wordS, hlk] at hm
      obtain ⟨⟨m1, m2, m3, m4⟩, k6, k7, k8, k9⟩ := hm
      cases k7
      dsimp only at k8 k9 k6
      subst k8
      rw [iter_l (s' := (m2, 0, 0, bitsOf .or .u32 b m1)) (by
        unfold rq_list_v3_L1
        simp only [BEq.rfl, if_true]
        rw [k1]
        simp only [Option.bind_some, Bool.not_false, if_true]
        rw [k6]
        rfl)]
      exact ih m2 _ k9
theorem listR {c : Nat} (hc : letN c = false) (hc0 : c ≠ 0) {p : Int} {ts : Toks} (h : At t p ts) (d3 d4 d5 d6 o1 o2 o3) {o4 o5 sets} (hn : Nm o4 o5 sets) (hl : o4.length ≤ 20000) : OkR (fun a => a.2.2) (rq_list_v3 (c : Int) t p d3 d4 d5 d6 0 0 o1 o2 o3 o4 o5) (listS c sets ts 0) (fun a b => a.1 = b.1 ∧ At t a.2.1 b.2) := by
  have := listR_L1 ht hc hc0 d3 d4 d5 d6 o1 o2 o3 hn hl ts p 0 h
  unfold rq_list_v3
  refine this.bind ?_ ?_
  · rintro ⟨w, n, q, c⟩ hy hc
    exact ⟨hy, _, rfl, rfl⟩
  · rintro ⟨w, n, q, c⟩ ⟨x, r⟩ hy hcd ⟨h1, h2⟩
    rw [hy]
    exact ⟨_, rfl, hcd, h1, h2⟩
end
end Go.Proofs.Ytjfjigknkhgkdaa.T
namespace Go.Proofs.Ytjfjigknkhgkdaa.T
open Go Go.Tv Go.Proofs
abbrev RTR (t : List UInt8) (deep : Int) (a : Tree × Int × Int × Int × Int × Int) (b : Tree × Toks × Int) : Prop := a.1 = b.1 ∧ At t a.2.1 b.2.1 ∧ a.2.2.1 = b.2.2 ∧ a.2.2.2.1 = deep ∧ 0 ≤ b.2.2 ∧ b.2.2 ≤ 200
abbrev RecF := List UInt8 → Int → Int → Int → Int → Int → Int → Int → List (List UInt8) → List Int → RL → List (List UInt8) → List Int → Option (Tree × Int × Int × Int × Int × Int)
def RecR (t : List UInt8) (rec : RecF) (E : Option (Int → Toks → TR)) (deep : Int) (d3 d4 : Int) (o1 : List (List UInt8)) (o2 : List Int) (o3 : RL) (o4 : List (List UInt8)) (o5 : List Int) : Prop :=
  0 ≤ deep ∧ deep ≤ 16 ∧ match E with
  | none => deep = 16
  | some f => deep < 16 ∧ ∀ p ts pl, At t p ts → 0 ≤ pl → pl ≤ 200 → OkR (fun a => a.2.2.2.2) (rec t p d3 d4 pl (deep + 1) 0 0 o1 o2 o3 o4 o5) (f pl ts) (RTR t (deep + 1))
theorem whole_eq {p1 p2 p4 p5 p6 p7 p8 p9 p10 p11 p12 p13} (o1 : List (List UInt8)) : rq_whole_v1 p1 p2 o1 p4 p5 p6 p7 p8 p9 p10 p11 p12 p13 = some (wholeI o1.length) := by
  unfold rq_whole_v1
  rw [if_pos (by omega)]
  rfl
section
variable {t : List UInt8} (ht : t.length ≤ 10000)
include ht
theorem sign_bad {c : Nat} {p : Int} {n : Nat} (h : At t p (.bad n)) (d3 d4 d5 d6 o1 o2 o3 o4 o5) : rq_sign_v6 (c : Int) t p d3 d4 d5 d6 0 0 o1 o2 o3 o4 o5 = some (false, (n : Int), 20, (n : Int)) := by
  unfold rq_sign_v6
  rw [hereR ht h]
  rfl
theorem sign_no {c : Nat} (hc : letN c = false) (hc0 : c ≠ 0) {p : Int} {ts : Toks} (h : At t p ts) (hs : signS c ts = .inl (false, ts)) (d3 d4 d5 d6 o1 o2 o3 o4 o5) : rq_sign_v6 (c : Int) t p d3 d4 d5 d6 0 0 o1 o2 o3 o4 o5 = some (false, (ts.pos : Int), 0, 0) := by
  have s := signR ht hc hc0 h d3 d4 d5 d6 o1 o2 o3 o4 o5
  rw [hs] at s
  obtain ⟨⟨b1, q1, u, v⟩, k1, k2, k3, k4, k5⟩ := s
  cases k2
  cases (show b1 = false from k3)
  cases (show q1 = _ from k5 rfl)
  exact k1
theorem sign_yes {c : Nat} (hc : letN c = false) (hc0 : c ≠ 0) {p : Int} {ts r : Toks} (h : At t p ts) (hs : signS c ts = .inl (true, r)) (d3 d4 d5 d6 o1 o2 o3 o4 o5) : ∃ q, rq_sign_v6 (c : Int) t p d3 d4 d5 d6 0 0 o1 o2 o3 o4 o5 = some (true, q, 0, 0) ∧ At t q r := by
  have s := signR ht hc hc0 h d3 d4 d5 d6 o1 o2 o3 o4 o5
  rw [hs] at s
  obtain ⟨⟨b1, q1, u, v⟩, k1, k2, k3, k4, k5⟩ := s
  cases k2
  cases (show b1 = true from k3)
  exact ⟨q1, k1, k4⟩
theorem thingR {rec E deep d3 d4 o1 o2 o3 o4 o5 sets} (hn : Nm o4 o5 sets) (hnl : o4.length ≤ 20000) (hr : RecR t rec E deep d3 d4 o1 o2 o3 o4 o5) {ts : Toks} (hth : isTh ts = true) (h : At t ts.pos ts) {pl : Int} (hp0 : 0 ≤ pl) (hp1 : pl ≤ 200) :
    OkR (fun a => a.2.2.2.2) (rq_thing_v5 rec t ts.pos d3 d4 pl deep 0 0 o1 o2 o3 o4 o5) (thingS E (wholeI o1.length) sets pl ts) (RTR t deep) := by
  obtain ⟨g0, g1, g2⟩ := hr
  have w1 : IntKind.i64.wrap (pl + 1) = pl + 1 := wrap_i64 (by omega) (by omega)
  have w2 : IntKind.i64.wrap (deep + 1) = deep + 1 := wrap_i64 (by omega) (by omega)
  unfold rq_thing_v5
  rw [w1, w2]
  cases ts with
  | bad n => cases hth
  | eof n => cases hth
  | wd w n r =>
    rw [show rq_sign_v6 40 t _ d3 d4 pl deep 0 0 o1 o2 o3 o4 o5 = _ from sign_no ht (c := 40) (by decide) (by decide) h rfl d3 d4 pl deep o1 o2 o3 o4 o5]
    simp only [Option.bind_some, Bool.false_eq_true, if_false, thingS]
    by_cases hpl : pl + 1 > 200
    · rw [if_pos (by simpa using hpl), if_pos hpl]
      exact ⟨_, rfl, rfl, by show (26 : Int) ≠ 0; decide⟩
    · rw [if_neg (by simpa using hpl), if_neg hpl]
      rw [show rq_sign_v6 46 t _ d3 d4 _ deep 0 0 o1 o2 o3 o4 o5 = _ from sign_no ht (c := 46) (by decide) (by decide) h rfl d3 d4 (pl + 1) deep o1 o2 o3 o4 o5]
      simp only [Option.bind_some, Bool.false_eq_true, if_false]
      rw [show rq_sign_v6 91 t _ d3 d4 _ deep 0 0 o1 o2 o3 o4 o5 = _ from sign_no ht (c := 91) (by decide) (by decide) h rfl d3 d4 (pl + 1) deep o1 o2 o3 o4 o5]
      simp only [Option.bind_some, Bool.false_eq_true, if_false]
      have hm := namedR ht h d3 d4 (pl + 1) deep o1 o2 o3 hn hnl
      simp only [namedS, wordS] at hm
      cases hl : look sets w with
      | none =>
        rw [hl] at hm
        obtain ⟨⟨a1, a2, a3, a4⟩, k1, k2, k3⟩ := hm
        cases k2
        rw [k1]
        exact ⟨_, rfl, rfl, by show (22 : Int) ≠ 0; decide⟩
      | some x =>
        rw [hl] at hm
        obtain ⟨⟨x', q, a3, a4⟩, k1, k2, k3, k4⟩ := hm
        cases k2
        rw [k1]
        dsimp only at k3 k4
        subst k3
        exact ⟨_, rfl, rfl, rfl, k4, rfl, rfl, by show (0 : Int) ≤ pl + 1; omega, by show pl + 1 ≤ (200 : Int); omega⟩
  | sg d n r =>
    simp only [thingS]
    by_cases hd : d = 40
    · rw [if_pos hd]
      obtain ⟨q1, e1, e3⟩ := sign_yes ht (c := 40) (by decide) (by decide) h (show signS 40 (.sg d n r) = .inl (true, r) by simp only [signS, if_pos hd]) d3 d4 pl deep o1 o2 o3 o4 o5
      rw [show rq_sign_v6 40 t _ d3 d4 pl deep 0 0 o1 o2 o3 o4 o5 = _ from e1]
      simp only [Option.bind_some, if_true]
      cases E with
      | none =>
        rw [if_pos (by simp; simp only [] at g2; omega)]
        exact ⟨_, rfl, rfl, by show (25 : Int) ≠ 0; decide⟩
      | some f =>
        obtain ⟨g3, g4⟩ := g2
        rw [if_neg (by simp; omega)]
        refine (g4 q1 r pl e3 hp0 hp1).bind ?_ ?_
        · rintro ⟨x, q, a3, a4, c, y⟩ hy hc
          change c ≠ 0 at hc
          refine ⟨by simp only [hy], ?_⟩
          simp only [want_dead hc]
          exact ⟨_, rfl, rfl⟩
        · rintro ⟨x, q, a3, a4, c, y⟩ ⟨x', r1, b3⟩ hy hcd ⟨m1, m2, m3, m4, m5, m6⟩
          cases hcd
          dsimp only at m1 m2 m3 m4 m5 m6
          subst m1; subst m3; subst m4
          simp only [hy]
          refine (wantR ht (c := 41) (by decide) (by decide) m2 d3 d4 _ _ o1 o2 o3 o4 o5).bind ?_ ?_
          · rintro ⟨q2, c, y⟩ hy2 hc
            exact ⟨by simp only [hy2], _, rfl, rfl⟩
          · rintro ⟨q2, c, y⟩ r2 hy2 hcd m7
            cases hcd
            simp only [hy2]
            refine ⟨_, rfl, rfl, Tree.eta _, m7, rfl, ?_, m5, m6⟩
            show IntKind.i64.wrap (deep + 1 - 1) = deep
            rw [wrap_i64 (by omega) (by omega)]; omega
    · rw [if_neg hd]
      rw [show rq_sign_v6 40 t _ d3 d4 pl deep 0 0 o1 o2 o3 o4 o5 = _ from sign_no ht (c := 40) (by decide) (by decide) h (by simp only [signS, if_neg hd]) d3 d4 pl deep o1 o2 o3 o4 o5]
      simp only [Option.bind_some, Bool.false_eq_true, if_false]
      by_cases hpl : pl + 1 > 200
      · rw [if_pos (by simpa using hpl), if_pos hpl]
        exact ⟨_, rfl, rfl, by show (26 : Int) ≠ 0; decide⟩
      · rw [if_neg (by simpa using hpl), if_neg hpl]
        by_cases hd2 : d = 46
        · rw [if_pos hd2]
          obtain ⟨q2, f1, f3⟩ := sign_yes ht (c := 46) (by decide) (by decide) h (show signS 46 (.sg d n r) = .inl (true, r) by simp only [signS, if_pos hd2]) d3 d4 (pl + 1) deep o1 o2 o3 o4 o5
          rw [show rq_sign_v6 46 t _ d3 d4 _ deep 0 0 o1 o2 o3 o4 o5 = _ from f1]
          simp only [Option.bind_some, if_true, whole_eq]
          exact ⟨_, rfl, rfl, rfl, f3, rfl, rfl, by show (0 : Int) ≤ pl + 1; omega, by show pl + 1 ≤ (200 : Int); omega⟩
        · rw [if_neg hd2]
          rw [show rq_sign_v6 46 t _ d3 d4 _ deep 0 0 o1 o2 o3 o4 o5 = _ from sign_no ht (c := 46) (by decide) (by decide) h (by simp only [signS, if_neg hd2]) d3 d4 (pl + 1) deep o1 o2 o3 o4 o5]
          simp only [Option.bind_some, Bool.false_eq_true, if_false]
          have hd3 : d = 91 := by
            simp only [isTh, Bool.or_eq_true, beq_iff_eq] at hth
            omega
          obtain ⟨q3, k1, k3⟩ := sign_yes ht (c := 91) (by decide) (by decide) h (show signS 91 (.sg d n r) = .inl (true, r) by simp only [signS, if_pos hd3]) d3 d4 (pl + 1) deep o1 o2 o3 o4 o5
          rw [show rq_sign_v6 91 t _ d3 d4 _ deep 0 0 o1 o2 o3 o4 o5 = _ from k1]
          simp only [Option.bind_some, if_true]
          refine (signR ht (c := 94) (by decide) (by decide) k3 d3 d4 (pl + 1) deep o1 o2 o3 o4 o5).bind ?_ ?_
          · rintro ⟨b, q, c, y⟩ hy hc
            change c ≠ 0 at hc
            refine ⟨by simp only [hy], ?_⟩
            simp only [list_dead hc, whole_eq, Option.bind_some]
            cases b <;> exact ⟨_, rfl, rfl⟩
          · rintro ⟨b, q, c, y⟩ ⟨neg, r1⟩ hy hcd ⟨m1, m2, m3⟩
            cases hcd
            dsimp only at m1 m2 m3
            subst m1
            simp only [hy]
            refine (listR ht (c := 93) (by decide) (by decide) m2 d3 d4 (pl + 1) deep o1 o2 o3 hn hnl).bind ?_ ?_
            · rintro ⟨x, q, c, y⟩ hy hc
              refine ⟨by simp only [hy], ?_⟩
              simp only [whole_eq, Option.bind_some]
              cases b <;> exact ⟨_, rfl, rfl⟩
            · rintro ⟨x, q, c, y⟩ ⟨x', r2⟩ hy hcd ⟨n1, n2⟩
              cases hcd
              dsimp only at n1 n2
              subst n1
              simp only [hy, whole_eq, Option.bind_some]
              cases b with
              | true => exact ⟨_, rfl, rfl, rfl, n2, rfl, rfl, by show (0 : Int) ≤ pl + 1; omega, by show pl + 1 ≤ (200 : Int); omega⟩
              | false => exact ⟨_, rfl, rfl, rfl, n2, rfl, rfl, by show (0 : Int) ≤ pl + 1; omega, by show pl + 1 ≤ (200 : Int); omega⟩
end
section
variable {c : Int} (hc : c ≠ 0)
include hc
theorem row_dead_b {rec t p d3 d4 pl dp x o1 o2 o3 o4 o5 acc} : iter (rq_row_v7_L1 t d3 d4 o1 o2 o3 o4 o5 rec) (p, pl, dp, c, x, acc) = some (acc, p, pl, dp, c, x) := by
  apply iter_r
  unfold rq_row_v7_L1
  have hb : (c != (0 : Int)) = true := by simpa using hc
  simp only [here_dead hc, Option.bind_some, hb, if_true]
theorem row_dead {rec t p d3 d4 pl dp x o1 o2 o3 o4 o5} : rq_row_v7 rec t p d3 d4 pl dp c x o1 o2 o3 o4 o5 = some (.node 0 0 [], p, pl, dp, c, x) := by
  unfold rq_row_v7
  rw [row_dead_b hc]
  rfl
theorem alt_dead_b {rec t p d3 d4 pl dp x o1 o2 o3 o4 o5 acc} : iter (rq_either_v3_L1 t d3 d4 o1 o2 o3 o4 o5 rec) (p, pl, dp, c, x, acc) = some (acc, p, pl, dp, c, x) := by
  apply iter_r
  unfold rq_either_v3_L1
  simp only [sign_dead hc, Option.bind_some, Bool.false_eq_true, if_false]
theorem either_dead {n t p d3 d4 pl dp x o1 o2 o3 o4 o5} : rq_either_v3 (n + 1) t p d3 d4 pl dp c x o1 o2 o3 o4 o5 = some (.node 0 0 [], p, pl, dp, c, x) := by
  show rq_either_v3_F _ t p d3 d4 pl dp c x o1 o2 o3 o4 o5 = _
  unfold rq_either_v3_F
  rw [row_dead hc]
  simp only [Option.bind_some]
  rw [alt_dead_b hc]
  rfl
end
theorem isTh_hdR {t : List UInt8} {p : Int} {ts : Toks} (h : At t p ts) (hh : hereS ts = .inl (ts.hd, ts.pos)) : ((if ((0 : Int) != (0 : Int)) = true then some (true)
  else ((rr_letter (ts.hd : Int)).bind fun (r333 : Bool) =>
  (if (!r333) = true then (if ((ts.hd : Int) != (40 : Int)) = true then (if ((ts.hd : Int) != (91 : Int)) = true then some (((ts.hd : Int) != (46 : Int)))
  else some (false))
  else some (false))
  else some (false))))) = some (!isTh ts) := by
  have h1 := isTh_hd h
  have hb : ts.hd < 256 := by
    cases ts with
    | bad n => cases hh
    | eof n => exact (by decide : 0 < 256)
    | wd w n r => exact u8_lt _
    | sg c n r => exact h.sg.2.2.1
  rw [if_neg (by decide)]
  rw [(byte_all hb).1] at h1
  rw [(byte_all hb).2.2.1]
  simp only [Option.bind_some] at h1 ⊢
  cases hl : letN ts.hd with
  | true =>
    rw [hl, if_pos rfl] at h1
    injection h1 with h1
    rw [← h1]
    rfl
  | false =>
    rw [hl, if_neg (by decide)] at h1
    rw [if_pos (by decide)]
    by_cases h40 : ((ts.hd : Int) == 40) = true
    · rw [if_pos h40] at h1
      injection h1 with h1
      rw [← h1, if_neg (by simp only [bne, h40]; decide)]
      rfl
    · rw [if_neg h40] at h1
      have h40' : ((ts.hd : Int) == 40) = false := by simpa using h40
      rw [if_pos (by simp only [bne, h40']; decide)]
      by_cases h91 : ((ts.hd : Int) == 91) = true
      · rw [if_pos h91] at h1
        injection h1 with h1
        rw [← h1, if_neg (by simp only [bne, h91]; decide)]
        rfl
      · rw [if_neg h91] at h1
        have h91' : ((ts.hd : Int) == 91) = false := by simpa using h91
        rw [if_pos (by simp only [bne, h91']; decide)]
        injection h1 with h1
        rw [← h1]
        rfl
abbrev RLR (t : List UInt8) (deep : Int) (a : List Tree × Int × Int × Int × Int × Int) (b : List Tree × Toks × Int) : Prop := a.1 = b.1 ∧ At t a.2.1 b.2.1 ∧ a.2.2.1 = b.2.2 ∧ a.2.2.2.1 = deep ∧ 0 ≤ b.2.2 ∧ b.2.2 ≤ 200
section
variable {t : List UInt8} (ht : t.length ≤ 10000)
include ht
theorem rowR_L1 {rec E deep d3 d4 o1 o2 o3 o4 o5 sets} (hn : Nm o4 o5 sets) (hnl : o4.length ≤ 20000) (hr : RecR t rec E deep d3 d4 o1 o2 o3 o4 o5) (hE : Less E) : ∀ (f : Nat) (ts : Toks) (p pl : Int) (acc : List Tree), At t p ts → ts.size < f → acc.length + ts.size ≤ 20000 → 0 ≤ pl → pl ≤ 200 →
    OkR (fun a => a.2.2.2.2) (iter (rq_row_v7_L1 t d3 d4 o1 o2 o3 o4 o5 rec) (p, pl, deep, 0, 0, acc)) (rowS E (wholeI o1.length) sets f ts pl acc) (RLR t deep)
  | 0, ts, p, pl, acc, _, h, _, _, _ => by omega
  | f + 1, ts, p, pl, acc, h, hf, ha, hp0, hp1 => by
    have hR := hereR ht h d3 d4 pl deep o1 o2 o3 o4 o5
    rcases hereS_or ts with hs | ⟨n, rfl⟩
    · have hR' : hereRS ts = ((ts.hd : Int), (ts.pos : Int), 0, 0) := by
        cases ts with
        | bad n => cases hs
        | _ => rfl
      rw [hR'] at hR
      have hh := isTh_hdR h hs
      simp only [rowS, hs]
      cases hth : isTh ts with
      | false =>
        rw [hth] at hh
        refine ⟨(acc, (ts.pos : Int), pl, deep, 0, 0), iter_r ?_, rfl, rfl, h.posn, rfl, rfl, hp0, hp1⟩
        unfold rq_row_v7_L1
        simp only [hR, Option.bind_some, hh]
        rfl
      | true =>
        rw [hth] at hh
        simp only [if_true]
        have ho := thingR ht hn hnl hr hth h.posn hp0 hp1
        simp only [oftenS]
        cases hos : thingS E (wholeI o1.length) sets pl ts with
        | inr e =>
          rw [hos] at ho
          obtain ⟨⟨x, q, a3, a4, c, y⟩, k0, k1, k2⟩ := ho
          cases k1
          change c ≠ 0 at k2
          rw [iter_l (s' := (q, a3, a4, c, y, acc ++ [x])) (by
            unfold rq_row_v7_L1
            simp only [hR, Option.bind_some, hh]
            simp only [Bool.not_true, Bool.false_eq_true, if_false, k0, Option.bind_some, sign_dead k2, Tree.eta]
            rw [if_pos ⟨by simp; omega, by simp; omega⟩]), row_dead_b k2]
          exact ⟨_, rfl, rfl, k2⟩
        | inl xr =>
          obtain ⟨x, r, pl1⟩ := xr
          rw [hos] at ho
          obtain ⟨⟨x', q, a3, a4, c, y⟩, k0, k1, m1, m2, m3, m4, m5, m6⟩ := ho
          cases k1
          dsimp only at m1 m2 m3 m4 m5 m6
          subst m1; subst m3; subst m4
          have hsz := thingS_size hE hos
          have s42 := fun hs => sign_no ht (c := 42) (by decide) (by decide) m2 hs d3 d4 a3 a4 o1 o2 o3 o4 o5
          have s43 := fun hs => sign_no ht (c := 43) (by decide) (by decide) m2.posn hs d3 d4 a3 a4 o1 o2 o3 o4 o5
          have s63 := fun hs => sign_no ht (c := 63) (by decide) (by decide) m2.posn hs d3 d4 a3 a4 o1 o2 o3 o4 o5
          have y42 := fun r1 hs => sign_yes ht (r := r1) (c := 42) (by decide) (by decide) m2 hs d3 d4 a3 a4 o1 o2 o3 o4 o5
          have y43 := fun r1 hs => sign_yes ht (r := r1) (c := 43) (by decide) (by decide) m2.posn hs d3 d4 a3 a4 o1 o2 o3 o4 o5
          have y63 := fun r1 hs => sign_yes ht (r := r1) (c := 63) (by decide) (by decide) m2.posn hs d3 d4 a3 a4 o1 o2 o3 o4 o5
          have done : ∀ q r1 x, At t q r1 → r1.size ≤ r.size → OkR (fun a => a.2.2.2.2) (iter (rq_row_v7_L1 t d3 d4 o1 o2 o3 o4 o5 rec) (q, a3, a4, 0, 0, acc ++ [x])) (rowS E (wholeI o1.length) sets f r1 a3 (acc ++ [x])) (RLR t a4) :=
            fun q r1 x h1 h2 => rowR_L1 hn hnl hr hE f r1 q a3 (acc ++ [x]) h1 (by omega) (by simp; omega) m5 m6
          have none3 : signS 42 r = .inl (false, r) → signS 43 r = .inl (false, r) → signS 63 r = .inl (false, r) → OkR (fun a => a.2.2.2.2) (iter (rq_row_v7_L1 t d3 d4 o1 o2 o3 o4 o5 rec) (p, pl, a4, 0, 0, acc)) (rowS E (wholeI o1.length) sets f r a3 (acc ++ [x'])) (RLR t a4) := fun h1 h2 h3 => by
            rw [iter_l (s' := ((r.pos : Int), a3, a4, 0, 0, acc ++ [x'])) (by
              unfold rq_row_v7_L1
              simp only [hR, Option.bind_some, hh]
              simp only [Bool.not_true, Bool.false_eq_true, if_false, k0, Option.bind_some, Tree.eta]
              rw [show rq_sign_v6 42 t _ d3 d4 a3 a4 0 0 o1 o2 o3 o4 o5 = _ from s42 h1]
              simp only [Bool.false_eq_true, if_false, Option.bind_some]
              rw [show rq_sign_v6 43 t _ d3 d4 a3 a4 0 0 o1 o2 o3 o4 o5 = _ from s43 h2]
              simp only [Bool.false_eq_true, if_false, Option.bind_some]
              rw [show rq_sign_v6 63 t _ d3 d4 a3 a4 0 0 o1 o2 o3 o4 o5 = _ from s63 h3]
              simp only [Bool.false_eq_true, if_false, Option.bind_some, Tree.eta]
              rw [if_pos ⟨by simp; omega, by simp; omega⟩])]
            exact done _ _ _ m2.posn (Nat.le_refl _)
          cases r with
          | bad n =>
            simp only []
            rw [iter_l (s' := ((n : Int), a3, a4, 20, (n : Int), acc ++ [x'])) (by
              unfold rq_row_v7_L1
              simp only [hR, Option.bind_some, hh]
              simp only [Bool.not_true, Bool.false_eq_true, if_false, k0, Option.bind_some, Tree.eta]
              rw [show rq_sign_v6 42 t _ d3 d4 a3 a4 0 0 o1 o2 o3 o4 o5 = _ from sign_bad ht (c := 42) m2 d3 d4 a3 a4 o1 o2 o3 o4 o5]
              simp only [Bool.false_eq_true, if_false, Option.bind_some, sign_dead (c := 20) (by decide), Tree.eta]
              rw [if_pos ⟨by simp; omega, by simp; omega⟩]), row_dead_b (by decide)]
            exact ⟨_, rfl, rfl, by show (20 : Int) ≠ 0; decide⟩
          | eof n => exact none3 rfl rfl rfl
          | wd w n r1 => exact none3 rfl rfl rfl
          | sg d n r1 =>
            have hz1 : r1.size ≤ (Toks.sg d n r1).size := by simp [Toks.size]
            simp only []
            by_cases h42 : d = 42
            · obtain ⟨q1, e1, e3⟩ := y42 r1 (by simp only [signS, if_pos h42])
              rw [if_pos h42, iter_l (s' := (q1, a3, a4, 0, 0, acc ++ [Tree.node 4 0 [x']])) (by
                unfold rq_row_v7_L1
                simp only [hR, Option.bind_some, hh]
                simp only [Bool.not_true, Bool.false_eq_true, if_false, k0, Option.bind_some, Tree.eta]
                rw [show rq_sign_v6 42 t _ d3 d4 a3 a4 0 0 o1 o2 o3 o4 o5 = _ from e1]
                simp only [if_true, Option.bind_some]
                rw [if_pos ⟨by simp; omega, by simp; omega⟩])]
              exact done _ _ _ e3 hz1
            · have n42 : signS 42 (.sg d n r1) = .inl (false, .sg d n r1) := by simp only [signS, if_neg h42]
              rw [if_neg h42]
              by_cases h43 : d = 43
              · obtain ⟨q1, e1, e3⟩ := y43 r1 (by simp only [signS, if_pos h43])
                rw [if_pos h43, iter_l (s' := (q1, a3, a4, 0, 0, acc ++ [Tree.node 5 0 [x']])) (by
                  unfold rq_row_v7_L1
                  simp only [hR, Option.bind_some, hh]
                  simp only [Bool.not_true, Bool.false_eq_true, if_false, k0, Option.bind_some, Tree.eta]
                  rw [show rq_sign_v6 42 t _ d3 d4 a3 a4 0 0 o1 o2 o3 o4 o5 = _ from s42 n42]
                  simp only [Bool.false_eq_true, if_false, Option.bind_some]
                  rw [show rq_sign_v6 43 t _ d3 d4 a3 a4 0 0 o1 o2 o3 o4 o5 = _ from e1]
                  simp only [if_true, Option.bind_some]
                  rw [if_pos ⟨by simp; omega, by simp; omega⟩])]
                exact done _ _ _ e3 hz1
              · have n43 : signS 43 (.sg d n r1) = .inl (false, .sg d n r1) := by simp only [signS, if_neg h43]
                rw [if_neg h43]
                by_cases h63 : d = 63
                · obtain ⟨q1, e1, e3⟩ := y63 r1 (by simp only [signS, if_pos h63])
                  rw [if_pos h63, iter_l (s' := (q1, a3, a4, 0, 0, acc ++ [Tree.node 6 0 [x']])) (by
                    unfold rq_row_v7_L1
                    simp only [hR, Option.bind_some, hh]
                    simp only [Bool.not_true, Bool.false_eq_true, if_false, k0, Option.bind_some, Tree.eta]
                    rw [show rq_sign_v6 42 t _ d3 d4 a3 a4 0 0 o1 o2 o3 o4 o5 = _ from s42 n42]
                    simp only [Bool.false_eq_true, if_false, Option.bind_some]
                    rw [show rq_sign_v6 43 t _ d3 d4 a3 a4 0 0 o1 o2 o3 o4 o5 = _ from s43 n43]
                    simp only [Bool.false_eq_true, if_false, Option.bind_some]
                    rw [show rq_sign_v6 63 t _ d3 d4 a3 a4 0 0 o1 o2 o3 o4 o5 = _ from e1]
                    simp only [if_true, Option.bind_some]
                    rw [if_pos ⟨by simp; omega, by simp; omega⟩])]
                  exact done _ _ _ e3 hz1
                · rw [if_neg h63]
                  exact none3 n42 n43 (by simp only [signS, if_neg h63])
    · simp only [rowS, hereS]
      refine ⟨(acc, (n : Int), pl, deep, 20, (n : Int)), iter_r ?_, rfl, by show (20 : Int) ≠ 0; decide⟩
      unfold rq_row_v7_L1
      simp only [hR, hereRS]
      rfl
theorem rowR {rec E deep d3 d4 o1 o2 o3 o4 o5 sets} (hn : Nm o4 o5 sets) (hnl : o4.length ≤ 20000) (hr : RecR t rec E deep d3 d4 o1 o2 o3 o4 o5) (hE : Less E) {p : Int} {ts : Toks} (h : At t p ts) (hz : ts.size ≤ 10000) {pl : Int} (hp0 : 0 ≤ pl) (hp1 : pl ≤ 200) :
    OkR (fun a => a.2.2.2.2) (rq_row_v7 rec t p d3 d4 pl deep 0 0 o1 o2 o3 o4 o5) (rowT E (wholeI o1.length) sets pl ts) (RTR t deep) := by
  unfold rq_row_v7
  refine (rowR_L1 ht hn hnl hr hE (ts.size + 1) ts p pl [] h (by omega) (by simp; omega) hp0 hp1).bind ?_ ?_
  · rintro ⟨l, q, a3, a4, c, y⟩ hy hc
    refine ⟨by simp only [rowT, hy], ?_⟩
    match l with
    | [] => exact ⟨_, rfl, rfl⟩
    | [x] => exact ⟨_, rfl, rfl⟩
    | x :: y :: l =>
      simp only [List.length_cons]
      rw [if_neg (by simp; omega), if_neg (by simp; omega)]
      exact ⟨_, rfl, rfl⟩
  · rintro ⟨l, q, a3, a4, c, y⟩ ⟨l', r, b3⟩ hy hcd ⟨m1, m2, m3, m4, m5, m6⟩
    cases hcd
    dsimp only at m1 m2 m3 m4 m5 m6
    subst m1; subst m3; subst m4
    simp only [rowT, hy]
    match l with
    | [] => exact ⟨_, rfl, rfl, rfl, m2, rfl, rfl, m5, m6⟩
    | [x] => exact ⟨_, rfl, rfl, Tree.eta x, m2, rfl, rfl, m5, m6⟩
    | x :: y :: l =>
      refine ⟨(Tree.node 2 0 (x :: y :: l), q, a3, a4, 0, 0), ?_, rfl, rfl, m2, rfl, rfl, m5, m6⟩
      simp only [List.length_cons]
      rw [if_neg (by simp; omega), if_neg (by simp; omega)]
theorem altR_L1 {rec E deep d3 d4 o1 o2 o3 o4 o5 sets} (hn : Nm o4 o5 sets) (hnl : o4.length ≤ 20000) (hr : RecR t rec E deep d3 d4 o1 o2 o3 o4 o5) (hE : Less E) : ∀ (f : Nat) (ts : Toks) (p pl : Int) (acc : List Tree), At t p ts → ts.size < f → acc.length + ts.size ≤ 20000 → ts.size ≤ 10000 → 0 ≤ pl → pl ≤ 200 →
    OkR (fun a => a.2.2.2.2) (iter (rq_either_v3_L1 t d3 d4 o1 o2 o3 o4 o5 rec) (p, pl, deep, 0, 0, acc)) (altS E (wholeI o1.length) sets f ts pl acc) (RLR t deep)
  | 0, ts, p, pl, acc, _, h, _, _, _, _ => by omega
  | f + 1, ts, p, pl, acc, h, hf, ha, hz, hp0, hp1 => by
    have hs := signR ht (c := 124) (by decide) (by decide) h d3 d4 pl deep o1 o2 o3 o4 o5
    simp only [altS]
    cases hss : signS 124 ts with
    | inr e =>
      have hts : ∃ n, ts = .bad n ∧ e = (20, (n : Int)) := by
        cases ts with
        | bad n => cases hss; exact ⟨n, rfl, rfl⟩
        | eof n => cases hss
        | wd w n r => cases hss
        | sg d n r => simp only [signS] at hss; split at hss <;> cases hss
      obtain ⟨n, rfl, rfl⟩ := hts
      refine ⟨(acc, (n : Int), pl, deep, 20, (n : Int)), iter_r ?_, rfl, by show (20 : Int) ≠ 0; decide⟩
      unfold rq_either_v3_L1
      simp only []
      rw [show rq_sign_v6 124 t _ d3 d4 pl deep 0 0 o1 o2 o3 o4 o5 = _ from sign_bad ht (c := 124) h d3 d4 pl deep o1 o2 o3 o4 o5]
      rfl
    | inl br =>
      obtain ⟨b, r⟩ := br
      rw [hss] at hs
      obtain ⟨⟨b1, q1, u, v⟩, e1, e2, e3, e4, e5⟩ := hs
      cases e2
      dsimp only at e1 e3 e4 e5
      subst e3
      have hsz := signS_size hss
      cases b1 with
      | false =>
        refine ⟨(acc, q1, pl, deep, 0, 0), iter_r ?_, rfl, rfl, e4, rfl, rfl, hp0, hp1⟩
        unfold rq_either_v3_L1
        simp only []
        rw [show rq_sign_v6 124 t _ d3 d4 pl deep 0 0 o1 o2 o3 o4 o5 = _ from e1]
        rfl
      | true =>
        simp only [if_true] at hsz
        have ho := rowR ht hn hnl hr hE e4 (by omega) hp0 hp1
        simp only []
        cases hos : rowT E (wholeI o1.length) sets pl r with
        | inr e =>
          rw [hos] at ho
          obtain ⟨⟨x, q, a3, a4, c, y⟩, k0, k1, k2⟩ := ho
          cases k1
          change c ≠ 0 at k2
          rw [iter_l (s' := (q, a3, a4, c, y, acc ++ [x])) (by
            unfold rq_either_v3_L1
            simp only []
            rw [show rq_sign_v6 124 t _ d3 d4 pl deep 0 0 o1 o2 o3 o4 o5 = _ from e1]
            simp only [Option.bind_some, if_true]
            rw [k0]
            simp only [Option.bind_some, Tree.eta]
            rw [if_pos ⟨by simp; omega, by simp; omega⟩]), alt_dead_b k2]
          exact ⟨_, rfl, rfl, k2⟩
        | inl xr =>
          obtain ⟨x, r1, pl1⟩ := xr
          rw [hos] at ho
          obtain ⟨⟨x', q, a3, a4, c, y⟩, k0, k1, m1, m2, m3, m4, m5, m6⟩ := ho
          cases k1
          dsimp only at m1 m2 m3 m4 m5 m6
          subst m1; subst m3; subst m4
          have hsz2 := rowT_size hE hos
          rw [iter_l (s' := (q, a3, a4, 0, 0, acc ++ [x'])) (by
            unfold rq_either_v3_L1
            simp only []
            rw [show rq_sign_v6 124 t _ d3 d4 pl a4 0 0 o1 o2 o3 o4 o5 = _ from e1]
            simp only [Option.bind_some, if_true]
            rw [k0]
            simp only [Option.bind_some, Tree.eta]
            rw [if_pos ⟨by simp; omega, by simp; omega⟩])]
          exact altR_L1 hn hnl hr hE f r1 q a3 (acc ++ [x']) m2 (by omega) (by simp; omega) (by omega) m5 m6
theorem eithR {rec E deep d3 d4 o1 o2 o3 o4 o5 sets} (hn : Nm o4 o5 sets) (hnl : o4.length ≤ 20000) (hr : RecR t rec E deep d3 d4 o1 o2 o3 o4 o5) (hE : Less E) {p : Int} {ts : Toks} (h : At t p ts) (hz : ts.size ≤ 10000) {pl : Int} (hp0 : 0 ≤ pl) (hp1 : pl ≤ 200) :
    OkR (fun a => a.2.2.2.2) (rq_either_v3_F rec t p d3 d4 pl deep 0 0 o1 o2 o3 o4 o5) (eithS E (wholeI o1.length) sets pl ts) (RTR t deep) := by
  unfold rq_either_v3_F
  refine (rowR ht hn hnl hr hE h hz hp0 hp1).bind ?_ ?_
  · rintro ⟨x, q, a3, a4, c, y⟩ hy hc
    change c ≠ 0 at hc
    refine ⟨by simp only [eithS, hy], ?_⟩
    simp only [alt_dead_b hc]
    exact ⟨_, rfl, rfl⟩
  · rintro ⟨x, q, a3, a4, c, y⟩ ⟨x', r, b3⟩ hy hcd ⟨m1, m2, m3, m4, m5, m6⟩
    cases hcd
    dsimp only at m1 m2 m3 m4 m5 m6
    subst m1; subst m3; subst m4
    have hsz := rowT_size hE hy
    simp only [eithS, hy, Tree.eta]
    refine (altR_L1 ht hn hnl hr hE (r.size + 1) r q a3 [x] m2 (by omega) (by simp; omega) (by omega) m5 m6).bind ?_ ?_
    · rintro ⟨l, q1, c3, c4, c, y⟩ hy2 hc
      refine ⟨by simp only [hy2], ?_⟩
      match l with
      | [] => exact ⟨_, rfl, rfl⟩
      | [x] => exact ⟨_, rfl, rfl⟩
      | x :: y :: l =>
        simp only [List.length_cons]
        rw [if_neg (by simp; omega)]
        exact ⟨_, rfl, rfl⟩
    · rintro ⟨l, q1, c3, c4, c, y⟩ ⟨l', r1, d5⟩ hy2 hcd ⟨n1, n2, n3, n4, n5, n6⟩
      cases hcd
      dsimp only at n1 n2 n3 n4 n5 n6
      subst n1; subst n3; subst n4
      simp only [hy2]
      match l with
      | [] => exact ⟨_, rfl, rfl, rfl, n2, rfl, rfl, n5, n6⟩
      | [x] => exact ⟨(x, q1, c3, c4, 0, 0), rfl, rfl, rfl, n2, rfl, rfl, n5, n6⟩
      | x :: y :: l =>
        refine ⟨(Tree.node 3 0 (x :: y :: l), q1, c3, c4, 0, 0), ?_, rfl, rfl, n2, rfl, rfl, n5, n6⟩
        simp only [List.length_cons]
        rw [if_neg (by simp; omega)]
theorem eitherR {d3 d4 o1 o2 o3 o4 o5 sets} (hnm : Nm o4 o5 sets) (hnl : o4.length ≤ 20000) : ∀ (d n : Nat) (deep : Int), d < n → deep = 16 - (d : Int) → 0 ≤ deep → ∀ (p : Int) (ts : Toks) (pl : Int), At t p ts → ts.size ≤ 10000 → 0 ≤ pl → pl ≤ 200 →
    OkR (fun a => a.2.2.2.2) (rq_either_v3 n t p d3 d4 pl deep 0 0 o1 o2 o3 o4 o5) (eitherS (wholeI o1.length) sets d pl ts) (RTR t deep)
  | d, 0, deep, hn, _, _, _, _, _, _, _, _, _ => by omega
  | 0, n + 1, deep, hn, hd, h0, p, ts, pl, h, hz, hp0, hp1 =>
    eithR ht hnm hnl (E := none) ⟨h0, by omega, by show deep = 16; omega⟩ less_none h hz hp0 hp1
  | d + 1, n + 1, deep, hn, hd, h0, p, ts, pl, h, hz, hp0, hp1 => by
    refine eithR ht hnm hnl (E := some (eitherS (wholeI o1.length) sets d)) ⟨h0, by omega, by omega, fun p1 ts1 pl1 h1 h2 h3 => ?_⟩ less_some h hz hp0 hp1
    have hz1 : ts1.size ≤ 10000 := by
      obtain ⟨a, b, rfl⟩ := h1
      have := T_size (t := t) _ p1.toNat (Nat.le_refl _) (by omega)
      omega
    exact eitherR hnm hnl d n (deep + 1) (by omega) (by omega) (by omega) p1 ts1 pl1 h1 hz1 h2 h3
end
end Go.Proofs.Ytjfjigknkhgkdaa.T
namespace Go.Proofs.Ytjfjigknkhgkdaa.T
open Go Go.Tv Go.Proofs
abbrev StR := Int × List (List UInt8) × Int × Int × List Int × RL × List (List UInt8) × List Int × Int × Int × Int × Int
abbrev cdS (a : StR) : Er := a.2.2.2.2.2.2.2.2.2.2
theorem ruleS_size {d n : Int} {s : PS} {ts r l pl} (h1 : ruleS d n s ts = .inl (r, l, pl)) : r.size ≤ ts.size := by
  unfold ruleS at h1
  split at h1
  · cases h1
  · split at h1
    · cases h1
    · rename_i h2
      split at h1
      · cases h1
      · rename_i h3
        split at h1
        · cases h1
        · rename_i h4
          split at h1
          · cases h1
          · rename_i h5
            cases h1
            have := eitherS_size h2
            have := wantS_size h3
            have := eitherS_size h4
            have := wantS_size h5
            omega
theorem declare_eq {w b p1 p2 p3 p4 p5 p6 p7 p8 o1 o2 o3} (o4 : List (List UInt8)) (o5 : List Int) (h1 : o4.length ≤ 30000) (h2 : o4.length = o5.length) : rq_declare_v5 w b p1 p2 p3 p4 p5 p6 p7 p8 o1 o2 o3 o4 o5 = some (o4 ++ [w], o5 ++ [b]) := by
  unfold rq_declare_v5
  rw [if_pos ⟨by simp; omega, by simp; omega⟩, if_pos ⟨by simp; omega, by simp; omega⟩]
theorem OkR.id {A B : Type} {cd : A → Er} {x : Option A} {y : B ⊕ Er} {R : A → B → Prop} {k : A → Option A} (hk : ∀ a, k a = some a) (h : OkR cd x y R) : OkR cd (x.bind k) y R := by
  have : x.bind k = x := by
    cases x with
    | none => rfl
    | some a => exact hk a
  rw [this]; exact h
section
variable {t : List UInt8} (ht : t.length ≤ 10000)
include ht
theorem ruleR {p : Int} {s : PS} {ts : Toks} {o4 o5} (hn : Nm o4 o5 s.sets) (hnl : o4.length ≤ 20000) (h : At t p ts) (hz : ts.size ≤ 10000) (does n : Int) (d3 d4) (hl : s.list.length ≤ 24) (hp0 : 0 ≤ s.pl) (hp1 : s.pl ≤ 200) : OkR (fun a => a.2.2.2.2) (rq_rule_v3 does n t p d3 d4 s.pl 0 0 0 s.cls s.treat s.list o4 o5) (ruleS does n s ts) (fun a b => At t a.1 b.1 ∧ a.2.1 = b.2.1 ∧ a.2.2.1 = b.2.2 ∧ a.2.2.2.1 = 0) := by
  unfold rq_rule_v3 ruleS
  by_cases h24 : s.list.length ≥ 24
  · rw [if_pos (by simp; omega), if_pos h24]
    have e : rq_bad_v6 24 n t p d3 d4 s.pl 0 0 0 s.cls s.treat s.list o4 o5 = some (24, n) := rfl
    have h24' : (24 : Int) ≠ 0 := by decide
    simp only [e, Option.bind_some, either_dead h24', want_dead h24']
    exact ⟨_, rfl, rfl, h24'⟩
  · rw [if_neg (by simp; omega), if_neg h24]
    simp only [Option.bind_some]
    refine (eitherR ht hn hnl 16 1000 0 (by omega) (by omega) (by omega) p ts s.pl h hz hp0 hp1).bind ?_ ?_
    · rintro ⟨x, q, a3, a4, c, y⟩ hy hc
      change c ≠ 0 at hc
      refine ⟨by simp only [hy], ?_⟩
      simp only [either_dead hc, want_dead hc, Option.bind_some, c_false hc, Bool.false_eq_true, if_false]
      exact ⟨_, rfl, rfl⟩
    · rintro ⟨x, q, a3, a4, c, y⟩ ⟨x', r, b3⟩ hy hcd ⟨m1, m2, m3, m4, m5, m6⟩
      cases hcd
      dsimp only at m1 m2 m3 m4 m5 m6
      subst m1; subst m3; subst m4
      have z1 := eitherS_size hy
      simp only [hy]
      refine (wantR ht (c := 47) (by decide) (by decide) m2 d3 d4 a3 0 s.cls s.treat s.list o4 o5).bind ?_ ?_
      · rintro ⟨q, c, y⟩ hy hc
        change c ≠ 0 at hc
        refine ⟨by simp only [hy], ?_⟩
        simp only [either_dead hc, want_dead hc, Option.bind_some, c_false hc, Bool.false_eq_true, if_false]
        exact ⟨_, rfl, rfl⟩
      · rintro ⟨q1, c, y⟩ r1 hy1 hcd h4
        cases hcd
        have z2 := wantS_size hy1
        simp only [hy1]
        refine (eitherR ht hn hnl 16 1000 0 (by omega) (by omega) (by omega) q1 r1 a3 h4 (by omega) m5 m6).bind ?_ ?_
        · rintro ⟨x, q, a3, a4, c, y⟩ hy hc
          change c ≠ 0 at hc
          refine ⟨by simp only [hy], ?_⟩
          simp only [want_dead hc, Option.bind_some, c_false hc, Bool.false_eq_true, if_false]
          exact ⟨_, rfl, rfl⟩
        · rintro ⟨y, q2, c3, c4, c, y9⟩ ⟨y', r2, d5⟩ hy2 hcd ⟨n1, n2, n3, n4, n5, n6⟩
          cases hcd
          dsimp only at n1 n2 n3 n4 n5 n6
          subst n1; subst n3; subst n4
          simp only [hy2]
          refine (wantR ht (c := 59) (by decide) (by decide) n2 d3 d4 c3 0 s.cls s.treat s.list o4 o5).bind ?_ ?_
          · rintro ⟨q, c, y⟩ hy hc
            change c ≠ 0 at hc
            refine ⟨by simp only [hy], ?_⟩
            simp only [Option.bind_some, c_false hc, Bool.false_eq_true, if_false]
            exact ⟨_, rfl, rfl⟩
          · rintro ⟨q3, c, y9⟩ r3 hy3 hcd h5
            cases hcd
            simp only [hy3, Tree.eta, BEq.rfl, if_true]
            rw [if_pos ⟨by simp; omega, by simp; omega⟩]
            exact ⟨_, rfl, rfl, h5, rfl, rfl, rfl⟩
theorem classR_L1 {d3 d4 d5 d6 o3} : ∀ (f : Nat) (ts : Toks) (p : Int) (cls : List (List UInt8)) (tr : List Int) (names : List (List UInt8)) (bits : List Int) (sets : Sets), At t p ts → ts.size < f → cls.length ≤ 24 → tr.length = cls.length → Nm names bits sets → names.length + ts.size ≤ 20000 →
    OkR (fun a => a.2.2.2.2.2) (iter (rq_line_v3_L1 t d3 d4 d5 d6 o3) (p, cls, tr, names, bits, 0, 0)) (classS f ts cls tr sets) (fun a b => At t a.1 b.1 ∧ a.2.1 = b.2.1 ∧ a.2.2.1 = b.2.2.1 ∧ Nm a.2.2.2.1 a.2.2.2.2.1 b.2.2.2 ∧ a.2.2.2.1.length + b.1.size ≤ 20000)
  | 0, ts, p, cls, tr, names, bits, sets, _, hf, _, _, _, _ => by omega
  | f + 1, ts, p, cls, tr, names, bits, sets, h, hf, hc, htr, hn, hnl => by
    have hs := signR ht (c := 59) (by decide) (by decide) h d3 d4 d5 d6 cls tr o3 names bits
    have dead : ∀ (c x p : Int), c ≠ 0 → iter (rq_line_v3_L1 t d3 d4 d5 d6 o3) (p, cls, tr, names, bits, c, x) = some (p, cls, tr, names, bits, c, x) := fun c x p hc => by
      apply iter_r
      unfold rq_line_v3_L1
      simp only [c_false hc]
      rfl
    simp only [classS]
    cases hss : signS 59 ts with
    | inr e =>
      have hts : ∃ n, ts = .bad n ∧ e = (20, (n : Int)) := by
        cases ts with
        | bad n => cases hss; exact ⟨n, rfl, rfl⟩
        | eof n => cases hss
        | wd w n r => cases hss
        | sg d n r => simp only [signS] at hss; split at hss <;> cases hss
      obtain ⟨n, rfl, rfl⟩ := hts
      have h20 : (20 : Int) ≠ 0 := by decide
      rw [iter_l (s' := ((n : Int), cls, tr, names, bits, 20, (n : Int))) (by
        unfold rq_line_v3_L1
        simp only [BEq.rfl, if_true]
        rw [show rq_sign_v6 59 t _ d3 d4 d5 d6 0 0 cls tr o3 names bits = _ from sign_bad ht (c := 59) h d3 d4 d5 d6 cls tr o3 names bits]
        simp only [Option.bind_some, Bool.not_false, if_true, fresh_dead h20]
        rfl), dead _ _ _ h20]
      exact ⟨_, rfl, rfl, h20⟩
    | inl br =>
      obtain ⟨b, r⟩ := br
      rw [hss] at hs
      obtain ⟨⟨b1, q1, u, v⟩, e1, e2, e3, e4, e5⟩ := hs
      cases e2
      dsimp only at e1 e3 e4 e5
      subst e3
      have hsz := signS_size hss
      cases b1 with
      | true =>
        simp only [if_true] at hsz
        refine ⟨(q1, cls, tr, names, bits, 0, 0), iter_r ?_, rfl, e4, rfl, rfl, hn, by simp only []; omega⟩
        unfold rq_line_v3_L1
        simp only [BEq.rfl, if_true]
        rw [show rq_sign_v6 59 t _ d3 d4 d5 d6 0 0 cls tr o3 names bits = _ from e1]
        rfl
      | false =>
        simp only [Bool.false_eq_true, if_false] at hsz
        simp only []
        have hf1 := freshR ht e4 d3 d4 d5 d6 cls tr o3 hn (by omega)
        cases hfs : freshS sets r with
        | inr e =>
          rw [hfs] at hf1
          obtain ⟨⟨w, n, q, c, x⟩, k0, k1, k2⟩ := hf1
          cases k1
          change c ≠ 0 at k2
          rw [iter_l (s' := (q, cls, tr, names, bits, c, x)) (by
            unfold rq_line_v3_L1
            simp only [BEq.rfl, if_true]
            rw [show rq_sign_v6 59 t _ d3 d4 d5 d6 0 0 cls tr o3 names bits = _ from e1]
            simp only [Option.bind_some, Bool.not_false, if_true]
            rw [k0]
            simp only [Option.bind_some, c_false k2, Bool.false_eq_true, if_false]), dead _ _ _ k2]
          exact ⟨_, rfl, rfl, k2⟩
        | inl x =>
          obtain ⟨w, n, r1⟩ := x
          rw [hfs] at hf1
          obtain ⟨⟨w', n', q, c, x⟩, k0, k1, k2, k3, k4⟩ := hf1
          cases k1
          dsimp only at k2 k3 k4
          subst k2; subst k3
          have hsz2 := freshS_size hfs
          simp only []
          by_cases h24 : cls.length ≥ 24
          · rw [if_pos h24]
            have h24' : (24 : Int) ≠ 0 := by decide
            rw [iter_l (s' := (q, cls, tr, names, bits, 24, n')) (by
              unfold rq_line_v3_L1
              simp only [BEq.rfl, if_true]
              rw [show rq_sign_v6 59 t _ d3 d4 d5 d6 0 0 cls tr o3 names bits = _ from e1]
              simp only [Option.bind_some, Bool.not_false, if_true]
              rw [k0]
              simp only [Option.bind_some, BEq.rfl, if_true]
              rw [if_pos (by simp; omega)]
              rfl), dead _ _ _ h24']
            exact ⟨_, rfl, rfl, h24'⟩
          · rw [if_neg h24]
            have hne : ¬ ((cls.length : Int) == 24) = true := by simp; omega
            rw [iter_l (s' := (q, cls ++ [w'], tr ++ [(cls.length : Int)], names ++ [w'], bits ++ [bitI cls.length], 0, 0)) (by
              unfold rq_line_v3_L1
              simp only [BEq.rfl, if_true]
              rw [show rq_sign_v6 59 t _ d3 d4 d5 d6 0 0 cls tr o3 names bits = _ from e1]
              simp only [Option.bind_some, Bool.not_false, if_true]
              rw [k0]
              simp only [Option.bind_some, BEq.rfl, if_true]
              rw [if_neg hne]
              simp only [Option.bind_some, BEq.rfl, if_true]
              rw [if_pos (by omega), declare_eq names bits (by omega) hn.hlen]
              simp only [Option.bind_some]
              rw [if_pos ⟨by simp; omega, by simp; omega⟩, if_pos ⟨by simp; omega, by simp; omega⟩]
              rfl)]
            exact classR_L1 f r1 q _ _ _ _ _ k4 (by omega) (by simp; omega) (by simp; omega) (hn.add w' (bitI cls.length)) (by simp; omega)
def RSR (t : List UInt8) (a : StR) (b : PS) : Prop := ∃ p names bits, a = (p, b.cls, b.join, b.after, b.treat, b.list, names, bits, b.pl, 0, 0, 0) ∧ At t p b.ts ∧ Nm names bits b.sets ∧ names.length + b.ts.size ≤ 20000
theorem lineR {p : Int} {s : PS} {w : List UInt8} {n : Nat} {r : Toks} (hts : s.ts = .wd w n r) (h : At t p s.ts) (hI : Inv s) {names bits} (hn : Nm names bits s.sets) (hnl : names.length + s.ts.size ≤ 20000) :
    OkR cdS (rq_line_v3 t p s.join s.after s.pl 0 0 0 s.cls s.treat s.list names bits) (lineS s w n r) (RSR t) := by
  obtain ⟨i1, i2, i3, i4, i5⟩ := hI
  have hw := wordR ht h s.join s.after s.pl 0 s.cls s.treat s.list names bits
  have hzr : r.size ≤ 10000 := by
    obtain ⟨a, b, c⟩ := h
    have := T_size (t := t) _ p.toNat (Nat.le_refl _) (by omega)
    rw [c, hts] at this
    simp only [Toks.size] at this
    omega
  rw [hts] at hw h hnl
  simp only [Toks.size] at hnl
  obtain ⟨⟨w', n', q, c, x⟩, k0, kc, k1, k2, k3⟩ := hw
  cases kc
  dsimp only at k1 k2 k3
  subst k1; subst k2
  unfold rq_line_v3
  rw [k0]
  simp only [Option.bind_some, beq_iff_eq]
  unfold lineS
  by_cases c1 : w' = [99, 108, 97, 115, 115]
  · simp only [if_pos c1]
    refine OkR.id (fun a => rfl) ?_
    · refine (classR_L1 ht (r.size + 1) r q s.cls s.treat names bits s.sets k3 (by omega) i1 i2 hn (by omega)).bind ?_ ?_
      · rintro ⟨q1, a2, a3, a4, a5, c, x⟩ hy hc
        exact ⟨by simp only [hy], _, rfl, rfl⟩
      · rintro ⟨q1, a2, a3, a4, a5, c, x⟩ ⟨r1, b2, b3, b4⟩ hy hcd ⟨m1, m2, m3, m4, m5⟩
        cases hcd
        dsimp only at m1 m2 m3 m4 m5
        subst m2; subst m3
        simp only [hy]
        exact ⟨_, rfl, rfl, q1, a4, a5, rfl, m1, m4, m5⟩
  · simp only [if_neg c1]
    by_cases c2 : w' = [115, 101, 116]
    · simp only [if_pos c2]
      refine OkR.id (fun a => rfl) ?_
      · unfold setS
        refine (freshR ht k3 s.join s.after s.pl 0 s.cls s.treat s.list hn (by omega)).bind ?_ ?_
        · rintro ⟨w, n, q, c, x⟩ hy hc
          change c ≠ 0 at hc
          refine ⟨by simp only [hy], ?_⟩
          simp only [want_dead hc, list_dead hc, Option.bind_some, if_neg hc]
          exact ⟨_, rfl, rfl⟩
        · rintro ⟨w, n, q, c, x⟩ ⟨w', n', r1⟩ hy hcd ⟨m1, m2, m3⟩
          cases hcd
          dsimp only at m1 m2 m3
          subst m1; subst m2
          have z1 := freshS_size hy
          simp only [hy]
          refine (wantR ht (c := 61) (by decide) (by decide) m3 s.join s.after s.pl 0 s.cls s.treat s.list names bits).bind ?_ ?_
          · rintro ⟨q, c, x⟩ hy hc
            change c ≠ 0 at hc
            refine ⟨by simp only [hy], ?_⟩
            simp only [list_dead hc, Option.bind_some, if_neg hc]
            exact ⟨_, rfl, rfl⟩
          · rintro ⟨q, c, x⟩ r2 hy2 hcd m4
            cases hcd
            have z2 := wantS_size hy2
            simp only [hy2]
            refine (listR ht (c := 59) (by decide) (by decide) m4 s.join s.after s.pl 0 s.cls s.treat s.list hn (by omega)).bind ?_ ?_
            · rintro ⟨y, q, c, x⟩ hy hc
              change c ≠ 0 at hc
              refine ⟨by simp only [hy], ?_⟩
              simp only [if_neg hc]
              exact ⟨_, rfl, rfl⟩
            · rintro ⟨y, q, c, x⟩ ⟨y', r3⟩ hy3 hcd ⟨m5, m6⟩
              cases hcd
              dsimp only at m5 m6
              subst m5
              have z3 := listS_size hy3
              simp only [hy3, if_true]
              rw [declare_eq names bits (by omega) hn.hlen]
              exact ⟨_, rfl, rfl, q, _, _, rfl, m6, hn.add w y, by simp; omega⟩
    · simp only [if_neg c2]
      by_cases c3 : w' = [106, 111, 105, 110]
      · simp only [if_pos c3]
        refine OkR.id (fun a => rfl) ?_
        · unfold joinS
          refine (listR ht (c := 47) (by decide) (by decide) k3 s.join s.after s.pl 0 s.cls s.treat s.list hn (by omega)).bind ?_ ?_
          · rintro ⟨y, q, c, x⟩ hy hc
            change c ≠ 0 at hc
            refine ⟨by simp only [hy], ?_⟩
            simp only [list_dead hc]
            exact ⟨_, rfl, rfl⟩
          · rintro ⟨y, q, c, x⟩ ⟨y', r1⟩ hy hcd ⟨m5, m6⟩
            cases hcd
            dsimp only at m5 m6
            subst m5
            have z1 := listS_size hy
            simp only [hy]
            refine (listR ht (c := 59) (by decide) (by decide) m6 (bitsOf .or .u32 s.join y) s.after s.pl 0 s.cls s.treat s.list hn (by omega)).bind ?_ ?_
            · rintro ⟨y, q, c, x⟩ hy hc
              exact ⟨by simp only [hy], _, rfl, rfl⟩
            · rintro ⟨y2, q, c, x⟩ ⟨y', r3⟩ hy3 hcd ⟨m5, m6⟩
              cases hcd
              dsimp only at m5 m6
              subst m5
              have z3 := listS_size hy3
              simp only [hy3]
              exact ⟨_, rfl, rfl, q, _, _, rfl, m6, hn, by simp; omega⟩
      · simp only [if_neg c3]
        by_cases c4 : w' = [116, 114, 101, 97, 116]
        · simp only [if_pos c4]
          refine OkR.id (fun a => rfl) ?_
          · unfold treatS
            refine (classR ht k3 s.join s.after s.pl 0 s.cls s.treat s.list names bits i1).bind ?_ ?_
            · rintro ⟨y, q, c, x⟩ hy hc
              change c ≠ 0 at hc
              refine ⟨by simp only [hy], ?_⟩
              simp only [want_dead hc, class_dead hc, Option.bind_some, if_neg hc]
              exact ⟨_, rfl, rfl⟩
            · rintro ⟨y, q, c, x⟩ ⟨y', r1⟩ hy hcd ⟨m5, m6⟩
              cases hcd
              dsimp only at m5 m6
              subst m5
              have z1 := oneS_size hy
              have g1 : 0 ≤ y ∧ y < s.cls.length := by
                unfold oneS at hy
                split at hy
                · cases hy
                · split at hy
                  · cases hy; exact ⟨by omega, by omega⟩
                  · cases hy
              simp only [hy]
              refine (wantR ht (c := 61) (by decide) (by decide) m6 s.join s.after s.pl 0 s.cls s.treat s.list names bits).bind ?_ ?_
              · rintro ⟨q, c, x⟩ hy hc
                change c ≠ 0 at hc
                refine ⟨by simp only [hy], ?_⟩
                simp only [want_dead hc, class_dead hc, Option.bind_some, if_neg hc]
                exact ⟨_, rfl, rfl⟩
              · rintro ⟨q, c, x⟩ r2 hy2 hcd m4
                cases hcd
                have z2 := wantS_size hy2
                simp only [hy2]
                refine (classR ht m4 s.join s.after s.pl 0 s.cls s.treat s.list names bits i1).bind ?_ ?_
                · rintro ⟨y, q, c, x⟩ hy hc
                  change c ≠ 0 at hc
                  refine ⟨by simp only [hy], ?_⟩
                  simp only [want_dead hc, Option.bind_some, if_neg hc]
                  exact ⟨_, rfl, rfl⟩
                · rintro ⟨y2, q, c, x⟩ ⟨y', r3⟩ hy3 hcd ⟨m7, m8⟩
                  cases hcd
                  dsimp only at m7 m8
                  subst m7
                  have z3 := oneS_size hy3
                  simp only [hy3, if_true]
                  rw [if_pos ⟨g1.1, by omega⟩, if_pos (by omega)]
                  simp only [Option.bind_some]
                  refine (wantR ht (c := 59) (by decide) (by decide) m8 s.join s.after s.pl 0 s.cls (s.treat.set y.toNat y2) s.list names bits).bind ?_ ?_
                  · rintro ⟨q, c, x⟩ hy hc
                    exact ⟨by simp only [hy], _, rfl, rfl⟩
                  · rintro ⟨q, c, x⟩ r4 hy4 hcd m9
                    cases hcd
                    have z4 := wantS_size hy4
                    simp only [hy4]
                    exact ⟨_, rfl, rfl, q, _, _, rfl, m9, hn, by simp; omega⟩
        · simp only [if_neg c4]
          have hrule : ∀ d : Int, OkR cdS ((rq_rule_v3 d (n : Int) t q s.join s.after s.pl 0 0 0 s.cls s.treat s.list names bits).bind fun ((r872, r873, r874, r875, r876, r877) : Int × RL × Int × Int × Int × Int) =>
              some ((r872, s.cls, s.join, s.after, s.treat, r873, names, bits, r874, r875, r876, r877) : StR)) (match ruleS d n s r with
              | .inr e => .inr e
              | .inl (r, l, pl) => .inl { s with ts := r, list := l, pl := pl }) (RSR t) := fun d => by
            refine (ruleR ht (s := s) hn (by omega) k3 hzr d n s.join s.after i3 i4 i5).bind ?_ ?_
            · rintro ⟨q1, a2, a3, a4, c, x⟩ hy hc
              exact ⟨by simp only [hy], _, rfl, rfl⟩
            · rintro ⟨q1, a2, a3, a4, c, x⟩ ⟨r1, b2, b3⟩ hy hcd ⟨m1, m2, m3, m4⟩
              cases hcd
              dsimp only at m1 m2 m3 m4
              subst m2; subst m3; subst m4
              have z1 := ruleS_size hy
              simp only [hy]
              exact ⟨_, rfl, rfl, q1, _, _, rfl, m1, hn, by simp only []; omega⟩
          by_cases c5 : w' = [107, 101, 101, 112]
          · simp only [if_pos c5, does?]
            exact OkR.id (fun a => rfl) (hrule 0)
          · by_cases c6 : w' = [109, 97, 121]
            · simp only [if_neg c5, if_pos c6, does?]
              exact OkR.id (fun a => rfl) (hrule 1)
            · by_cases c7 : w' = [109, 117, 115, 116]
              · simp only [if_neg c5, if_neg c6, if_pos c7, does?]
                exact OkR.id (fun a => rfl) (hrule 2)
              · simp only [if_neg c5, if_neg c6, if_neg c7, does?]
                exact ⟨(q, s.cls, s.join, s.after, s.treat, s.list, names, bits, s.pl, 0, 21, n), rfl, rfl, by show (21 : Int) ≠ 0; decide⟩
theorem wordR_sg {p : Int} {c n : Nat} {r : Toks} (h : At t p (.sg c n r)) (d3 d4 d5 d6 o1 o2 o3 o4 o5) : rq_word_v8 t p d3 d4 d5 d6 0 0 o1 o2 o3 o4 o5 = some ([], (n : Int), (n : Int), 21, (n : Int)) := by
  unfold rq_word_v8
  have e00 : ((0 : Int) == 0) = true := rfl
  obtain ⟨h1, h2, h3, h4, h5⟩ := h.sg
  rw [hereR ht h, show hereRS (.sg c n r) = ((c : Int), (n : Int), 0, 0) from rfl]
  simp only [Option.bind_some, e00, if_true]
  rw [(byte_all h3).2.2.1, h1]
  rfl
theorem allR_L1 : ∀ (f : Nat) (s : PS) (p : Int) (names : List (List UInt8)) (bits : List Int), At t p s.ts → s.ts.size < f → Inv s → Nm names bits s.sets → names.length + s.ts.size ≤ 20000 →
    OkR cdS (iter (rr_Parse_L1 t) (p, s.cls, s.join, s.after, s.treat, s.list, names, bits, s.pl, 0, 0, 0)) (allS f s) (fun a b => a.2.1 = b.cls ∧ a.2.2.1 = b.join ∧ a.2.2.2.1 = b.after ∧ a.2.2.2.2.1 = b.treat ∧ a.2.2.2.2.2.1 = b.list)
  | 0, s, p, names, bits, _, h, _, _, _ => by omega
  | f + 1, s, p, names, bits, h, hf, hI, hn, hnl => by
    have hh := hereR ht h s.join s.after s.pl 0 s.cls s.treat s.list names bits
    have dead : ∀ (a : StR), (cdS a).1 ≠ 0 → iter (rr_Parse_L1 t) a = some a := fun ⟨a1, a2, a3, a4, a5, a6, a7, a8, a9, a10, c, x⟩ hc => by
      change c ≠ 0 at hc
      apply iter_r
      unfold rr_Parse_L1
      simp only [here_dead hc]
      rfl
    have hne : ∀ (x : Nat), x ≠ 0 → ((x : Int) != 0) = true := fun x hx => by rw [bne_iff_ne]; omega
    simp only [allS]
    cases hts : s.ts with
    | bad n =>
      rw [hts] at hh
      refine ⟨((n : Int), s.cls, s.join, s.after, s.treat, s.list, names, bits, s.pl, 0, 20, (n : Int)), iter_r ?_, rfl, by show (20 : Int) ≠ 0; decide⟩
      unfold rr_Parse_L1
      simp only [hh]
      rfl
    | eof n =>
      rw [hts] at hh
      refine ⟨((n : Int), s.cls, s.join, s.after, s.treat, s.list, names, bits, s.pl, 0, 0, 0), iter_r ?_, rfl, rfl, rfl, rfl, rfl, rfl⟩
      unfold rr_Parse_L1
      simp only [hh]
      rfl
    | sg c n r =>
      have hq := h.posn
      rw [hts] at hh hq h
      have k0 := wordR_sg ht hq s.join s.after s.pl 0 s.cls s.treat s.list names bits
      obtain ⟨h1, h2, h3, h4, h5⟩ := h.sg
      have h21 : (21 : Int) ≠ 0 := by decide
      have hc0 : c ≠ 0 := by rintro rfl; cases h2
      have hbody : ∃ a : StR, rr_Parse_L1 t (p, s.cls, s.join, s.after, s.treat, s.list, names, bits, s.pl, 0, 0, 0) = some (.inl a) ∧ cdS a = (21, (n : Int)) := by
        unfold rr_Parse_L1
        have e1 : hereRS (.sg c n r) = ((c : Int), (n : Int), 0, 0) := rfl
        simp only [hh, e1, Option.bind_some, hne c hc0, if_true, BEq.rfl]
        unfold rq_line_v3
        rw [show rq_word_v8 t (n : Int) s.join s.after s.pl 0 0 0 s.cls s.treat s.list names bits = some ([], (n : Int), (n : Int), 21, (n : Int)) from k0]
        exact ⟨_, rfl, rfl⟩
      obtain ⟨a, h6, h7⟩ := hbody
      rw [iter_l h6, dead a (by rw [h7]; exact h21)]
      exact ⟨a, rfl, h7, h21⟩
    | wd w n r =>
      have hl := lineR ht hts h.posn hI hn hnl
      simp only []
      have hhd : (s.ts.hd : Int) != 0 := by
        rw [hts] at h
        obtain ⟨h1, _⟩ := h.wd
        rw [hts]
        apply hne
        intro hh
        simp only [Toks.hd] at hh
        rw [hh] at h1; cases h1
      have e1 : hereRS s.ts = ((s.ts.hd : Int), (s.ts.pos : Int), 0, 0) := by rw [hts]; rfl
      cases hls : lineS s w n r with
      | inr e =>
        rw [hls] at hl
        obtain ⟨a, k0, k1, k2⟩ := hl
        subst k1
        rw [iter_l (s' := a) (by
          unfold rr_Parse_L1
          simp only [hh, e1, Option.bind_some, hhd, if_true, BEq.rfl, k0]), dead a k2]
        exact ⟨a, rfl, rfl, k2⟩
      | inl s1 =>
        rw [hls] at hl
        obtain ⟨a, k0, k1, p1, nm1, bt1, rfl, m1, m2, m3⟩ := hl
        have hz := lineS_size hls
        rw [iter_l (s' := (p1, s1.cls, s1.join, s1.after, s1.treat, s1.list, nm1, bt1, s1.pl, 0, 0, 0)) (by
          unfold rr_Parse_L1
          simp only [hh, e1, Option.bind_some, hhd, if_true, BEq.rfl, k0])]
        have hI1 : Inv s1 := by
          obtain ⟨a, _, _, _, h6⟩ := (allP_body ht hts h hI).2 s1 hls
          exact h6
        rw [hts] at hf
        simp only [Toks.size] at hf
        exact allR_L1 f s1 p1 nm1 bt1 m1 (by omega) hI1 m2 m3
end
theorem parseR (t : List UInt8) : rr_Parse t = some (answer (parseS t)) := by
  unfold rr_Parse parseS
  by_cases hl : t.length > 4096
  · rw [if_pos (by simp; omega), if_pos hl]
    rfl
  · rw [if_neg (by simp; omega), if_neg hl]
    have hz := T_size (t := t) _ 0 (Nat.le_refl _) (by omega)
    have h := allR_L1 (t := t) (by omega) (t.length + 1) (init (T t 0)) 0 [] [] (at0 t) (by show (T t 0).size < _; omega) (inv0 _) ⟨rfl, rfl⟩ (by show 0 + (T t 0).size ≤ _; omega)
    cases hs : allS (t.length + 1) (init (T t 0)) with
    | inr e =>
      rw [hs] at h
      obtain ⟨⟨a1, a2, a3, a4, a5, a6, a7, a8, a9, a10, c, x⟩, h1, h2, h3⟩ := h
      cases h2
      change c ≠ 0 at h3
      rw [show iter (rr_Parse_L1 t) (0, [], 0, 0, [], [], [], [], 0, 0, 0, 0) = _ from h1]
      simp only [Option.bind_some]
      rw [if_pos (by rw [bne_iff_ne]; exact h3)]
      rfl
    | inl s =>
      rw [hs] at h
      obtain ⟨⟨a1, a2, a3, a4, a5, a6, a7, a8, a9, a10, c, x⟩, h1, h2, h3, h4, h5, h6, h7⟩ := h
      cases h2
      dsimp only at h3 h4 h5 h6 h7
      subst h3; subst h4; subst h5; subst h6; subst h7
      rw [show iter (rr_Parse_L1 t) (0, [], 0, 0, [], [], [], [], 0, 0, 0, 0) = _ from h1]
      rfl
end Go.Proofs.Ytjfjigknkhgkdaa.T
