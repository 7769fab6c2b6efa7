/- The pieces of a text of rules: both parsers see the same ones. -/
import Derived.Test.YtnjdmbifjbahdaaTvT04ya
import Derived.Test.YtnjdmbifjbahdaaTvYm
namespace Go.Proofs.Ytnjdmbifjbahdaa.T
open Go Go.Tv Go.Proofs
def letN (c : Nat) : Bool := c == 95 || (97 ≤ c && c ≤ 122) || (65 ≤ c && c ≤ 90) || (48 ≤ c && c ≤ 57)
def blaN (c : Nat) : Bool := c == 32 || c == 9 || c == 10 || c == 13
def sgnN (c : Nat) : Bool := [40, 41, 91, 93, 94, 124, 42, 43, 63, 46, 59, 47, 61].contains c
theorem bytes_ok : ((List.range 256).all fun n => (rules_letter (n : Int) == some (letN n)) && (rules_blank (n : Int) == some (blaN n)) && (decide (idxB [40, 41, 91, 93, 94, 124, 42, 43, 63, 46, 59, 47, 61] (n : Int) 0 < 0) == !sgnN n)
    && (!(letN n && sgnN n)) && (n.toUInt8.toNat == n)) = true := by kernel_rfl
theorem byte_all {n : Nat} (h : n < 256) : rules_letter (n : Int) = some (letN n) ∧ rules_blank (n : Int) = some (blaN n) ∧ decide (idxB [40, 41, 91, 93, 94, 124, 42, 43, 63, 46, 59, 47, 61] (n : Int) 0 < 0) = !sgnN n := by
  have h1 := List.all_eq_true.mp bytes_ok n (List.mem_range.mpr h)
  simp only [Bool.and_eq_true, beq_iff_eq] at h1
  exact ⟨h1.1.1.1.1, h1.1.1.1.2, h1.1.1.2⟩
theorem u8_lt (c : UInt8) : c.toNat < 256 := UInt8.toNat_lt c
theorem rlet (c : UInt8) : rules_letter (c.toNat : Int) = some (letN c.toNat) := (byte_all (u8_lt c)).1
theorem rbla (c : UInt8) : rules_blank (c.toNat : Int) = some (blaN c.toNat) := (byte_all (u8_lt c)).2.1
theorem rsgn (c : UInt8) : decide (idxB [40, 41, 91, 93, 94, 124, 42, 43, 63, 46, 59, 47, 61] (c.toNat : Int) 0 < 0) = !sgnN c.toNat := (byte_all (u8_lt c)).2.2
inductive Toks where
  | bad (n : Nat)
  | eof (n : Nat)
  | wd (w : List UInt8) (n : Nat) (r : Toks)
  | sg (c : Nat) (n : Nat) (r : Toks)
def tk : Option Nat → List UInt8 → Nat → Toks
  | _, [], n => .eof n
  | none, c :: r, n => if c.toNat = 10 then tk (some 0) r (n + 1) else tk none r (n + 1)
  | some (k + 1), _ :: r, n => tk (some k) r (n + 1)
  | some 0, c :: r, n =>
    if c.toNat = 35 then tk none r (n + 1)
    else if blaN c.toNat then tk (some 0) r (n + 1)
    else if letN c.toNat then .wd (c :: r.takeWhile fun x => letN x.toNat) n (tk (some (r.takeWhile fun x => letN x.toNat).length) r (n + 1))
    else if sgnN c.toNat then .sg c.toNat n (tk (some 0) r (n + 1))
    else .bad n
theorem tk_skip : ∀ (k : Nat) (l : List UInt8) (n : Nat), k ≤ l.length → tk (some k) l n = tk (some 0) (l.drop k) (n + k)
  | 0, l, n, _ => rfl
  | k + 1, [], n, h => by simp at h
  | k + 1, c :: r, n, h => by
    have := tk_skip k r (n + 1) (by simpa using h)
    show tk (some k) r (n + 1) = tk (some 0) (r.drop k) (n + (k + 1))
    rw [this, Nat.add_assoc, Nat.add_comm 1 k]
def T (t : List UInt8) (a : Nat) : Toks := tk (some 0) (t.drop a) a
def Toks.pos : Toks → Nat
  | .bad n => n
  | .eof n => n
  | .wd _ n _ => n
  | .sg _ n _ => n
def Toks.hd : Toks → Nat
  | .bad _ => 0
  | .eof _ => 0
  | .wd w _ _ => (w.headD 0).toNat
  | .sg c _ _ => c
def Toks.size : Toks → Nat
  | .bad _ => 0
  | .eof _ => 0
  | .wd _ _ r => r.size + 1
  | .sg _ _ r => r.size + 1
theorem T_end {t : List UInt8} {a : Nat} (h : t.length ≤ a) : T t a = .eof a := by
  unfold T; rw [List.drop_eq_nil_of_le h]; rfl
theorem T_step {t : List UInt8} {a : Nat} (h : a < t.length) : T t a =
    if (t.getD a 0).toNat = 35 then tk none (t.drop (a + 1)) (a + 1)
    else if blaN (t.getD a 0).toNat then T t (a + 1)
    else if letN (t.getD a 0).toNat then .wd ((t.drop a).takeWhile fun x => letN x.toNat) a (T t (a + ((t.drop a).takeWhile fun x => letN x.toNat).length))
    else if sgnN (t.getD a 0).toNat then .sg (t.getD a 0).toNat a (T t (a + 1))
    else .bad a := by
  unfold T
  have e : t.drop a = t.getD a 0 :: t.drop (a + 1) := drop_cons' h
  generalize hc : t.getD a 0 = c at e
  rw [e]
  simp only [tk]
  split
  · rfl
  · split
    · rfl
    · split
      · rename_i hl
        have : (c :: List.drop (a + 1) t).takeWhile (fun x => letN x.toNat) = c :: (List.drop (a + 1) t).takeWhile (fun x => letN x.toNat) := by
          rw [List.takeWhile_cons, if_pos hl]
        rw [this, tk_skip _ _ _ (List.takeWhile_prefix _).length_le, List.drop_drop]
        simp only [List.length_cons]
        rw [show a + 1 + (List.takeWhile (fun x => letN x.toNat) (List.drop (a + 1) t)).length = a + ((List.takeWhile (fun x => letN x.toNat) (List.drop (a + 1) t)).length + 1) by omega]
      · rfl
theorem T_rem {t : List UInt8} {a : Nat} (h : a < t.length) : tk none (t.drop a) a = if (t.getD a 0).toNat = 10 then T t (a + 1) else tk none (t.drop (a + 1)) (a + 1) := by
  have e : t.drop a = t.getD a 0 :: t.drop (a + 1) := drop_cons' h
  generalize hc : t.getD a 0 = c at e
  rw [e]
  rfl
theorem T_hash {t : List UInt8} {a : Nat} (h : a < t.length) (hc : (t.getD a 0).toNat = 35) : T t a = tk none (t.drop a) a := by
  rw [T_step h, if_pos hc, T_rem h, if_neg (by omega)]
theorem idxB_cases : ∀ (l : List UInt8) (k : Int), 0 ≤ k → (idxB l 10 k = -1 ∧ ∀ n, tk none l n = .eof (n + l.length)) ∨ ∃ j : Nat, j < l.length ∧ idxB l 10 k = k + j ∧ (l.getD j 0).toNat = 10 ∧ ∀ n, tk none l n = tk (some 0) (l.drop j) (n + j)
  | [], k, hk => Or.inl ⟨rfl, fun n => rfl⟩
  | c :: r, k, hk => by
    have e10 : (Int.toNat 10).toUInt8 = (10 : UInt8) := by decide
    by_cases hc : c.toNat = 10
    · have hc' : c = 10 := UInt8.toNat_inj.mp (by rw [hc]; decide)
      subst hc'
      refine Or.inr ⟨0, by simp, ?_, rfl, fun n => ?_⟩
      · simp [idxB]
      · show tk none ((10 : UInt8) :: r) n = tk (some 0) ((10 : UInt8) :: r) n
        simp only [tk]
        rw [if_pos (by decide), if_neg (by decide), if_pos (by decide)]
    · have hc' : ¬ (c == (10 : UInt8)) = true := by
        intro h; apply hc; rw [beq_iff_eq.mp h]; decide
      have e : idxB (c :: r) 10 k = idxB r 10 (k + 1) := by
        simp only [idxB, e10]
        rw [if_neg hc']
      have e2 : ∀ n, tk none (c :: r) n = tk none r (n + 1) := fun n => by
        simp only [tk]; rw [if_neg hc]
      rcases idxB_cases r (k + 1) (by omega) with ⟨h1, h2⟩ | ⟨j, h1, h2, h3, h4⟩
      · exact Or.inl ⟨by rw [e, h1], fun n => by rw [e2, h2, List.length_cons]; congr 1; omega⟩
      · refine Or.inr ⟨j + 1, by simp; omega, by rw [e, h2]; push_cast; omega, h3, fun n => ?_⟩
        rw [e2, h4, List.drop_succ_cons]; congr 1; omega
theorem T_pos (t : List UInt8) : ∀ (m a : Nat), t.length - a ≤ m → a ≤ t.length → a ≤ (T t a).pos ∧ (T t a).pos ≤ t.length ∧ T t (T t a).pos = T t a := by
  intro m
  have hend : ∀ a, a = t.length → a ≤ (T t a).pos ∧ (T t a).pos ≤ t.length ∧ T t (T t a).pos = T t a := fun a h => by
    rw [T_end (by omega)]
    exact ⟨Nat.le_refl _, by simp only [Toks.pos]; omega, T_end (by simp only [Toks.pos]; omega)⟩
  induction m with
  | zero => intro a h1 h2; exact hend a (by omega)
  | succ m ih =>
    intro a h1 h2
    rcases Nat.lt_or_ge a t.length with h | h
    · by_cases h35 : (t.getD a 0).toNat = 35
      · rw [T_hash h h35]
        rcases idxB_cases (t.drop a) 0 (by omega) with ⟨_, e⟩ | ⟨j, hj, _, hj3, e⟩
        · rw [e, List.length_drop]
          simp only [Toks.pos]
          exact ⟨by omega, by omega, T_end (by omega)⟩
        · rw [e, List.drop_drop]
          rw [List.length_drop] at hj
          have hg : (t.drop a).getD j 0 = t.getD (a + j) 0 := by simp [List.getD_eq_getElem?_getD]
          rw [hg] at hj3
          have h0 : j ≠ 0 := by rintro rfl; simp only [Nat.add_zero] at hj3; omega
          have := ih (a + j) (by omega) (by omega)
          exact ⟨by have := this.1; show a ≤ (T t (a + j)).pos; omega, this.2⟩
      · have e := T_step h
        rw [if_neg h35] at e
        by_cases hb : blaN (t.getD a 0).toNat = true
        · rw [if_pos hb] at e
          rw [e]
          have := ih (a + 1) (by omega) (by omega)
          exact ⟨by omega, this.2⟩
        · rw [if_neg hb] at e
          have hp : (T t a).pos = a := by
            rw [e]
            split
            · rfl
            · split <;> rfl
          rw [hp]
          exact ⟨Nat.le_refl _, h2, rfl⟩
    · exact hend a (by omega)
def At (t : List UInt8) (p : Int) (ts : Toks) : Prop := 0 ≤ p ∧ p ≤ t.length ∧ T t p.toNat = ts
theorem At.posn {t : List UInt8} {p : Int} {ts : Toks} (h : At t p ts) : At t (ts.pos : Int) ts := by
  obtain ⟨h1, h2, rfl⟩ := h
  have := T_pos t (t.length - p.toNat) p.toNat (Nat.le_refl _) (by omega)
  exact ⟨by omega, by omega, by simpa using this.2.2⟩
abbrev Er := Int × Int
def hereO : Toks → Int ⊕ ((Int × Int) ⊕ (Int × Int))
  | .bad n => .inr (.inl (20, n))
  | .eof n => .inl n
  | ts => .inr (.inr (ts.hd, ts.pos))
def hereS : Toks → (Int × Int) ⊕ (Int × Int)
  | .bad n => .inr (20, n)
  | ts => .inl (ts.hd, ts.pos)
theorem iter_l {S T : Type} {body : S → Option (S ⊕ T)} {s s' : S} (h : body s = some (.inl s')) : iter body s = iter body s' := by rw [iter_eq, h]
theorem iter_r {S T : Type} {body : S → Option (S ⊕ T)} {s : S} {r : T} (h : body s = some (.inr r)) : iter body s = some r := by rw [iter_eq, h]
theorem hereP_L1 {t : List UInt8} (ht : t.length ≤ 10000) (d3 d4 d5 d6 o1 o2 o3 o4) : ∀ (m a : Nat), t.length - a ≤ m → a ≤ t.length → iter (pq_here_v2_L1 t d3 d4 d5 d6 o1 o2 o3 o4) (a : Int) = some (hereO (T t a)) := by
  intro m
  have hend : ∀ a : Nat, a = t.length → iter (pq_here_v2_L1 t d3 d4 d5 d6 o1 o2 o3 o4) (a : Int) = some (hereO (T t a)) := fun a h => by
    rw [T_end (by omega)]
    apply iter_r
    unfold pq_here_v2_L1
    rw [if_neg (by simp; omega)]
    rfl
  induction m with
  | zero => intro a h1 h2; exact hend a (by omega)
  | succ m ih =>
    intro a h1 h2
    rcases Nat.lt_or_ge a t.length with h | h
    · have c1 : decide ((a : Int) < (t.length : Int)) = true := by simp; omega
      have c2 : 0 ≤ (a : Int) ∧ (a : Int) < (t.length : Int) := ⟨by omega, by omega⟩
      by_cases h35 : (t.getD a 0).toNat = 35
      · have z35 : (((t.getD a 0).toNat : Int) == (35 : Int)) = true := by rw [h35]; rfl
        have e0 : (t.take t.length).drop a = t.drop a := by rw [List.take_length]
        rw [T_hash h h35]
        rcases idxB_cases (t.drop a) 0 (by omega) with ⟨e1, e⟩ | ⟨j, hj, e1, hj3, e⟩
        · have hb : pq_here_v2_L1 t d3 d4 d5 d6 o1 o2 o3 o4 (a : Int) = some (.inl (t.length : Int)) := by
            unfold pq_here_v2_L1
            rw [if_pos c1, if_pos c2, Int.toNat_natCast, if_pos z35, if_pos ⟨by omega, by omega, by omega⟩]
            simp only [strings_IndexByte, stringslite_IndexByte, Option.bind_some, Int.toNat_natCast, e0, e1]
            rw [if_pos (by decide)]
            simp only [Option.bind_some]
            have ew : IntKind.i64.wrap ((t.length : Int) - (a : Int)) = (t.length : Int) - a := wrap_i64 (by omega) (by omega)
            rw [ew, wrap_i64 (by omega) (by omega), show (a : Int) + ((t.length : Int) - a) = (t.length : Int) by omega]
          rw [iter_l hb, hend t.length rfl, T_end (Nat.le_refl _), e, List.length_drop]
          congr 3; omega
        · rw [List.length_drop] at hj
          have hg : (t.drop a).getD j 0 = t.getD (a + j) 0 := by simp [List.getD_eq_getElem?_getD]
          rw [hg] at hj3
          have h0 : j ≠ 0 := by rintro rfl; simp only [Nat.add_zero] at hj3; omega
          have hb : pq_here_v2_L1 t d3 d4 d5 d6 o1 o2 o3 o4 (a : Int) = some (.inl ((a + j : Nat) : Int)) := by
            unfold pq_here_v2_L1
            rw [if_pos c1, if_pos c2, Int.toNat_natCast, if_pos z35, if_pos ⟨by omega, by omega, by omega⟩]
            simp only [strings_IndexByte, stringslite_IndexByte, Option.bind_some, Int.toNat_natCast, e0, e1]
            rw [if_neg (by simp)]
            simp only [Option.bind_some]
            rw [wrap_i64 (by omega) (by omega), show (a : Int) + (0 + (j : Int)) = ((a + j : Nat) : Int) by omega]
          rw [iter_l hb, ih (a + j) (by omega) (by omega), e, List.drop_drop]
          rfl
      · have hz : ¬ (((t.getD a 0).toNat : Int) == (35 : Int)) = true := by simp only [beq_iff_eq]; omega
        have e := T_step h
        rw [if_neg h35] at e
        by_cases hb : blaN (t.getD a 0).toNat = true
        · have hb' : pq_here_v2_L1 t d3 d4 d5 d6 o1 o2 o3 o4 (a : Int) = some (.inl ((a + 1 : Nat) : Int)) := by
            unfold pq_here_v2_L1
            rw [if_pos c1, if_pos c2, Int.toNat_natCast, if_neg hz, rbla]
            simp only [Option.bind_some]
            rw [if_pos hb, wrap_i64 (by omega) (by omega)]
            rfl
          rw [iter_l hb', e, if_pos hb]
          exact ih (a + 1) (by omega) (by omega)
        · rw [if_neg hb] at e
          apply iter_r
          unfold pq_here_v2_L1
          rw [if_pos c1, if_pos c2, Int.toNat_natCast, if_neg hz, rbla, rlet]
          simp only [Option.bind_some]
          rw [if_neg hb]
          by_cases hl : letN (t.getD a 0).toNat = true
          · rw [if_pos hl] at e
            rw [e, hl, if_neg (by simp)]
            simp only [Option.bind_some]
            rw [if_neg (by simp)]
            show _ = some (Sum.inr (Sum.inr (Sum.inr ((((List.headD (List.takeWhile (fun x => letN x.toNat) (List.drop a t)) 0).toNat : Nat) : Int), (a : Int)))))
            rw [drop_cons' (d := 0) h, List.takeWhile_cons, if_pos hl]
            rfl
          · rw [if_neg hl] at e
            have hl' : letN (t.getD a 0).toNat = false := by simpa using hl
            rw [hl', if_pos (by rfl)]
            simp only [strings_IndexByte, stringslite_IndexByte, Option.bind_some, rsgn]
            by_cases hs : sgnN (t.getD a 0).toNat = true
            · rw [if_pos hs] at e
              rw [e, hs, if_neg (by simp)]
              rfl
            · rw [if_neg hs] at e
              have hs' : sgnN (t.getD a 0).toNat = false := by simpa using hs
              rw [e, hs', if_pos (by rfl)]
              rfl
    · exact hend a (by omega)
theorem hereP {t : List UInt8} (ht : t.length ≤ 10000) {p : Int} {ts : Toks} (h : At t p ts) (d3 d4 d5 d6 o1 o2 o3 o4) : pq_here_v2 t p d3 d4 d5 d6 o1 o2 o3 o4 = some (hereS ts) := by
  obtain ⟨h1, h2, rfl⟩ := h
  obtain ⟨a, rfl⟩ := Int.eq_ofNat_of_zero_le h1
  unfold pq_here_v2
  rw [hereP_L1 ht d3 d4 d5 d6 o1 o2 o3 o4 _ a (Nat.le_refl _) (by omega), Int.toNat_natCast]
  cases T t a <;> rfl
end Go.Proofs.Ytnjdmbifjbahdaa.T
namespace Go.Proofs.Ytnjdmbifjbahdaa.T
open Go Go.Tv Go.Proofs
abbrev isL (x : UInt8) : Bool := letN x.toNat
theorem T_at {t : List UInt8} {a : Nat} (h : a < t.length) (hp : (T t a).pos = a) : T t a =
    if letN (t.getD a 0).toNat then .wd ((t.drop a).takeWhile isL) a (T t (a + ((t.drop a).takeWhile isL).length))
    else if sgnN (t.getD a 0).toNat then .sg (t.getD a 0).toNat a (T t (a + 1))
    else .bad a := by
  have e := T_step h
  by_cases h35 : (t.getD a 0).toNat = 35
  · exfalso
    have eh := T_hash h h35
    rcases idxB_cases (t.drop a) 0 (by omega) with ⟨_, e⟩ | ⟨j, hj, _, hj3, e⟩
    · rw [eh, e, List.length_drop] at hp
      simp only [Toks.pos] at hp
      omega
    · rw [List.length_drop] at hj
      have hg : (t.drop a).getD j 0 = t.getD (a + j) 0 := by simp [List.getD_eq_getElem?_getD]
      rw [hg] at hj3
      have h0 : j ≠ 0 := by rintro rfl; simp only [Nat.add_zero] at hj3; omega
      rw [eh, e, List.drop_drop] at hp
      have := (T_pos t _ (a + j) (Nat.le_refl _) (by omega)).1
      change (T t (a + j)).pos = a at hp
      omega
  · rw [if_neg h35] at e
    by_cases hb : blaN (t.getD a 0).toNat = true
    · exfalso
      rw [if_pos hb] at e
      rw [e] at hp
      have := (T_pos t _ (a + 1) (Nat.le_refl _) (by omega)).1
      omega
    · rw [if_neg hb] at e
      exact e
theorem T_wd {t : List UInt8} {n : Nat} {w r} (h : At t n (.wd w n r)) : n < t.length ∧ letN (t.getD n 0).toNat = true ∧ w = (t.drop n).takeWhile isL ∧ r = T t (n + w.length) := by
  obtain ⟨h1, h2, h3⟩ := h
  rw [Int.toNat_natCast] at h3
  rcases Nat.lt_or_ge n t.length with hl | hl
  · have e := T_at hl (by rw [h3]; rfl)
    rw [h3] at e
    by_cases hc : letN (t.getD n 0).toNat = true
    · rw [if_pos hc] at e
      injection e with e1 e2 e3
      exact ⟨hl, hc, e1, by rw [e3, e1]⟩
    · rw [if_neg hc] at e
      split at e <;> cases e
  · rw [T_end hl] at h3; cases h3
theorem T_sg {t : List UInt8} {n c : Nat} {r} (h : At t n (.sg c n r)) : n < t.length ∧ letN c = false ∧ sgnN c = true ∧ c < 256 ∧ r = T t (n + 1) := by
  obtain ⟨h1, h2, h3⟩ := h
  rw [Int.toNat_natCast] at h3
  rcases Nat.lt_or_ge n t.length with hl | hl
  · have e := T_at hl (by rw [h3]; rfl)
    rw [h3] at e
    by_cases hc : letN (t.getD n 0).toNat = true
    · rw [if_pos hc] at e; cases e
    · rw [if_neg hc] at e
      by_cases hs : sgnN (t.getD n 0).toNat = true
      · rw [if_pos hs] at e
        injection e with e1 e2 e3
        exact ⟨hl, by rw [e1]; simpa using hc, by rw [e1]; exact hs, by rw [e1]; exact u8_lt _, e3⟩
      · rw [if_neg hs] at e; cases e
  · rw [T_end hl] at h3; cases h3
theorem At.wd {t : List UInt8} {p : Int} {w n r} (h : At t p (.wd w n r)) : letN ((w.headD 0).toNat) = true ∧ w = (t.drop n).takeWhile isL ∧ n + w.length ≤ t.length ∧ At t ((n + w.length : Nat) : Int) r ∧ 1 ≤ w.length := by
  obtain ⟨h1, h2, h3, h4⟩ := T_wd (show At t (n : Int) _ from h.posn)
  have hw : w = t.getD n 0 :: (t.drop (n + 1)).takeWhile isL := by
    rw [h3, drop_cons' (d := 0) h1, List.takeWhile_cons, if_pos h2]
  have hle : w.length ≤ t.length - n := by
    rw [h3, ← List.length_drop]; exact (List.takeWhile_prefix _).length_le
  refine ⟨by rw [hw]; exact h2, h3, by omega, ⟨by omega, by omega, by rw [Int.toNat_natCast]; exact h4.symm⟩, by rw [hw]; simp⟩
theorem At.sg {t : List UInt8} {p : Int} {c n r} (h : At t p (.sg c n r)) : letN c = false ∧ sgnN c = true ∧ c < 256 ∧ At t ((n : Int) + 1) r ∧ n < t.length := by
  obtain ⟨h1, h2, h3, h4, h5⟩ := T_sg (show At t (n : Int) _ from h.posn)
  refine ⟨h2, h3, h4, ⟨by omega, by omega, ?_⟩, h1⟩
  rw [show ((n : Int) + 1).toNat = n + 1 by omega]; exact h5.symm
theorem tw_step {t : List UInt8} {a : Nat} (h : a < t.length) : ((t.drop a).takeWhile isL).length = if letN (t.getD a 0).toNat then ((t.drop (a + 1)).takeWhile isL).length + 1 else 0 := by
  rw [drop_cons' (d := 0) h, List.takeWhile_cons]
  split <;> simp
theorem wordP_L1 {t : List UInt8} (ht : t.length ≤ 10000) : ∀ (m a : Nat), t.length - a ≤ m → a ≤ t.length → iter (pq_word_v2_L1 t) (a : Int) = some ((a + ((t.drop a).takeWhile isL).length : Nat) : Int) := by
  intro m
  have hend : ∀ a : Nat, a = t.length → iter (pq_word_v2_L1 t) (a : Int) = some ((a + ((t.drop a).takeWhile isL).length : Nat) : Int) := fun a h => by
    rw [List.drop_eq_nil_of_le (by omega)]
    apply iter_r
    unfold pq_word_v2_L1
    rw [if_neg (by simp; omega)]
    rfl
  induction m with
  | zero => intro a h1 h2; exact hend a (by omega)
  | succ m ih =>
    intro a h1 h2
    rcases Nat.lt_or_ge a t.length with h | h
    · have c1 : decide ((a : Int) < (t.length : Int)) = true := by simp; omega
      have c2 : 0 ≤ (a : Int) ∧ (a : Int) < (t.length : Int) := ⟨by omega, by omega⟩
      have e := tw_step h
      by_cases hl : letN (t.getD a 0).toNat = true
      · have hb : pq_word_v2_L1 t (a : Int) = some (.inl ((a + 1 : Nat) : Int)) := by
          unfold pq_word_v2_L1
          rw [if_pos c1, if_pos c2, Int.toNat_natCast, rlet, hl]
          simp only [Option.bind_some]
          rw [if_pos trivial, wrap_i64 (by omega) (by omega)]
          rfl
        rw [iter_l hb, ih (a + 1) (by omega) (by omega), e, if_pos hl]
        congr 2; omega
      · rw [e, if_neg hl]
        apply iter_r
        unfold pq_word_v2_L1
        rw [if_pos c1, if_pos c2, Int.toNat_natCast, rlet]
        simp only [Option.bind_some]
        rw [if_neg hl]
        rfl
    · exact hend a (by omega)
def Ok {A B : Type} (x : Option (A ⊕ Er)) (y : B ⊕ Er) (R : A → B → Prop) : Prop := match y with
  | .inr e => x = some (.inr e)
  | .inl b => ∃ a, x = some (.inl a) ∧ R a b
def wordS : Toks → (List UInt8 × Int × Toks) ⊕ Er
  | .bad n => .inr (20, n)
  | .wd w n r => .inl (w, n, r)
  | .eof n => .inr (21, n)
  | .sg _ n _ => .inr (21, n)
def signS (c : Nat) : Toks → (Bool × Toks) ⊕ Er
  | .bad n => .inr (20, n)
  | .sg d n r => if d = c then .inl (true, r) else .inl (false, .sg d n r)
  | ts => .inl (false, ts)
def wantS (c : Nat) : Toks → Toks ⊕ Er
  | .bad n => .inr (20, n)
  | .sg d n r => if d = c then .inl r else .inr (21, n)
  | ts => .inr (21, ts.pos)
theorem take_drop_word {t : List UInt8} {n : Nat} {w : List UInt8} (hw : w = (t.drop n).takeWhile isL) : (t.take (n + w.length)).drop n = w := by
  rw [List.drop_take, show n + w.length - n = w.length by omega, hw]
  exact (List.prefix_iff_eq_take.mp (List.takeWhile_prefix _)).symm
theorem wordP {t : List UInt8} (ht : t.length ≤ 10000) {p : Int} {ts : Toks} (h : At t p ts) (d3 d4 d5 d6 o1 o2 o3 o4) : Ok (pq_word_v2 t p d3 d4 d5 d6 o1 o2 o3 o4) (wordS ts) (fun a b => a.1 = b.1 ∧ a.2.1 = b.2.1 ∧ At t a.2.2 b.2.2) := by
  unfold pq_word_v2
  rw [hereP ht h]
  simp only [Option.bind_some]
  have hq := h.posn
  cases ts with
  | bad n => rfl
  | eof n =>
    simp only [hereS, Toks.hd, Toks.pos, wordS, Ok]
    rw [(byte_all (show 0 < 256 by decide)).1]
    rfl
  | sg c n r =>
    obtain ⟨h1, h2, h3, h4, h5⟩ := h.sg
    simp only [hereS, Toks.hd, Toks.pos, wordS, Ok]
    rw [(byte_all h3).1, h1]
    rfl
  | wd w n r =>
    obtain ⟨h1, h2, h3, h4, h5⟩ := h.wd
    simp only [hereS, Toks.hd, Toks.pos, wordS, Ok]
    rw [rlet, h1]
    simp only [Option.bind_some]
    rw [if_neg (by simp), wordP_L1 ht _ n (Nat.le_refl _) (by omega), ← h2]
    simp only [Option.bind_some]
    rw [if_pos ⟨by omega, by omega, by omega⟩]
    refine ⟨_, rfl, ?_, rfl, h4⟩
    simp only [Int.toNat_natCast]
    exact take_drop_word h2
theorem signP {t : List UInt8} (ht : t.length ≤ 10000) {c : Nat} (hc : letN c = false) (hc0 : c ≠ 0) {p : Int} {ts : Toks} (h : At t p ts) (d3 d4 d5 d6 o1 o2 o3 o4) : Ok (pq_sign_v2 (c : Int) t p d3 d4 d5 d6 o1 o2 o3 o4) (signS c ts) (fun a b => a.1 = b.1 ∧ At t a.2 b.2 ∧ (a.1 = false → a.2 = b.2.pos)) := by
  unfold pq_sign_v2
  rw [hereP ht h]
  simp only [Option.bind_some]
  have hq := h.posn
  cases ts with
  | bad n => rfl
  | eof n =>
    simp only [hereS, Toks.hd, Toks.pos, signS, Ok]
    rw [if_pos (by simp; omega)]
    exact ⟨_, rfl, rfl, hq, fun _ => rfl⟩
  | sg d n r =>
    obtain ⟨h1, h2, h3, h4, h5⟩ := h.sg
    simp only [hereS, Toks.hd, Toks.pos, signS]
    by_cases hd : d = c
    · rw [if_neg (by simp [hd]), if_pos hd, wrap_i64 (by omega) (by omega)]
      exact ⟨_, rfl, rfl, h4, fun h => by cases h⟩
    · rw [if_pos (by simp; omega), if_neg hd]
      exact ⟨_, rfl, rfl, hq, fun _ => rfl⟩
  | wd w n r =>
    obtain ⟨h1, h2, h3, h4, h5⟩ := h.wd
    simp only [hereS, Toks.hd, Toks.pos, signS, Ok]
    rw [if_pos (by
      simp only [bne_iff_ne, ne_eq]
      intro hh
      have : (w.headD 0).toNat = c := by omega
      rw [this, hc] at h1; cases h1)]
    exact ⟨_, rfl, rfl, hq, fun _ => rfl⟩
theorem wantP {t : List UInt8} (ht : t.length ≤ 10000) {c : Nat} (hc : letN c = false) (hc0 : c ≠ 0) {p : Int} {ts : Toks} (h : At t p ts) (d3 d4 d5 d6 o1 o2 o3 o4) : Ok (pq_want_v1 (c : Int) t p d3 d4 d5 d6 o1 o2 o3 o4) (wantS c ts) (fun a b => At t a b) := by
  have hs := signP ht hc hc0 h d3 d4 d5 d6 o1 o2 o3 o4
  unfold pq_want_v1
  cases ts with
  | bad n => rw [show pq_sign_v2 (c : Int) t p d3 d4 d5 d6 o1 o2 o3 o4 = _ from hs]; rfl
  | eof n =>
    obtain ⟨⟨b, q⟩, h1, h2, h3, h4⟩ := hs
    cases (show b = false from h2)
    cases (show q = _ from h4 rfl)
    rw [h1]; rfl
  | sg d n r =>
    by_cases hd : d = c
    · simp only [signS, if_pos hd] at hs
      obtain ⟨⟨b, q⟩, h1, h2, h3, h4⟩ := hs
      cases (show b = true from h2)
      simp only [wantS, if_pos hd]
      rw [h1]; exact ⟨_, rfl, h3⟩
    · simp only [signS, if_neg hd] at hs
      obtain ⟨⟨b, q⟩, h1, h2, h3, h4⟩ := hs
      cases (show b = false from h2)
      cases (show q = _ from h4 rfl)
      simp only [wantS, if_neg hd]
      rw [h1]; rfl
  | wd w n r =>
    obtain ⟨⟨b, q⟩, h1, h2, h3, h4⟩ := hs
    cases (show b = false from h2)
    cases (show q = _ from h4 rfl)
    rw [h1]; rfl
end Go.Proofs.Ytnjdmbifjbahdaa.T
