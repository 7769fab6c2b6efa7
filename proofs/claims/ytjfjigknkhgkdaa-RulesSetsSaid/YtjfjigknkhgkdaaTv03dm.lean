/- The pieces of a text of rules: both parsers see the same ones. -/
import Derived.Test.YtjfjigknkhgkdaaTvT03xc
import Derived.Test.YtjfjigknkhgkdaaTvYb
namespace Go.Proofs.Ytjfjigknkhgkdaa.T
open Go Go.Tv Go.Proofs
def letN (c : Nat) : Bool := c == 95 || (97 ≤ c && c ≤ 122) || (65 ≤ c && c ≤ 90) || (48 ≤ c && c ≤ 57)
def blaN (c : Nat) : Bool := c == 32 || c == 9 || c == 10 || c == 13
def sgnN (c : Nat) : Bool := [40, 41, 91, 93, 94, 124, 42, 43, 63, 46, 59, 47, 61].contains c
theorem bytes_ok : ((List.range 256).all fun n => (rules_letter (n : Int) == some (letN n)) && (rules_blank (n : Int) == some (blaN n)) && (rr_letter (n : Int) == some (letN n)) && (decide (idxB [40, 41, 91, 93, 94, 124, 42, 43, 63, 46, 59, 47, 61] (n : Int) 0 < 0) == !sgnN n)
    && (!(letN n && sgnN n)) && (n.toUInt8.toNat == n)) = true := by kernel_rfl
theorem byte_all {n : Nat} (h : n < 256) : rules_letter (n : Int) = some (letN n) ∧ rules_blank (n : Int) = some (blaN n) ∧ rr_letter (n : Int) = some (letN n) ∧ decide (idxB [40, 41, 91, 93, 94, 124, 42, 43, 63, 46, 59, 47, 61] (n : Int) 0 < 0) = !sgnN n := by
  have h1 := List.all_eq_true.mp bytes_ok n (List.mem_range.mpr h)
  simp only [Bool.and_eq_true, beq_iff_eq] at h1
  exact ⟨h1.1.1.1.1.1, h1.1.1.1.1.2, h1.1.1.1.2, h1.1.1.2⟩
theorem u8_lt (c : UInt8) : c.toNat < 256 := UInt8.toNat_lt c
theorem rlet (c : UInt8) : rules_letter (c.toNat : Int) = some (letN c.toNat) := (byte_all (u8_lt c)).1
theorem rbla (c : UInt8) : rules_blank (c.toNat : Int) = some (blaN c.toNat) := (byte_all (u8_lt c)).2.1
theorem rsgn (c : UInt8) : decide (idxB [40, 41, 91, 93, 94, 124, 42, 43, 63, 46, 59, 47, 61] (c.toNat : Int) 0 < 0) = !sgnN c.toNat := (byte_all (u8_lt c)).2.2.2
inductive Toks where
  | bad (n : Nat)
  | eof (n : Nat)
  | wd (w : List UInt8) (n : Nat) (r : Toks)
  | sg (c : Nat) (n : Nat) (r : Toks)
def tk : Option Nat → List UInt8 → Nat → Toks
  | _, [], n => .eof n
  | none, c :: r, n => if c.toNat = 10 then tk (some 0) r (n + 1) else tk none r (n + 1)
  | some (k + 1), _ :: r, n => tk (some k) r (n + 1)
  | some 0, c :: r, n =>
    if c.toNat = 35 then tk none r (n + 1)
    else if blaN c.toNat then tk (some 0) r (n + 1)
    else if letN c.toNat then .wd (c :: r.takeWhile fun x => letN x.toNat) n (tk (some (r.takeWhile fun x => letN x.toNat).length) r (n + 1))
    else if sgnN c.toNat then .sg c.toNat n (tk (some 0) r (n + 1))
    else .bad n
theorem tk_skip : ∀ (k : Nat) (l : List UInt8) (n : Nat), k ≤ l.length → tk (some k) l n = tk (some 0) (l.drop k) (n + k)
  | 0, l, n, _ => rfl
  | k + 1, [], n, h => by simp at h
  | k + 1, c :: r, n, h => by
    have := tk_skip k r (n + 1) (by simpa using h)
    show tk (some k) r (n + 1) = tk (some 0) (r.drop k) (n + (k + 1))
    rw [this, Nat.add_assoc, Nat.add_comm 1 k]
def T (t : List UInt8) (a : Nat) : Toks := tk (some 0) (t.drop a) a
def Toks.pos : Toks → Nat
  | .bad n => n
  | .eof n => n
  | .wd _ n _ => n
  | .sg _ n _ => n
def Toks.hd : Toks → Nat
  | .bad _ => 0
  | .eof _ => 0
  | .wd w _ _ => (w.headD 0).toNat
  | .sg c _ _ => c
def Toks.size : Toks → Nat
  | .bad _ => 0
  | .eof _ => 0
  | .wd _ _ r => r.size + 1
  | .sg _ _ r => r.size + 1
theorem T_end {t : List UInt8} {a : Nat} (h : t.length ≤ a) : T t a = .eof a := by
  unfold T; rw [List.drop_eq_nil_of_le h]; rfl
theorem T_step {t : List UInt8} {a : Nat} (h : a < t.length) : T t a =
    if (t.getD a 0).toNat = 35 then tk none (t.drop (a + 1)) (a + 1)
    else if blaN (t.getD a 0).toNat then T t (a + 1)
    else if letN (t.getD a 0).toNat then .wd ((t.drop a).takeWhile fun x => letN x.toNat) a (T t (a + ((t.drop a).takeWhile fun x => letN x.toNat).length))
    else if sgnN (t.getD a 0).toNat then .sg (t.getD a 0).toNat a (T t (a + 1))
    else .bad a := by
  unfold T
  have e : t.drop a = t.getD a 0 :: t.drop (a + 1) := drop_cons' h
  generalize hc : t.getD a 0 = c at e
  rw [e]
  simp only [tk]
  split
  · rfl
  · split
    · rfl
    · split
      · rename_i hl
        have : (c :: List.drop (a + 1) t).takeWhile (fun x => letN x.toNat) = c :: (List.drop (a + 1) t).takeWhile (fun x => letN x.toNat) := by
          rw [List.takeWhile_cons, if_pos hl]
        rw [this, tk_skip _ _ _ (List.takeWhile_prefix _).length_le, List.drop_drop]
        simp only [List.length_cons]
        rw [show a + 1 + (List.takeWhile (fun x => letN x.toNat) (List.drop (a + 1) t)).length = a + ((List.takeWhile (fun x => letN x.toNat) (List.drop (a + 1) t)).length + 1) by omega]
      · rfl
theorem T_rem {t : List UInt8} {a : Nat} (h : a < t.length) : tk none (t.drop a) a = if (t.getD a 0).toNat = 10 then T t (a + 1) else tk none (t.drop (a + 1)) (a + 1) := by
  have e : t.drop a = t.getD a 0 :: t.drop (a + 1) := drop_cons' h
  generalize hc : t.getD a 0 = c at e
  rw [e]
  rfl
theorem T_hash {t : List UInt8} {a : Nat} (h : a < t.length) (hc : (t.getD a 0).toNat = 35) : T t a = tk none (t.drop a) a := by
  rw [T_step h, if_pos hc, T_rem h, if_neg (by omega)]
theorem idxB_cases : ∀ (l : List UInt8) (k : Int), 0 ≤ k → (idxB l 10 k = -1 ∧ ∀ n, tk none l n = .eof (n + l.length)) ∨ ∃ j : Nat, j < l.length ∧ idxB l 10 k = k + j ∧ (l.getD j 0).toNat = 10 ∧ ∀ n, tk none l n = tk (some 0) (l.drop j) (n + j)
  | [], k, hk => Or.inl ⟨rfl, fun n => rfl⟩
  | c :: r, k, hk => by
    have e10 : (Int.toNat 10).toUInt8 = (10 : UInt8) := by decide
    by_cases hc : c.toNat = 10
    · have hc' : c = 10 := UInt8.toNat_inj.mp (by rw [hc]; decide)
      subst hc'
      refine Or.inr ⟨0, by simp, ?_, rfl, fun n => ?_⟩
      · simp [idxB]
      · show tk none ((10 : UInt8) :: r) n = tk (some 0) ((10 : UInt8) :: r) n
        simp only [tk]
        rw [if_pos (by decide), if_neg (by decide), if_pos (by decide)]
    · have hc' : ¬ (c == (10 : UInt8)) = true := by
        intro h; apply hc; rw [beq_iff_eq.mp h]; decide
      have e : idxB (c :: r) 10 k = idxB r 10 (k + 1) := by
        simp only [idxB, e10]
        rw [if_neg hc']
      have e2 : ∀ n, tk none (c :: r) n = tk none r (n + 1) := fun n => by
        simp only [tk]; rw [if_neg hc]
      rcases idxB_cases r (k + 1) (by omega) with ⟨h1, h2⟩ | ⟨j, h1, h2, h3, h4⟩
      · exact Or.inl ⟨by rw [e, h1], fun n => by rw [e2, h2, List.length_cons]; congr 1; omega⟩
      · refine Or.inr ⟨j + 1, by simp; omega, by rw [e, h2]; push_cast; omega, h3, fun n => ?_⟩
        rw [e2, h4, List.drop_succ_cons]; congr 1; omega
theorem T_pos (t : List UInt8) : ∀ (m a : Nat), t.length - a ≤ m → a ≤ t.length → a ≤ (T t a).pos ∧ (T t a).pos ≤ t.length ∧ T t (T t a).pos = T t a := by
  intro m
  have hend : ∀ a, a = t.length → a ≤ (T t a).pos ∧ (T t a).pos ≤ t.length ∧ T t (T t a).pos = T t a := fun a h => by
    rw [T_end (by omega)]
    exact ⟨Nat.le_refl _, by simp only [Toks.pos]; omega, T_end (by simp only [Toks.pos]; omega)⟩
  induction m with
  | zero => intro a h1 h2; exact hend a (by omega)
  | succ m ih =>
    intro a h1 h2
    rcases Nat.lt_or_ge a t.length with h | h
    · by_cases h35 : (t.getD a 0).toNat = 35
      · rw [T_hash h h35]
        rcases idxB_cases (t.drop a) 0 (by omega) with ⟨_, e⟩ | ⟨j, hj, _, hj3, e⟩
        · rw [e, List.length_drop]
          simp only [Toks.pos]
          exact ⟨by omega, by omega, T_end (by omega)⟩
        · rw [e, List.drop_drop]
          rw [List.length_drop] at hj
          have hg : (t.drop a).getD j 0 = t.getD (a + j) 0 := by simp [List.getD_eq_getElem?_getD]
          rw [hg] at hj3
          have h0 : j ≠ 0 := by rintro rfl; simp only [Nat.add_zero] at hj3; omega
          have := ih (a + j) (by omega) (by omega)
          exact ⟨by have := this.1; show a ≤ (T t (a + j)).pos; omega, this.2⟩
      · have e := T_step h
        rw [if_neg h35] at e
        by_cases hb : blaN (t.getD a 0).toNat = true
        · rw [if_pos hb] at e
          rw [e]
          have := ih (a + 1) (by omega) (by omega)
          exact ⟨by omega, this.2⟩
        · rw [if_neg hb] at e
          have hp : (T t a).pos = a := by
            rw [e]
            split
            · rfl
            · split <;> rfl
          rw [hp]
          exact ⟨Nat.le_refl _, h2, rfl⟩
    · exact hend a (by omega)
def At (t : List UInt8) (p : Int) (ts : Toks) : Prop := 0 ≤ p ∧ p ≤ t.length ∧ T t p.toNat = ts
theorem At.posn {t : List UInt8} {p : Int} {ts : Toks} (h : At t p ts) : At t (ts.pos : Int) ts := by
  obtain ⟨h1, h2, rfl⟩ := h
  have := T_pos t (t.length - p.toNat) p.toNat (Nat.le_refl _) (by omega)
  exact ⟨by omega, by omega, by simpa using this.2.2⟩
abbrev Er := Int × Int
def hereO : Toks → Int ⊕ ((Int × Int) ⊕ (Int × Int))
  | .bad n => .inr (.inl (20, n))
  | .eof n => .inl n
  | ts => .inr (.inr (ts.hd, ts.pos))
def hereS : Toks → (Int × Int) ⊕ (Int × Int)
  | .bad n => .inr (20, n)
  | ts => .inl (ts.hd, ts.pos)
theorem iter_l {S T : Type} {body : S → Option (S ⊕ T)} {s s' : S} (h : body s = some (.inl s')) : iter body s = iter body s' := by rw [iter_eq, h]
theorem iter_r {S T : Type} {body : S → Option (S ⊕ T)} {s : S} {r : T} (h : body s = some (.inr r)) : iter body s = some r := by rw [iter_eq, h]
theorem hereP_L1 {t : List UInt8} (ht : t.length ≤ 10000) (d3 d4 d5 d6 o1 o2 o3 o4) : ∀ (m a : Nat), t.length - a ≤ m → a ≤ t.length → iter (pq_here_v2_L1 t d3 d4 d5 d6 o1 o2 o3 o4) (a : Int) = some (hereO (T t a)) := by
  intro m
  have hend : ∀ a : Nat, a = t.length → iter (pq_here_v2_L1 t d3 d4 d5 d6 o1 o2 o3 o4) (a : Int) = some (hereO (T t a)) := fun a h => by
    rw [T_end (by omega)]
    apply iter_r
    unfold pq_here_v2_L1
    rw [if_neg (by simp; omega)]
    rfl
  induction m with
  | zero => intro a h1 h2; exact hend a (by omega)
  | succ m ih =>
    intro a h1 h2
    rcases Nat.lt_or_ge a t.length with h | h
    · have c1 : decide ((a : Int) < (t.length : Int)) = true := by simp; omega
      have c2 : 0 ≤ (a : Int) ∧ (a : Int) < (t.length : Int) := ⟨by omega, by omega⟩
      by_cases h35 : (t.getD a 0).toNat = 35
      · have z35 : (((t.getD a 0).toNat : Int) == (35 : Int)) = true := by rw [h35]; rfl
        have e0 : (t.take t.length).drop a = t.drop a := by rw [List.take_length]
        rw [T_hash h h35]
        rcases idxB_cases (t.drop a) 0 (by omega) with ⟨e1, e⟩ | ⟨j, hj, e1, hj3, e⟩
        · have hb : pq_here_v2_L1 t d3 d4 d5 d6 o1 o2 o3 o4 (a : Int) = some (.inl (t.length : Int)) := by
            unfold pq_here_v2_L1
            rw [if_pos c1, if_pos c2, Int.toNat_natCast, if_pos z35, if_pos ⟨by omega, by omega, by omega⟩]
            simp only [strings_IndexByte, stringslite_IndexByte, Option.bind_some, Int.toNat_natCast, e0, e1]
            rw [if_pos (by decide)]
            simp only [Option.bind_some]
            have ew : IntKind.i64.wrap ((t.length : Int) - (a : Int)) = (t.length : Int) - a := wrap_i64 (by omega) (by omega)
            rw [ew, wrap_i64 (by omega) (by omega), show (a : Int) + ((t.length : Int) - a) = (t.length : Int) by omega]
          rw [iter_l hb, hend t.length rfl, T_end (Nat.le_refl _), e, List.length_drop]
          congr 3; omega
        · rw [List.length_drop] at hj
          have hg : (t.drop a).getD j 0 = t.getD (a + j) 0 := by simp [List.getD_eq_getElem?_getD]
          rw [hg] at hj3
          have h0 : j ≠ 0 := by rintro rfl; simp only [Nat.add_zero] at hj3; omega
          have hb : pq_here_v2_L1 t d3 d4 d5 d6 o1 o2 o3 o4 (a : Int) = some (.inl ((a + j : Nat) : Int)) := by
            unfold pq_here_v2_L1
            rw [if_pos c1, if_pos c2, Int.toNat_natCast, if_pos z35, if_pos ⟨by omega, by omega, by omega⟩]
            simp only [strings_IndexByte, stringslite_IndexByte, Option.bind_some, Int.toNat_natCast, e0, e1]
            rw [if_neg (by simp)]
            simp only [Option.bind_some]
            rw [wrap_i64 (by omega) (by omega), show (a : Int) + (0 + (j : Int)) = ((a + j : Nat) : Int) by omega]
          rw [iter_l hb, ih (a + j) (by omega) (by omega), e, List.drop_drop]
          rfl
      · have hz : ¬ (((t.getD a 0).toNat : Int) == (35 : Int)) = true := by simp only [beq_iff_eq]; omega
        have e := T_step h
        rw [if_neg h35] at e
        by_cases hb : blaN (t.getD a 0).toNat = true
        · have hb' : pq_here_v2_L1 t d3 d4 d5 d6 o1 o2 o3 o4 (a : Int) = some (.inl ((a + 1 : Nat) : Int)) := by
            unfold pq_here_v2_L1
            rw [if_pos c1, if_pos c2, Int.toNat_natCast, if_neg hz, rbla]
            simp only [Option.bind_some]
            rw [if_pos hb, wrap_i64 (by omega) (by omega)]
            rfl
          rw [iter_l hb', e, if_pos hb]
          exact ih (a + 1) (by omega) (by omega)
        · rw [if_neg hb] at e
          apply iter_r
          unfold pq_here_v2_L1
          rw [if_pos c1, if_pos c2, Int.toNat_natCast, if_neg hz, rbla, rlet]
          simp only [Option.bind_some]
          rw [if_neg hb]
          by_cases hl : letN (t.getD a 0).toNat = true
          · rw [if_pos hl] at e
            rw [e, hl, if_neg (by simp)]
            simp only [Option.bind_some]
            rw [if_neg (by simp)]
            show _ = some (Sum.inr (Sum.inr (Sum.inr ((((List.headD (List.takeWhile (fun x => letN x.toNat) (List.drop a t)) 0).toNat : Nat) : Int), (a : Int)))))
            rw [drop_cons' (d := 0) h, List.takeWhile_cons, if_pos hl]
            rfl
          · rw [if_neg hl] at e
            have hl' : letN (t.getD a 0).toNat = false := by simpa using hl
            rw [hl', if_pos (by rfl)]
            simp only [strings_IndexByte, stringslite_IndexByte, Option.bind_some, rsgn]
            by_cases hs : sgnN (t.getD a 0).toNat = true
            · rw [if_pos hs] at e
              rw [e, hs, if_neg (by simp)]
              rfl
            · rw [if_neg hs] at e
              have hs' : sgnN (t.getD a 0).toNat = false := by simpa using hs
              rw [e, hs', if_pos (by rfl)]
              rfl
    · exact hend a (by omega)
theorem hereP {t : List UInt8} (ht : t.length ≤ 10000) {p : Int} {ts : Toks} (h : At t p ts) (d3 d4 d5 d6 o1 o2 o3 o4) : pq_here_v2 t p d3 d4 d5 d6 o1 o2 o3 o4 = some (hereS ts) := by
  obtain ⟨h1, h2, rfl⟩ := h
  obtain ⟨a, rfl⟩ := Int.eq_ofNat_of_zero_le h1
  unfold pq_here_v2
  rw [hereP_L1 ht d3 d4 d5 d6 o1 o2 o3 o4 _ a (Nat.le_refl _) (by omega), Int.toNat_natCast]
  cases T t a <;> rfl
end Go.Proofs.Ytjfjigknkhgkdaa.T
namespace Go.Proofs.Ytjfjigknkhgkdaa.T
open Go Go.Tv Go.Proofs
abbrev isL (x : UInt8) : Bool := letN x.toNat
theorem T_at {t : List UInt8} {a : Nat} (h : a < t.length) (hp : (T t a).pos = a) : T t a =
    if letN (t.getD a 0).toNat then .wd ((t.drop a).takeWhile isL) a (T t (a + ((t.drop a).takeWhile isL).length))
    else if sgnN (t.getD a 0).toNat then .sg (t.getD a 0).toNat a (T t (a + 1))
    else .bad a := by
  have e := T_step h
  by_cases h35 : (t.getD a 0).toNat = 35
  · exfalso
    have eh := T_hash h h35
    rcases idxB_cases (t.drop a) 0 (by omega) with ⟨_, e⟩ | ⟨j, hj, _, hj3, e⟩
    · rw [eh, e, List.length_drop] at hp
      simp only [Toks.pos] at hp
      omega
    · rw [List.length_drop] at hj
      have hg : (t.drop a).getD j 0 = t.getD (a + j) 0 := by simp [List.getD_eq_getElem?_getD]
      rw [hg] at hj3
      have h0 : j ≠ 0 := by rintro rfl; simp only [Nat.add_zero] at hj3; omega
      rw [eh, e, List.drop_drop] at hp
      have := (T_pos t _ (a + j) (Nat.le_refl _) (by omega)).1
      change (T t (a + j)).pos = a at hp
      omega
  · rw [if_neg h35] at e
    by_cases hb : blaN (t.getD a 0).toNat = true
    · exfalso
      rw [if_pos hb] at e
      rw [e] at hp
      have := (T_pos t _ (a + 1) (Nat.le_refl _) (by omega)).1
      omega
    · rw [if_neg hb] at e
      exact e
theorem T_wd {t : List UInt8} {n : Nat} {w r} (h : At t n (.wd w n r)) : n < t.length ∧ letN (t.getD n 0).toNat = true ∧ w = (t.drop n).takeWhile isL ∧ r = T t (n + w.length) := by
  obtain ⟨h1, h2, h3⟩ := h
  rw [Int.toNat_natCast] at h3
  rcases Nat.lt_or_ge n t.length with hl | hl
  · have e := T_at hl (by rw [h3]; rfl)
    rw [h3] at e
    by_cases hc : letN (t.getD n 0).toNat = true
    · rw [if_pos hc] at e
      injection e with e1 e2 e3
      exact ⟨hl, hc, e1, by rw [e3, e1]⟩
    · rw [if_neg hc] at e
      split at e <;> cases e
  · rw [T_end hl] at h3; cases h3
theorem T_sg {t : List UInt8} {n c : Nat} {r} (h : At t n (.sg c n r)) : n < t.length ∧ letN c = false ∧ sgnN c = true ∧ c < 256 ∧ r = T t (n + 1) := by
  obtain ⟨h1, h2, h3⟩ := h
  rw [Int.toNat_natCast] at h3
  rcases Nat.lt_or_ge n t.length with hl | hl
  · have e := T_at hl (by rw [h3]; rfl)
    rw [h3] at e
    by_cases hc : letN (t.getD n 0).toNat = true
    · rw [if_pos hc] at e; cases e
    · rw [if_neg hc] at e
      by_cases hs : sgnN (t.getD n 0).toNat = true
      · rw [if_pos hs] at e
        injection e with e1 e2 e3
        exact ⟨hl, by rw [e1]; simpa using hc, by rw [e1]; exact hs, by rw [e1]; exact u8_lt _, e3⟩
      · rw [if_neg hs] at e; cases e
  · rw [T_end hl] at h3; cases h3
theorem At.wd {t : List UInt8} {p : Int} {w n r} (h : At t p (.wd w n r)) : letN ((w.headD 0).toNat) = true ∧ w = (t.drop n).takeWhile isL ∧ n + w.length ≤ t.length ∧ At t ((n + w.length : Nat) : Int) r ∧ 1 ≤ w.length := by
  obtain ⟨h1, h2, h3, h4⟩ := T_wd (show At t (n : Int) _ from h.posn)
  have hw : w = t.getD n 0 :: (t.drop (n + 1)).takeWhile isL := by
    rw [h3, drop_cons' (d := 0) h1, List.takeWhile_cons, if_pos h2]
  have hle : w.length ≤ t.length - n := by
    rw [h3, ← List.length_drop]; exact (List.takeWhile_prefix _).length_le
  refine ⟨by rw [hw]; exact h2, h3, by omega, ⟨by omega, by omega, by rw [Int.toNat_natCast]; exact h4.symm⟩, by rw [hw]; simp⟩
theorem At.sg {t : List UInt8} {p : Int} {c n r} (h : At t p (.sg c n r)) : letN c = false ∧ sgnN c = true ∧ c < 256 ∧ At t ((n : Int) + 1) r ∧ n < t.length := by
  obtain ⟨h1, h2, h3, h4, h5⟩ := T_sg (show At t (n : Int) _ from h.posn)
  refine ⟨h2, h3, h4, ⟨by omega, by omega, ?_⟩, h1⟩
  rw [show ((n : Int) + 1).toNat = n + 1 by omega]; exact h5.symm
theorem tw_step {t : List UInt8} {a : Nat} (h : a < t.length) : ((t.drop a).takeWhile isL).length = if letN (t.getD a 0).toNat then ((t.drop (a + 1)).takeWhile isL).length + 1 else 0 := by
  rw [drop_cons' (d := 0) h, List.takeWhile_cons]
  split <;> simp
theorem wordP_L1 {t : List UInt8} (ht : t.length ≤ 10000) : ∀ (m a : Nat), t.length - a ≤ m → a ≤ t.length → iter (pq_word_v2_L1 t) (a : Int) = some ((a + ((t.drop a).takeWhile isL).length : Nat) : Int) := by
  intro m
  have hend : ∀ a : Nat, a = t.length → iter (pq_word_v2_L1 t) (a : Int) = some ((a + ((t.drop a).takeWhile isL).length : Nat) : Int) := fun a h => by
    rw [List.drop_eq_nil_of_le (by omega)]
    apply iter_r
    unfold pq_word_v2_L1
    rw [if_neg (by simp; omega)]
    rfl
  induction m with
  | zero => intro a h1 h2; exact hend a (by omega)
  | succ m ih =>
    intro a h1 h2
    rcases Nat.lt_or_ge a t.length with h | h
    · have c1 : decide ((a : Int) < (t.length : Int)) = true := by simp; omega
      have c2 : 0 ≤ (a : Int) ∧ (a : Int) < (t.length : Int) := ⟨by omega, by omega⟩
      have e := tw_step h
      by_cases hl : letN (t.getD a 0).toNat = true
      · have hb : pq_word_v2_L1 t (a : Int) = some (.inl ((a + 1 : Nat) : Int)) := by
          unfold pq_word_v2_L1
          rw [if_pos c1, if_pos c2, Int.toNat_natCast, rlet, hl]
          simp only [Option.bind_some]
          rw [if_pos trivial, wrap_i64 (by omega) (by omega)]
          rfl
        rw [iter_l hb, ih (a + 1) (by omega) (by omega), e, if_pos hl]
        congr 2; omega
      · rw [e, if_neg hl]
        apply iter_r
        unfold pq_word_v2_L1
        rw [if_pos c1, if_pos c2, Int.toNat_natCast, rlet]
        simp only [Option.bind_some]
        rw [if_neg hl]
        rfl
    · exact hend a (by omega)
def Ok {A B : Type} (x : Option (A ⊕ Er)) (y : B ⊕ Er) (R : A → B → Prop) : Prop := match y with
  | .inr e => x = some (.inr e)
  | .inl b => ∃ a, x = some (.inl a) ∧ R a b
def wordS : Toks → (List UInt8 × Int × Toks) ⊕ Er
  | .bad n => .inr (20, n)
  | .wd w n r => .inl (w, n, r)
  | .eof n => .inr (21, n)
  | .sg _ n _ => .inr (21, n)
def signS (c : Nat) : Toks → (Bool × Toks) ⊕ Er
  | .bad n => .inr (20, n)
  | .sg d n r => if d = c then .inl (true, r) else .inl (false, .sg d n r)
  | ts => .inl (false, ts)
def wantS (c : Nat) : Toks → Toks ⊕ Er
  | .bad n => .inr (20, n)
  | .sg d n r => if d = c then .inl r else .inr (21, n)
  | ts => .inr (21, ts.pos)
theorem take_drop_word {t : List UInt8} {n : Nat} {w : List UInt8} (hw : w = (t.drop n).takeWhile isL) : (t.take (n + w.length)).drop n = w := by
  rw [List.drop_take, show n + w.length - n = w.length by omega, hw]
  exact (List.prefix_iff_eq_take.mp (List.takeWhile_prefix _)).symm
theorem wordP {t : List UInt8} (ht : t.length ≤ 10000) {p : Int} {ts : Toks} (h : At t p ts) (d3 d4 d5 d6 o1 o2 o3 o4) : Ok (pq_word_v2 t p d3 d4 d5 d6 o1 o2 o3 o4) (wordS ts) (fun a b => a.1 = b.1 ∧ a.2.1 = b.2.1 ∧ At t a.2.2 b.2.2) := by
  unfold pq_word_v2
  rw [hereP ht h]
  simp only [Option.bind_some]
  have hq := h.posn
  cases ts with
  | bad n => rfl
  | eof n =>
    simp only [hereS, Toks.hd, Toks.pos, wordS, Ok]
    rw [(byte_all (show 0 < 256 by decide)).1]
    rfl
  | sg c n r =>
    obtain ⟨h1, h2, h3, h4, h5⟩ := h.sg
    simp only [hereS, Toks.hd, Toks.pos, wordS, Ok]
    rw [(byte_all h3).1, h1]
    rfl
  | wd w n r =>
    obtain ⟨h1, h2, h3, h4, h5⟩ := h.wd
    simp only [hereS, Toks.hd, Toks.pos, wordS, Ok]
    rw [rlet, h1]
    simp only [Option.bind_some]
    rw [if_neg (by simp), wordP_L1 ht _ n (Nat.le_refl _) (by omega), ← h2]
    simp only [Option.bind_some]
    rw [if_pos ⟨by omega, by omega, by omega⟩]
    refine ⟨_, rfl, ?_, rfl, h4⟩
    simp only [Int.toNat_natCast]
    exact take_drop_word h2
theorem signP {t : List UInt8} (ht : t.length ≤ 10000) {c : Nat} (hc : letN c = false) (hc0 : c ≠ 0) {p : Int} {ts : Toks} (h : At t p ts) (d3 d4 d5 d6 o1 o2 o3 o4) : Ok (pq_sign_v2 (c : Int) t p d3 d4 d5 d6 o1 o2 o3 o4) (signS c ts) (fun a b => a.1 = b.1 ∧ At t a.2 b.2 ∧ (a.1 = false → a.2 = b.2.pos)) := by
  unfold pq_sign_v2
  rw [hereP ht h]
  simp only [Option.bind_some]
  have hq := h.posn
  cases ts with
  | bad n => rfl
  | eof n =>
    simp only [hereS, Toks.hd, Toks.pos, signS, Ok]
    rw [if_pos (by simp; omega)]
    exact ⟨_, rfl, rfl, hq, fun _ => rfl⟩
  | sg d n r =>
    obtain ⟨h1, h2, h3, h4, h5⟩ := h.sg
    simp only [hereS, Toks.hd, Toks.pos, signS]
    by_cases hd : d = c
    · rw [if_neg (by simp [hd]), if_pos hd, wrap_i64 (by omega) (by omega)]
      exact ⟨_, rfl, rfl, h4, fun h => by cases h⟩
    · rw [if_pos (by simp; omega), if_neg hd]
      exact ⟨_, rfl, rfl, hq, fun _ => rfl⟩
  | wd w n r =>
    obtain ⟨h1, h2, h3, h4, h5⟩ := h.wd
    simp only [hereS, Toks.hd, Toks.pos, signS, Ok]
    rw [if_pos (by
      simp only [bne_iff_ne, ne_eq]
      intro hh
      have : (w.headD 0).toNat = c := by omega
      rw [this, hc] at h1; cases h1)]
    exact ⟨_, rfl, rfl, hq, fun _ => rfl⟩
theorem wantP {t : List UInt8} (ht : t.length ≤ 10000) {c : Nat} (hc : letN c = false) (hc0 : c ≠ 0) {p : Int} {ts : Toks} (h : At t p ts) (d3 d4 d5 d6 o1 o2 o3 o4) : Ok (pq_want_v1 (c : Int) t p d3 d4 d5 d6 o1 o2 o3 o4) (wantS c ts) (fun a b => At t a b) := by
  have hs := signP ht hc hc0 h d3 d4 d5 d6 o1 o2 o3 o4
  unfold pq_want_v1
  cases ts with
  | bad n => rw [show pq_sign_v2 (c : Int) t p d3 d4 d5 d6 o1 o2 o3 o4 = _ from hs]; rfl
  | eof n =>
    obtain ⟨⟨b, q⟩, h1, h2, h3, h4⟩ := hs
    cases (show b = false from h2)
    cases (show q = _ from h4 rfl)
    rw [h1]; rfl
  | sg d n r =>
    by_cases hd : d = c
    · simp only [signS, if_pos hd] at hs
      obtain ⟨⟨b, q⟩, h1, h2, h3, h4⟩ := hs
      cases (show b = true from h2)
      simp only [wantS, if_pos hd]
      rw [h1]; exact ⟨_, rfl, h3⟩
    · simp only [signS, if_neg hd] at hs
      obtain ⟨⟨b, q⟩, h1, h2, h3, h4⟩ := hs
      cases (show b = false from h2)
      cases (show q = _ from h4 rfl)
      simp only [wantS, if_neg hd]
      rw [h1]; rfl
  | wd w n r =>
    obtain ⟨⟨b, q⟩, h1, h2, h3, h4⟩ := hs
    cases (show b = false from h2)
    cases (show q = _ from h4 rfl)
    rw [h1]; rfl
end Go.Proofs.Ytjfjigknkhgkdaa.T
namespace Go.Proofs.Ytjfjigknkhgkdaa.T
open Go Go.Tv Go.Proofs
abbrev Sets := List (List UInt8 × Int)
abbrev look (sets : Sets) (w : List UInt8) : Option Int := mfind .str sets w
def wholeI (n : Nat) : Int := IntKind.u32.wrap ((IntKind.u32.wrap ((1 : Int) * 2 ^ (min (n : Int).toNat IntKind.u32.bits))) - (1 : Int))
def bitI (n : Nat) : Int := IntKind.u32.wrap ((1 : Int) * 2 ^ (min (n : Int).toNat IntKind.u32.bits))
def freshS (sets : Sets) (ts : Toks) : (List UInt8 × Int × Toks) ⊕ Er := match wordS ts with
  | .inr e => .inr e
  | .inl (w, n, r) => match look sets w with
    | some _ => .inr (23, n)
    | none => .inl (w, n, r)
def namedS (sets : Sets) (ts : Toks) : (Int × Toks) ⊕ Er := match wordS ts with
  | .inr e => .inr e
  | .inl (w, n, r) => match look sets w with
    | some b => .inl (b, r)
    | none => .inr (22, n)
def place (cls : List (List UInt8)) (w : List UInt8) : Nat := firstN (fun i => cls.getD i [] == w) cls.length
def oneS (cls : List (List UInt8)) (ts : Toks) : (Int × Toks) ⊕ Er := match wordS ts with
  | .inr e => .inr e
  | .inl (w, n, r) => if place cls w < cls.length then .inl ((place cls w : Int), r) else .inr (22, n)
def listS (c : Nat) (sets : Sets) : Toks → Int → (Int × Toks) ⊕ Er
  | .bad n, _ => .inr (20, n)
  | .eof n, _ => .inr (21, n)
  | .sg d n r, b => if d = c then .inl (b, r) else .inr (21, n)
  | .wd w n r, b => match look sets w with
    | some x => listS c sets r (bitsOf .or .u32 b x)
    | none => .inr (22, n)
abbrev TR := (Tree × Toks × Int) ⊕ Er
def isTh : Toks → Bool
  | .wd _ _ _ => true
  | .sg d _ _ => d == 40 || d == 91 || d == 46
  | _ => false
def thingS (E : Option (Int → Toks → TR)) (wh : Int) (sets : Sets) (pl : Int) : Toks → TR
  | .bad n => .inr (20, n)
  | .eof n => .inr (21, n)
  | .wd w n r => if pl + 1 > 200 then .inr (26, n) else match look sets w with
    | none => .inr (22, n)
    | some b => .inl (.node 1 b [], r, pl + 1)
  | .sg d n r =>
    if d = 40 then match E with
      | none => .inr (25, n)
      | some f => match f pl r with
        | .inr e => .inr e
        | .inl (x, r1, pl1) => match wantS 41 r1 with
          | .inr e => .inr e
          | .inl r2 => .inl (x, r2, pl1)
    else if pl + 1 > 200 then .inr (26, n)
    else if d = 46 then .inl (.node 1 wh [], r, pl + 1)
    else match signS 94 r with
      | .inr e => .inr e
      | .inl (neg, r1) => match listS 93 sets r1 0 with
        | .inr e => .inr e
        | .inl (b, r2) => .inl (.node 1 (if neg then bitsOf .andNot .u32 wh b else b) [], r2, pl + 1)
def oftenS (E : Option (Int → Toks → TR)) (wh : Int) (sets : Sets) (pl : Int) (ts : Toks) : TR := match thingS E wh sets pl ts with
  | .inr e => .inr e
  | .inl (x, r, pl1) => match r with
    | .bad n => .inr (20, n)
    | .sg d n r1 => if d = 42 then .inl (.node 4 0 [x], r1, pl1) else if d = 43 then .inl (.node 5 0 [x], r1, pl1) else if d = 63 then .inl (.node 6 0 [x], r1, pl1) else .inl (x, .sg d n r1, pl1)
    | .eof n => .inl (x, .eof n, pl1)
    | .wd w n r1 => .inl (x, .wd w n r1, pl1)
def rowS (E : Option (Int → Toks → TR)) (wh : Int) (sets : Sets) : Nat → Toks → Int → List Tree → (List Tree × Toks × Int) ⊕ Er
  | 0, ts, pl, acc => .inl (acc, ts, pl)
  | f + 1, ts, pl, acc => match hereS ts with
    | .inr e => .inr e
    | .inl _ => if isTh ts then match oftenS E wh sets pl ts with
        | .inr e => .inr e
        | .inl (x, r, pl1) => rowS E wh sets f r pl1 (acc ++ [x])
      else .inl (acc, ts, pl)
def rowOf : List Tree → Tree
  | [] => .node 0 0 []
  | [x] => x
  | l => .node 2 0 l
def altOf : List Tree → Tree
  | [x] => x
  | l => .node 3 0 l
def rowT (E : Option (Int → Toks → TR)) (wh : Int) (sets : Sets) (pl : Int) (ts : Toks) : TR := match rowS E wh sets (ts.size + 1) ts pl [] with
  | .inr e => .inr e
  | .inl (l, r, pl1) => .inl (rowOf l, r, pl1)
def altS (E : Option (Int → Toks → TR)) (wh : Int) (sets : Sets) : Nat → Toks → Int → List Tree → (List Tree × Toks × Int) ⊕ Er
  | 0, ts, pl, acc => .inl (acc, ts, pl)
  | f + 1, ts, pl, acc => match signS 124 ts with
    | .inr e => .inr e
    | .inl (false, r) => .inl (acc, r, pl)
    | .inl (true, r) => match rowT E wh sets pl r with
      | .inr e => .inr e
      | .inl (x, r1, pl1) => altS E wh sets f r1 pl1 (acc ++ [x])
def eithS (E : Option (Int → Toks → TR)) (wh : Int) (sets : Sets) (pl : Int) (ts : Toks) : TR := match rowT E wh sets pl ts with
  | .inr e => .inr e
  | .inl (x, r, pl1) => match altS E wh sets (r.size + 1) r pl1 [x] with
    | .inr e => .inr e
    | .inl (l, r1, pl2) => .inl (altOf l, r1, pl2)
def eitherS (wh : Int) (sets : Sets) : Nat → Int → Toks → TR
  | 0 => eithS none wh sets
  | d + 1 => eithS (some (eitherS wh sets d)) wh sets
abbrev RL := List (Int × Tree × Tree)
structure PS where
  ts : Toks
  cls : List (List UInt8)
  join : Int
  after : Int
  treat : List Int
  list : RL
  sets : Sets
  pl : Int
def classS : Nat → Toks → List (List UInt8) → List Int → Sets → (Toks × List (List UInt8) × List Int × Sets) ⊕ Er
  | 0, ts, cls, tr, sets => .inl (ts, cls, tr, sets)
  | f + 1, ts, cls, tr, sets => match signS 59 ts with
    | .inr e => .inr e
    | .inl (true, r) => .inl (r, cls, tr, sets)
    | .inl (false, r) => match freshS sets r with
      | .inr e => .inr e
      | .inl (w, n, r1) => if cls.length ≥ 24 then .inr (24, n) else classS f r1 (cls ++ [w]) (tr ++ [(cls.length : Int)]) (sets ++ [(w, bitI cls.length)])
def setS (sets : Sets) (ts : Toks) : (Toks × Sets) ⊕ Er := match freshS sets ts with
  | .inr e => .inr e
  | .inl (w, _, r) => match wantS 61 r with
    | .inr e => .inr e
    | .inl r1 => match listS 59 sets r1 0 with
      | .inr e => .inr e
      | .inl (b, r2) => .inl (r2, sets ++ [(w, b)])
def joinS (sets : Sets) (ts : Toks) : (Toks × Int × Int) ⊕ Er := match listS 47 sets ts 0 with
  | .inr e => .inr e
  | .inl (b, r) => match listS 59 sets r 0 with
    | .inr e => .inr e
    | .inl (c, r1) => .inl (r1, b, c)
def treatS (cls : List (List UInt8)) (tr : List Int) (ts : Toks) : (Toks × List Int) ⊕ Er := match oneS cls ts with
  | .inr e => .inr e
  | .inl (a, r) => match wantS 61 r with
    | .inr e => .inr e
    | .inl r1 => match oneS cls r1 with
      | .inr e => .inr e
      | .inl (b, r2) => match wantS 59 r2 with
        | .inr e => .inr e
        | .inl r3 => .inl (r3, tr.set a.toNat b)
def ruleS (does : Int) (n : Int) (s : PS) (ts : Toks) : (Toks × RL × Int) ⊕ Er :=
  if s.list.length ≥ 24 then .inr (24, n) else match eitherS (wholeI s.cls.length) s.sets 16 s.pl ts with
  | .inr e => .inr e
  | .inl (x, r, pl1) => match wantS 47 r with
    | .inr e => .inr e
    | .inl r1 => match eitherS (wholeI s.cls.length) s.sets 16 pl1 r1 with
      | .inr e => .inr e
      | .inl (y, r2, pl2) => match wantS 59 r2 with
        | .inr e => .inr e
        | .inl r3 => .inl (r3, s.list ++ [(does, x, y)], pl2)
def does? (w : List UInt8) : Option Int :=
  if w = [107, 101, 101, 112] then some 0 else if w = [109, 97, 121] then some 1 else if w = [109, 117, 115, 116] then some 2 else none
def lineS (s : PS) (w : List UInt8) (n : Int) (ts : Toks) : PS ⊕ Er :=
  if w = [99, 108, 97, 115, 115] then match classS (ts.size + 1) ts s.cls s.treat s.sets with
    | .inr e => .inr e
    | .inl (r, c, t, st) => .inl { s with ts := r, cls := c, treat := t, sets := st }
  else if w = [115, 101, 116] then match setS s.sets ts with
    | .inr e => .inr e
    | .inl (r, st) => .inl { s with ts := r, sets := st }
  else if w = [106, 111, 105, 110] then match joinS s.sets ts with
    | .inr e => .inr e
    | .inl (r, b, c) => .inl { s with ts := r, join := bitsOf .or .u32 s.join b, after := bitsOf .or .u32 s.after c }
  else if w = [116, 114, 101, 97, 116] then match treatS s.cls s.treat ts with
    | .inr e => .inr e
    | .inl (r, t) => .inl { s with ts := r, treat := t }
  else match does? w with
    | none => .inr (21, n)
    | some d => match ruleS d n s ts with
      | .inr e => .inr e
      | .inl (r, l, pl) => .inl { s with ts := r, list := l, pl := pl }
def allS : Nat → PS → PS ⊕ Er
  | 0, s => .inl s
  | f + 1, s => match s.ts with
    | .bad n => .inr (20, n)
    | .eof _ => .inl s
    | .sg _ n _ => .inr (21, n)
    | .wd w n r => match lineS s w n r with
      | .inr e => .inr e
      | .inl s1 => allS f s1
def init (ts : Toks) : PS := ⟨ts, [], 0, 0, [], [], [], 0⟩
/-! Sizes: what is taken. -/
theorem wordS_size {ts : Toks} {w n r} (h : wordS ts = .inl (w, n, r)) : r.size + 1 = ts.size := by
  cases ts <;> simp only [wordS] at h <;> cases h
  rfl
theorem signS_size {c : Nat} {ts : Toks} {b r} (h : signS c ts = .inl (b, r)) : r.size + (if b then 1 else 0) = ts.size := by
  cases ts with
  | bad n => cases h
  | eof n => cases h; rfl
  | wd w n r => cases h; rfl
  | sg d n r =>
    simp only [signS] at h
    split at h <;> cases h <;> rfl
theorem wantS_size {c : Nat} {ts r : Toks} (h : wantS c ts = .inl r) : r.size + 1 = ts.size := by
  cases ts with
  | bad n => cases h
  | eof n => cases h
  | wd w n r => cases h
  | sg d n r =>
    simp only [wantS] at h
    split at h <;> cases h
    rfl
theorem freshS_size {sets : Sets} {ts : Toks} {w n r} (h : freshS sets ts = .inl (w, n, r)) : r.size + 1 = ts.size := by
  unfold freshS at h
  split at h
  · cases h
  · split at h <;> cases h
    exact wordS_size (by assumption)
theorem oneS_size {cls} {ts : Toks} {b r} (h : oneS cls ts = .inl (b, r)) : r.size + 1 = ts.size := by
  unfold oneS at h
  split at h
  · cases h
  · split at h <;> cases h
    exact wordS_size (by assumption)
theorem listS_size {c : Nat} {sets : Sets} : ∀ {ts : Toks} {b x r}, listS c sets ts b = .inl (x, r) → r.size + 1 ≤ ts.size
  | .bad n, b, x, r, h => by cases h
  | .eof n, b, x, r, h => by cases h
  | .sg d n r', b, x, r, h => by
    simp only [listS] at h
    split at h <;> cases h
    exact Nat.le_refl _
  | .wd w n r', b, x, r, h => by
    simp only [listS] at h
    split at h
    · have := listS_size h
      simp only [Toks.size]; omega
    · cases h
def Less (E : Option (Int → Toks → TR)) : Prop := ∀ f, E = some f → ∀ pl ts x r pl1, f pl ts = .inl (x, r, pl1) → r.size ≤ ts.size
theorem thingS_size {E wh sets} (hE : Less E) {pl : Int} {ts : Toks} {x r pl1} (h : thingS E wh sets pl ts = .inl (x, r, pl1)) : r.size + 1 ≤ ts.size := by
  cases ts with
  | bad n => cases h
  | eof n => cases h
  | wd w n r' =>
    simp only [thingS] at h
    split at h
    · cases h
    · split at h <;> cases h
      simp [Toks.size]
  | sg d n r' =>
    simp only [thingS] at h
    split at h
    · split at h
      · cases h
      · rename_i f
        split at h
        · cases h
        · rename_i x1 r1 pl1 h1
          split at h
          · cases h
          · rename_i r2 h2
            cases h
            have a := hE f rfl _ _ _ _ _ h1
            have b := wantS_size h2
            simp only [Toks.size]; omega
    · split at h
      · cases h
      · split at h
        · cases h; simp [Toks.size]
        · split at h
          · cases h
          · rename_i neg r1 h1
            split at h
            · cases h
            · rename_i b r2 h2
              cases h
              have a := signS_size h1
              have b := listS_size h2
              simp only [Toks.size]
              split at a <;> omega
theorem oftenS_size {E wh sets} (hE : Less E) {pl : Int} {ts : Toks} {x r pl1} (h : oftenS E wh sets pl ts = .inl (x, r, pl1)) : r.size + 1 ≤ ts.size := by
  unfold oftenS at h
  split at h
  · cases h
  · rename_i x1 r1 p1 h1
    have a := thingS_size hE h1
    split at h
    · cases h
    · rename_i d n r2
      simp only [Toks.size] at a
      split at h
      · cases h; omega
      · split at h
        · cases h; omega
        · split at h <;> cases h
          · omega
          · simp only [Toks.size]; omega
    · cases h; exact a
    · cases h; exact a
theorem rowS_size {E wh sets} (hE : Less E) : ∀ {f : Nat} {ts : Toks} {pl acc l r pl1}, rowS E wh sets f ts pl acc = .inl (l, r, pl1) → r.size ≤ ts.size
  | 0, ts, pl, acc, l, r, pl1, h => by cases h; exact Nat.le_refl _
  | f + 1, ts, pl, acc, l, r, pl1, h => by
    simp only [rowS] at h
    split at h
    · cases h
    · split at h
      · split at h
        · cases h
        · rename_i h1
          have a := oftenS_size hE h1
          have b := rowS_size hE h
          omega
      · cases h; exact Nat.le_refl _
theorem rowT_size {E wh sets} (hE : Less E) {pl ts x r pl1} (h : rowT E wh sets pl ts = .inl (x, r, pl1)) : r.size ≤ ts.size := by
  unfold rowT at h
  split at h
  · cases h
  · rename_i h1
    cases h
    exact rowS_size hE h1
theorem altS_size {E wh sets} (hE : Less E) : ∀ {f : Nat} {ts : Toks} {pl acc l r pl1}, altS E wh sets f ts pl acc = .inl (l, r, pl1) → r.size ≤ ts.size
  | 0, ts, pl, acc, l, r, pl1, h => by cases h; exact Nat.le_refl _
  | f + 1, ts, pl, acc, l, r, pl1, h => by
    simp only [altS] at h
    split at h
    · cases h
    · rename_i h1
      cases h
      have := signS_size h1
      simp only [Bool.false_eq_true, if_false] at this
      omega
    · rename_i h1
      have a := signS_size h1
      simp only [if_true] at a
      split at h
      · cases h
      · rename_i h2
        have b := rowT_size hE h2
        have c := altS_size hE h
        omega
theorem eithS_size {E wh sets} (hE : Less E) {pl ts x r pl1} (h : eithS E wh sets pl ts = .inl (x, r, pl1)) : r.size ≤ ts.size := by
  unfold eithS at h
  split at h
  · cases h
  · rename_i h1
    split at h
    · cases h
    · rename_i h2
      cases h
      have a := rowT_size hE h1
      have b := altS_size hE h2
      omega
theorem less_none : Less none := fun f h => by cases h
theorem eitherS_size {wh sets} : ∀ {d : Nat} {pl ts x r pl1}, eitherS wh sets d pl ts = .inl (x, r, pl1) → r.size ≤ ts.size
  | 0, _, _, _, _, _, h => eithS_size less_none h
  | d + 1, _, _, _, _, _, h => eithS_size (fun f hf => by cases hf; exact fun pl ts x r pl1 h => eitherS_size h) h
theorem less_some {wh sets d} : Less (some (eitherS wh sets d)) := fun f hf => by cases hf; exact fun pl ts x r pl1 h => eitherS_size h
theorem T_size {t : List UInt8} : ∀ (m a : Nat), t.length - a ≤ m → a ≤ t.length → (T t a).size ≤ t.length - a := by
  intro m
  induction m with
  | zero => intro a h1 h2; rw [T_end (by omega)]; exact Nat.zero_le _
  | succ m ih =>
    intro a h1 h2
    have hq : At t ((T t a).pos : Int) (T t a) := At.posn (p := (a : Int)) ⟨by omega, by omega, by rw [Int.toNat_natCast]⟩
    have hp := T_pos t _ a (Nat.le_refl _) h2
    generalize hts : T t a = ts at hq hp ⊢
    cases ts with
    | bad n => exact Nat.zero_le _
    | eof n => exact Nat.zero_le _
    | wd w n r =>
      obtain ⟨_, _, b3, b4, b5⟩ := hq.wd
      obtain ⟨c1, c2, c3⟩ := b4
      have hn : n = (Toks.wd w n r).pos := rfl
      have ha : a ≤ n := hp.1
      have := ih (n + w.length) (by omega) (by omega)
      rw [Int.toNat_natCast] at c3
      rw [c3] at this
      simp only [Toks.size]; omega
    | sg c n r =>
      obtain ⟨_, _, _, b4, b5⟩ := hq.sg
      obtain ⟨c1, c2, c3⟩ := b4
      have ha : a ≤ n := hp.1
      have := ih (n + 1) (by omega) (by omega)
      rw [show ((n : Int) + 1).toNat = n + 1 by omega] at c3
      rw [c3] at this
      simp only [Toks.size]; omega
end Go.Proofs.Ytjfjigknkhgkdaa.T
namespace Go.Proofs.Ytjfjigknkhgkdaa.T
open Go Go.Tv Go.Proofs
theorem Ok.bind {A B C D : Type} {x : Option (A ⊕ Er)} {y : B ⊕ Er} {R : A → B → Prop} (h : Ok x y R) {k : A ⊕ Er → Option (C ⊕ Er)} {s : D ⊕ Er} {R' : C → D → Prop}
    (h1 : ∀ e1 e2, y = .inr (e1, e2) → k (.inr (e1, e2)) = some (.inr (e1, e2)) ∧ s = .inr (e1, e2)) (h2 : ∀ a b, y = .inl b → R a b → Ok (k (.inl a)) s R') : Ok (x.bind k) s R' := by
  cases y with
  | inr e =>
    obtain ⟨e1, e2⟩ := e
    rw [show x = some (.inr (e1, e2)) from h, Option.bind_some, (h1 e1 e2 rfl).1, (h1 e1 e2 rfl).2]
    rfl
  | inl b =>
    obtain ⟨a, h3, h4⟩ := h
    rw [h3]
    exact h2 a b rfl h4
theorem letN_not {c : Nat} (h : letN c = false) {w : List UInt8} (hw : letN ((w.headD 0).toNat) = true) : (((w.headD 0).toNat : Nat) : Int) ≠ (c : Int) := fun hh => by
  have : (w.headD 0).toNat = c := by omega
  rw [this, h] at hw; cases hw
section
variable {t : List UInt8} (ht : t.length ≤ 10000)
include ht
theorem freshP {p : Int} {ts : Toks} (h : At t p ts) (d3 d4 d5 d6 o1 o2 o3 o4) : Ok (pq_fresh_v2 t p d3 d4 d5 d6 o1 o2 o3 o4) (freshS o4 ts) (fun a b => a.1 = b.1 ∧ At t a.2 b.2.2) := by
  unfold pq_fresh_v2
  refine (wordP ht h d3 d4 d5 d6 o1 o2 o3 o4).bind (fun e1 e2 he => ⟨rfl, by simp only [freshS, he]⟩) ?_
  rintro ⟨w, n, q⟩ ⟨w', n', r⟩ hy ⟨h1, h2, h3⟩
  dsimp only at h1 h2 h3
  subst h1; subst h2
  simp only [freshS, hy]
  cases hl : look o4 w with
  | some b => rw [show mfind .str o4 w = some b from hl]; rfl
  | none => rw [show mfind .str o4 w = none from hl]; exact ⟨_, rfl, rfl, h3⟩
theorem namedP {p : Int} {ts : Toks} (h : At t p ts) (d3 d4 d5 d6 o1 o2 o3 o4) : Ok (pq_named_v1 t p d3 d4 d5 d6 o1 o2 o3 o4) (namedS o4 ts) (fun a b => a.1 = b.1 ∧ At t a.2 b.2) := by
  unfold pq_named_v1
  refine (wordP ht h d3 d4 d5 d6 o1 o2 o3 o4).bind (fun e1 e2 he => ⟨rfl, by simp only [namedS, he]⟩) ?_
  rintro ⟨w, n, q⟩ ⟨w', n', r⟩ hy ⟨h1, h2, h3⟩
  dsimp only at h1 h2 h3
  subst h1; subst h2
  simp only [namedS, hy]
  cases hl : look o4 w with
  | some b => rw [show mfind .str o4 w = some b from hl]; exact ⟨_, rfl, rfl, h3⟩
  | none => rw [show mfind .str o4 w = none from hl]; rfl
theorem listP_L1 {c : Nat} (hc : letN c = false) (hc0 : c ≠ 0) (d3 d4 d5 d6 o1 o2 o3 o4) : ∀ (ts : Toks) (p b : Int), At t p ts → Ok (iter (pq_classes_v1_L1 (c : Int) t d3 d4 d5 d6 o1 o2 o3 o4) (p, b)) (listS c o4 ts b) (fun a b => a.2 = b.1 ∧ At t (a.1 + 1) b.2 ∧ 0 ≤ a.1 ∧ a.1 < t.length)
  | .bad n, p, b, h => by
    apply iter_r
    unfold pq_classes_v1_L1
    simp only [hereP ht h]
    rfl
  | .eof n, p, b, h => by
    have hn := namedP ht h.posn d3 d4 d5 d6 o1 o2 o3 o4
    apply iter_r
    unfold pq_classes_v1_L1
    simp only [hereP ht h, Option.bind_some, hereS]
    rw [if_pos (by simp [Toks.hd]; omega), show pq_named_v1 t _ d3 d4 d5 d6 o1 o2 o3 o4 = some (.inr (21, (n : Int))) from hn]
    rfl
  | .sg d n r, p, b, h => by
    obtain ⟨h1, h2, h3, h4, h5⟩ := h.sg
    have hn := namedP ht h.posn d3 d4 d5 d6 o1 o2 o3 o4
    simp only [listS]
    by_cases hd : d = c
    · rw [if_pos hd]
      refine ⟨((n : Int), b), ?_, rfl, h4, by simp only []; omega, by simp only []; omega⟩
      apply iter_r
      unfold pq_classes_v1_L1
      simp only [hereP ht h, Option.bind_some, hereS, Toks.hd, Toks.pos]
      rw [if_neg (by simp [hd])]
    · rw [if_neg hd]
      apply iter_r
      unfold pq_classes_v1_L1
      simp only [hereP ht h, Option.bind_some, hereS, Toks.hd]
      rw [if_pos (by simp; omega), show pq_named_v1 t _ d3 d4 d5 d6 o1 o2 o3 o4 = some (.inr (21, (n : Int))) from hn]
      rfl
  | .wd w n r, p, b, h => by
    obtain ⟨h1, h2, h3, h4, h5⟩ := h.wd
    have hn := namedP ht h.posn d3 d4 d5 d6 o1 o2 o3 o4
    simp only [listS]
    simp only [namedS, wordS] at hn
    cases hl : look o4 w with
    | none =>
      rw [hl] at hn
      apply iter_r
      unfold pq_classes_v1_L1
      simp only [hereP ht h, Option.bind_some, hereS, Toks.hd]
      rw [if_pos (by simpa using letN_not hc h1), show pq_named_v1 t _ d3 d4 d5 d6 o1 o2 o3 o4 = some (.inr (22, (n : Int))) from hn]
      rfl
    | some x =>
      rw [hl] at hn
      obtain ⟨⟨x', q⟩, e1, e2, e3⟩ := hn
      dsimp only at e2 e3
      subst e2
      have hb : pq_classes_v1_L1 (c : Int) t d3 d4 d5 d6 o1 o2 o3 o4 (p, b) = some (.inl (q, bitsOf .or .u32 b x')) := by
        unfold pq_classes_v1_L1
        simp only [hereP ht h, Option.bind_some, hereS, Toks.hd]
        rw [if_pos (by simpa using letN_not hc h1), e1]
        rfl
      rw [iter_l hb]
      exact listP_L1 hc hc0 d3 d4 d5 d6 o1 o2 o3 o4 r q _ e3
theorem listP {c : Nat} (hc : letN c = false) (hc0 : c ≠ 0) {ts : Toks} {p : Int} (h : At t p ts) (d3 d4 d5 d6 o1 o2 o3 o4) : Ok (pq_classes_v1 (c : Int) t p d3 d4 d5 d6 o1 o2 o3 o4) (listS c o4 ts 0) (fun a b => a.1 = b.1 ∧ At t a.2 b.2) := by
  unfold pq_classes_v1
  refine (listP_L1 ht hc hc0 d3 d4 d5 d6 o1 o2 o3 o4 ts p 0 h).bind (fun e1 e2 he => ⟨rfl, he⟩) ?_
  rintro ⟨q, x⟩ ⟨x', r⟩ hy ⟨h1, h2, h3, h4⟩
  rw [hy]
  refine ⟨_, rfl, h1, ?_⟩
  dsimp only at h2 h3 h4 ⊢
  rw [wrap_i64 (by omega) (by omega)]
  exact h2
end
theorem Tree.eta (x : Tree) : Tree.node x.op x.set x.kids = x := by cases x; rfl
def Rec (t : List UInt8) (rec : List UInt8 → Int → Int → Int → Int → Int → List (List UInt8) → List Int → RL → Sets → Option ((Tree × Int × Int × Int) ⊕ (Int × Int))) (E : Option (Int → Toks → TR)) (deep : Int) (d3 d4 : Int) (o1 : List (List UInt8)) (o2 : List Int) (o3 : RL) (o4 : Sets) : Prop :=
  0 ≤ deep ∧ deep ≤ 16 ∧ match E with
  | none => deep = 16
  | some f => deep < 16 ∧ ∀ p ts pl, At t p ts → 0 ≤ pl → pl ≤ 200 → Ok (rec t p d3 d4 pl (deep + 1) o1 o2 o3 o4) (f pl ts) (fun a b => a.1 = b.1 ∧ At t a.2.1 b.2.1 ∧ a.2.2.1 = b.2.2 ∧ a.2.2.2 = deep + 1 ∧ 0 ≤ b.2.2 ∧ b.2.2 ≤ 200)
abbrev RT (t : List UInt8) (deep : Int) (a : Tree × Int × Int × Int) (b : Tree × Toks × Int) : Prop := a.1 = b.1 ∧ At t a.2.1 b.2.1 ∧ a.2.2.1 = b.2.2 ∧ a.2.2.2 = deep ∧ 0 ≤ b.2.2 ∧ b.2.2 ≤ 200
section
variable {t : List UInt8} (ht : t.length ≤ 10000)
include ht
theorem thingP {rec E deep d3 d4 o1 o2 o3 o4} (hr : Rec t rec E deep d3 d4 o1 o2 o3 o4) {ts : Toks} (hth : isTh ts = true) (h : At t ts.pos ts) {pl : Int} (hp0 : 0 ≤ pl) (hp1 : pl ≤ 200) :
    Ok (pq_thing_v5 rec t ts.pos d3 d4 pl deep o1 o2 o3 o4) (thingS E (wholeI o1.length) o4 pl ts) (RT t deep) := by
  obtain ⟨g0, g1, g2⟩ := hr
  have w1 : IntKind.i64.wrap (pl + 1) = pl + 1 := wrap_i64 (by omega) (by omega)
  have w2 : IntKind.i64.wrap (deep + 1) = deep + 1 := wrap_i64 (by omega) (by omega)
  unfold pq_thing_v5
  rw [w1, w2]
  cases ts with
  | bad n => cases hth
  | eof n => cases hth
  | wd w n r =>
    have s1 := signP ht (c := 40) (by decide) (by decide) h d3 d4 pl deep o1 o2 o3 o4
    obtain ⟨⟨b1, q1⟩, e1, e2, e3, e4⟩ := s1
    dsimp only at e2 e3 e4
    subst e2
    rw [show pq_sign_v2 40 t _ d3 d4 pl deep o1 o2 o3 o4 = _ from e1]
    simp only [Option.bind_some, Bool.false_eq_true, if_false, thingS]
    by_cases hpl : pl + 1 > 200
    · rw [if_pos (by simpa using hpl), if_pos hpl]
      rfl
    · rw [if_neg (by simpa using hpl), if_neg hpl, if_pos (by omega)]
      obtain ⟨⟨b2, q2⟩, f1, f2, f3, f4⟩ := signP ht (c := 46) (by decide) (by decide) e3 d3 d4 (pl + 1) deep o1 o2 o3 o4
      dsimp only at f2 f3 f4
      subst f2
      rw [show pq_sign_v2 46 t _ d3 d4 _ deep o1 o2 o3 o4 = _ from f1]
      simp only [Option.bind_some, Bool.false_eq_true, if_false]
      obtain ⟨⟨b3, q3⟩, k1, k2, k3, k4⟩ := signP ht (c := 91) (by decide) (by decide) f3 d3 d4 (pl + 1) deep o1 o2 o3 o4
      dsimp only at k2 k3 k4
      subst k2
      rw [show pq_sign_v2 91 t _ d3 d4 _ deep o1 o2 o3 o4 = _ from k1]
      simp only [Option.bind_some, Bool.false_eq_true, if_false]
      have hn := namedP ht k3 d3 d4 (pl + 1) deep o1 o2 o3 o4
      simp only [namedS, wordS] at hn
      cases hl : look o4 w with
      | none =>
        rw [hl] at hn
        rw [show pq_named_v1 t q3 d3 d4 (pl + 1) deep o1 o2 o3 o4 = _ from hn]
        rfl
      | some x =>
        rw [hl] at hn
        obtain ⟨⟨x', q⟩, n1, n2, n3⟩ := hn
        rw [n1]
        dsimp only at n2 n3
        subst n2
        exact ⟨_, rfl, rfl, n3, rfl, rfl, by show (0 : Int) ≤ pl + 1; omega, by show pl + 1 ≤ (200 : Int); omega⟩
  | sg d n r =>
    have s1 := signP ht (c := 40) (by decide) (by decide) h d3 d4 pl deep o1 o2 o3 o4
    simp only [signS] at s1
    simp only [thingS]
    by_cases hd : d = 40
    · rw [if_pos hd] at s1 ⊢
      obtain ⟨⟨b1, q1⟩, e1, e2, e3, e4⟩ := s1
      dsimp only at e2 e3 e4
      subst e2
      rw [show pq_sign_v2 40 t _ d3 d4 pl deep o1 o2 o3 o4 = _ from e1]
      simp only [Option.bind_some, if_true]
      cases E with
      | none =>
        rw [if_pos (by simp; simp only [] at g2; omega)]
        rfl
      | some f =>
        obtain ⟨g3, g4⟩ := g2
        rw [if_neg (by simp; omega)]
        refine (g4 q1 r pl e3 hp0 hp1).bind (fun e1 e2 he => ⟨rfl, by simp only [he]⟩) ?_
        rintro ⟨x, q, a3, a4⟩ ⟨x', r1, b3⟩ hy ⟨m1, m2, m3, m4, m5, m6⟩
        dsimp only at m1 m2 m3 m4 m5 m6
        subst m1; subst m3; subst m4
        simp only [hy]
        refine (wantP ht (c := 41) (by decide) (by decide) m2 d3 d4 _ _ o1 o2 o3 o4).bind (fun e1 e2 he => ⟨rfl, by simp only [he]⟩) ?_
        rintro q2 r2 hy2 m7
        simp only [hy2]
        refine ⟨_, rfl, Tree.eta _, m7, rfl, ?_, m5, m6⟩
        show IntKind.i64.wrap (deep + 1 - 1) = deep
        rw [wrap_i64 (by omega) (by omega)]; omega
    · rw [if_neg hd] at s1 ⊢
      obtain ⟨⟨b1, q1⟩, e1, e2, e3, e4⟩ := s1
      dsimp only at e2 e3 e4
      subst e2
      rw [show pq_sign_v2 40 t _ d3 d4 pl deep o1 o2 o3 o4 = _ from e1]
      simp only [Option.bind_some, Bool.false_eq_true, if_false]
      by_cases hpl : pl + 1 > 200
      · rw [if_pos (by simpa using hpl), if_pos hpl]
        rfl
      · rw [if_neg (by simpa using hpl), if_neg hpl, if_pos (by omega)]
        have s2 := signP ht (c := 46) (by decide) (by decide) e3 d3 d4 (pl + 1) deep o1 o2 o3 o4
        simp only [signS] at s2
        by_cases hd2 : d = 46
        · rw [if_pos hd2] at s2 ⊢
          obtain ⟨⟨b2, q2⟩, f1, f2, f3, f4⟩ := s2
          dsimp only at f2 f3 f4
          subst f2
          rw [show pq_sign_v2 46 t _ d3 d4 _ deep o1 o2 o3 o4 = _ from f1]
          exact ⟨_, rfl, rfl, f3, rfl, rfl, by show (0 : Int) ≤ pl + 1; omega, by show pl + 1 ≤ (200 : Int); omega⟩
        · rw [if_neg hd2] at s2 ⊢
          obtain ⟨⟨b2, q2⟩, f1, f2, f3, f4⟩ := s2
          dsimp only at f2 f3 f4
          subst f2
          rw [show pq_sign_v2 46 t _ d3 d4 _ deep o1 o2 o3 o4 = _ from f1]
          simp only [Option.bind_some, Bool.false_eq_true, if_false]
          have hd3 : d = 91 := by
            simp only [isTh, Bool.or_eq_true, beq_iff_eq] at hth
            omega
          have s3 := signP ht (c := 91) (by decide) (by decide) f3 d3 d4 (pl + 1) deep o1 o2 o3 o4
          simp only [signS, if_pos hd3] at s3
          obtain ⟨⟨b3, q3⟩, k1, k2, k3, k4⟩ := s3
          dsimp only at k2 k3 k4
          subst k2
          rw [show pq_sign_v2 91 t _ d3 d4 _ deep o1 o2 o3 o4 = _ from k1]
          simp only [Option.bind_some, if_true]
          have s4 := signP ht (c := 94) (by decide) (by decide) k3 d3 d4 (pl + 1) deep o1 o2 o3 o4
          cases hs4 : signS 94 r with
          | inr e =>
            rw [hs4] at s4
            obtain ⟨e1, e2⟩ := e
            rw [show pq_sign_v2 94 t _ d3 d4 _ deep o1 o2 o3 o4 = _ from s4]
            rfl
          | inl br =>
            obtain ⟨neg, r1⟩ := br
            rw [hs4] at s4
            obtain ⟨⟨b4, q4⟩, m1, m2, m3, m4⟩ := s4
            dsimp only at m2 m3 m4
            subst m2
            rw [show pq_sign_v2 94 t _ d3 d4 _ deep o1 o2 o3 o4 = _ from m1]
            simp only [Option.bind_some]
            have s5 := listP ht (c := 93) (by decide) (by decide) m3 d3 d4 (pl + 1) deep o1 o2 o3 o4
            cases hs5 : listS 93 o4 r1 0 with
            | inr e =>
              rw [hs5] at s5
              obtain ⟨e1, e2⟩ := e
              simp only []
              rw [show pq_classes_v1 93 t _ d3 d4 _ deep o1 o2 o3 o4 = _ from s5]
              rfl
            | inl xr =>
              obtain ⟨x, r2⟩ := xr
              rw [hs5] at s5
              obtain ⟨⟨x', q5⟩, n1, n2, n3⟩ := s5
              dsimp only at n2 n3
              subst n2
              rw [show pq_classes_v1 93 t _ d3 d4 _ deep o1 o2 o3 o4 = _ from n1]
              simp only [Option.bind_some]
              cases b4 with
              | true => exact ⟨_, rfl, rfl, n3, rfl, rfl, by show (0 : Int) ≤ pl + 1; omega, by show pl + 1 ≤ (200 : Int); omega⟩
              | false => exact ⟨_, rfl, rfl, n3, rfl, rfl, by show (0 : Int) ≤ pl + 1; omega, by show pl + 1 ≤ (200 : Int); omega⟩
end
end Go.Proofs.Ytjfjigknkhgkdaa.T
namespace Go.Proofs.Ytjfjigknkhgkdaa.T
open Go Go.Tv Go.Proofs
section
variable {t : List UInt8}
theorem oftenB {d3 d4 o1 o2 o3 o4} {x : Tree} {pl deep p : Int} {k : Nat} (hk : k < 4) : pq_often_v5_L1 t d3 d4 o1 o2 o3 o4 x pl deep (p, (k : Int)) = some (.inl (p, ((k + 1 : Nat) : Int))) := by
  match k, hk with
  | 0, _ => rfl
  | 1, _ => rfl
  | 2, _ => rfl
  | 3, _ => rfl
theorem oftenB4 {d3 d4 o1 o2 o3 o4} {x : Tree} {pl deep p : Int} : iter (pq_often_v5_L1 t d3 d4 o1 o2 o3 o4 x pl deep) (p, 0) = iter (pq_often_v5_L1 t d3 d4 o1 o2 o3 o4 x pl deep) (p, 4) := by
  have h := fun (k : Nat) (hk : k < 4) => iter_l (oftenB (t := t) (d3 := d3) (d4 := d4) (o1 := o1) (o2 := o2) (o3 := o3) (o4 := o4) (x := x) (pl := pl) (deep := deep) (p := p) hk)
  exact ((h 0 (by decide)).trans (h 1 (by decide))).trans ((h 2 (by decide)).trans (h 3 (by decide)))
theorem hereS_or (ts : Toks) : hereS ts = .inl (ts.hd, ts.pos) ∨ ∃ n, ts = .bad n := by
  cases ts with
  | bad n => exact Or.inr ⟨n, rfl⟩
  | _ => exact Or.inl rfl
variable (ht : t.length ≤ 10000)
include ht
theorem oftenP {rec E deep d3 d4 o1 o2 o3 o4} (hr : Rec t rec E deep d3 d4 o1 o2 o3 o4) {ts : Toks} (hth : isTh ts = true) (h : At t ts.pos ts) {pl : Int} (hp0 : 0 ≤ pl) (hp1 : pl ≤ 200) :
    Ok (pq_often_v5 rec t ts.pos d3 d4 pl deep o1 o2 o3 o4) (oftenS E (wholeI o1.length) o4 pl ts) (RT t deep) := by
  unfold pq_often_v5
  refine (thingP ht hr hth h hp0 hp1).bind (fun e1 e2 he => ⟨rfl, by simp only [oftenS, he]⟩) ?_
  rintro ⟨x, q, a3, a4⟩ ⟨x', r, b3⟩ hy ⟨m1, m2, m3, m4, m5, m6⟩
  dsimp only at m1 m2 m3 m4 m5 m6
  subst m1; subst m3; subst m4
  simp only [oftenS, hy]
  rw [oftenB4]
  have g4 : ([(0 : Int), (0 : Int), (0 : Int), (0 : Int), (42 : Int), (43 : Int), (63 : Int)] : List Int).getD (4 : Int).toNat 0 = 42 := rfl
  have g5 : ([(0 : Int), (0 : Int), (0 : Int), (0 : Int), (42 : Int), (43 : Int), (63 : Int)] : List Int).getD (5 : Int).toNat 0 = 43 := rfl
  have g6 : ([(0 : Int), (0 : Int), (0 : Int), (0 : Int), (42 : Int), (43 : Int), (63 : Int)] : List Int).getD (6 : Int).toNat 0 = 63 := rfl
  have s4 := fun (p : Int) (h : At t p r) => signP ht (c := 42) (by decide) (by decide) h d3 d4 a3 a4 o1 o2 o3 o4
  have s5 := fun (p : Int) (h : At t p r) => signP ht (c := 43) (by decide) (by decide) h d3 d4 a3 a4 o1 o2 o3 o4
  have s6 := fun (p : Int) (h : At t p r) => signP ht (c := 63) (by decide) (by decide) h d3 d4 a3 a4 o1 o2 o3 o4
  have w4 : IntKind.u8.wrap 4 = 4 := by decide
  have w5 : IntKind.u8.wrap 5 = 5 := by decide
  have w6 : IntKind.u8.wrap 6 = 6 := by decide
  -- a sign that isn't next
  have n4 : signS 42 r = .inl (false, r) → ∃ q1, At t q1 r ∧ iter (pq_often_v5_L1 t d3 d4 o1 o2 o3 o4 x a3 a4) (q, 4) = iter (pq_often_v5_L1 t d3 d4 o1 o2 o3 o4 x a3 a4) (q1, 5) := fun hs => by
    have s := s4 q m2
    rw [hs] at s
    obtain ⟨⟨b1, q1⟩, e1, e2, e3, e4⟩ := s
    dsimp only at e2 e3 e4
    subst e2
    refine ⟨q1, e3, iter_l ?_⟩
    unfold pq_often_v5_L1
    simp only [g4]
    rw [show pq_sign_v2 42 t _ d3 d4 a3 a4 o1 o2 o3 o4 = _ from e1]
    rfl
  have n5 : signS 43 r = .inl (false, r) → ∀ q, At t q r → ∃ q1, At t q1 r ∧ iter (pq_often_v5_L1 t d3 d4 o1 o2 o3 o4 x a3 a4) (q, 5) = iter (pq_often_v5_L1 t d3 d4 o1 o2 o3 o4 x a3 a4) (q1, 6) := fun hs q m2 => by
    have s := s5 q m2
    rw [hs] at s
    obtain ⟨⟨b1, q1⟩, e1, e2, e3, e4⟩ := s
    dsimp only at e2 e3 e4
    subst e2
    refine ⟨q1, e3, iter_l ?_⟩
    unfold pq_often_v5_L1
    simp only [g5]
    rw [show pq_sign_v2 43 t _ d3 d4 a3 a4 o1 o2 o3 o4 = _ from e1]
    rfl
  have n6 : signS 63 r = .inl (false, r) → ∀ q, At t q r → ∃ q1, At t q1 r ∧ iter (pq_often_v5_L1 t d3 d4 o1 o2 o3 o4 x a3 a4) (q, 6) = some (.inl q1) := fun hs q m2 => by
    have s := s6 q m2
    rw [hs] at s
    obtain ⟨⟨b1, q1⟩, e1, e2, e3, e4⟩ := s
    dsimp only at e2 e3 e4
    subst e2
    refine ⟨q1, e3, ?_⟩
    rw [iter_l (s' := (q1, 7)) (by
      unfold pq_often_v5_L1
      simp only [g6]
      rw [show pq_sign_v2 63 t _ d3 d4 a3 a4 o1 o2 o3 o4 = _ from e1]
      rfl)]
    exact iter_r rfl
  have none3 : signS 42 r = .inl (false, r) → signS 43 r = .inl (false, r) → signS 63 r = .inl (false, r) → Ok
      (((iter (pq_often_v5_L1 t d3 d4 o1 o2 o3 o4 x a3 a4) (q, (4 : Int))).bind fun (r65 : ((Int) ⊕ ((Int × Int) ⊕ (Tree × Int × Int × Int)))) => match r65 with
      | .inl v14 => some (Sum.inl ((Tree.node x.op x.set x.kids), v14, a3, a4))
      | .inr (.inl (e51, e52)) => some (Sum.inr (e51, e52))
      | .inr (.inr ((r54, r55, r56, r57))) => some (Sum.inl (r54, r55, r56, r57)))) (.inl (x, r, a3) : TR) (RT t a4) := fun h1 h2 h3 => by
    obtain ⟨q1, k1, k2⟩ := n4 h1
    obtain ⟨q2, k3, k4⟩ := n5 h2 q1 k1
    obtain ⟨q3, k5, k6⟩ := n6 h3 q2 k3
    rw [k2, k4, k6]
    exact ⟨_, rfl, Tree.eta x, k5, rfl, rfl, m5, m6⟩
  cases r with
  | bad n =>
    rw [iter_r (r := .inr (.inl (20, (n : Int)))) (by
      unfold pq_often_v5_L1
      simp only [g4]
      rw [show pq_sign_v2 42 t _ d3 d4 a3 a4 o1 o2 o3 o4 = _ from s4 q m2]
      rfl)]
    rfl
  | eof n => exact none3 rfl rfl rfl
  | wd w n r1 => exact none3 rfl rfl rfl
  | sg d n r1 =>
    simp only [signS] at s4 s5 s6 none3 n4 n5 n6
    simp only []
    by_cases h42 : d = 42
    · rw [if_pos h42] at s4 ⊢
      obtain ⟨⟨b1, q1⟩, e1, e2, e3, e4⟩ := s4 q m2
      dsimp only at e2 e3 e4
      subst e2
      rw [iter_r (r := .inr (.inr (Tree.node 4 0 [x], q1, a3, a4))) (by
        unfold pq_often_v5_L1
        simp only [g4]
        rw [show pq_sign_v2 42 t _ d3 d4 a3 a4 o1 o2 o3 o4 = _ from e1, w4, Tree.eta]
        rfl)]
      exact ⟨_, rfl, rfl, e3, rfl, rfl, m5, m6⟩
    · rw [if_neg h42] at n4 none3 ⊢
      obtain ⟨q1, k1, k2⟩ := n4 rfl
      by_cases h43 : d = 43
      · rw [if_pos h43] at s5 ⊢
        obtain ⟨⟨b1, q1⟩, e1, e2, e3, e4⟩ := s5 _ k1
        dsimp only at e2 e3 e4
        subst e2
        rw [k2, iter_r (r := .inr (.inr (Tree.node 5 0 [x], q1, a3, a4))) (by
          unfold pq_often_v5_L1
          simp only [g5]
          rw [show pq_sign_v2 43 t _ d3 d4 a3 a4 o1 o2 o3 o4 = _ from e1, w5, Tree.eta]
          rfl)]
        exact ⟨_, rfl, rfl, e3, rfl, rfl, m5, m6⟩
      · rw [if_neg h43] at n5 none3 ⊢
        obtain ⟨q2, k3, k4⟩ := n5 rfl _ k1
        by_cases h63 : d = 63
        · rw [if_pos h63] at s6 ⊢
          obtain ⟨⟨b1, q1⟩, e1, e2, e3, e4⟩ := s6 _ k3
          dsimp only at e2 e3 e4
          subst e2
          rw [k2, k4, iter_r (r := .inr (.inr (Tree.node 6 0 [x], q1, a3, a4))) (by
            unfold pq_often_v5_L1
            simp only [g6]
            rw [show pq_sign_v2 63 t _ d3 d4 a3 a4 o1 o2 o3 o4 = _ from e1, w6, Tree.eta]
            rfl)]
          exact ⟨_, rfl, rfl, e3, rfl, rfl, m5, m6⟩
        · rw [if_neg h63] at none3 ⊢
          exact none3 rfl rfl rfl
omit ht in
theorem isTh_hd {p : Int} {ts : Toks} (h : At t p ts) : ((rules_letter (ts.hd : Int)).bind fun (r88 : Bool) =>
  (if r88 = true then some (true)
  else (if ((ts.hd : Int) == (40 : Int)) = true then some (true)
  else (if ((ts.hd : Int) == (91 : Int)) = true then some (true)
  else some (((ts.hd : Int) == (46 : Int))))))) = some (isTh ts) := by
  have key : ∀ c : Nat, letN c = false → c < 256 → ((rules_letter (c : Int)).bind fun (r88 : Bool) =>
      (if r88 = true then some (true)
      else (if ((c : Int) == (40 : Int)) = true then some (true)
      else (if ((c : Int) == (91 : Int)) = true then some (true)
      else some (((c : Int) == (46 : Int))))))) = some (c == 40 || c == 91 || c == 46) := fun c h1 h3 => by
    rw [(byte_all h3).1, h1]
    simp only [Option.bind_some, Bool.false_eq_true, if_false]
    by_cases h40 : c = 40
    · subst h40; rfl
    · rw [if_neg (by simp; omega)]
      by_cases h91 : c = 91
      · subst h91; rfl
      · rw [if_neg (by simp; omega)]
        have : ((c : Int) == 46) = (c == 46) := by
          by_cases h46 : c = 46
          · subst h46; rfl
          · rw [beq_eq_false_iff_ne.mpr h46, beq_eq_false_iff_ne.mpr (by omega)]
        rw [this, beq_eq_false_iff_ne.mpr h40, beq_eq_false_iff_ne.mpr h91]
        rfl
  cases ts with
  | bad n => exact key 0 (by decide) (by decide)
  | eof n => exact key 0 (by decide) (by decide)
  | wd w n r =>
    obtain ⟨h1, _⟩ := h.wd
    simp only [Toks.hd]; rw [rlet, h1]; rfl
  | sg c n r =>
    obtain ⟨h1, h2, h3, h4, h5⟩ := h.sg
    exact key c h1 h3
abbrev RL3 (t : List UInt8) (deep : Int) (a : List Tree × Int × Int × Int) (b : List Tree × Toks × Int) : Prop := a.1 = b.1 ∧ At t a.2.1 b.2.1 ∧ a.2.2.1 = b.2.2 ∧ a.2.2.2 = deep ∧ 0 ≤ b.2.2 ∧ b.2.2 ≤ 200
theorem rowP_L1 {rec E deep d3 d4 o1 o2 o3 o4} (hr : Rec t rec E deep d3 d4 o1 o2 o3 o4) (hE : Less E) : ∀ (f : Nat) (ts : Toks) (pl : Int) (acc : List Tree), At t ts.pos ts → hereS ts = .inl (ts.hd, ts.pos) → ts.size < f → acc.length + ts.size ≤ 20000 → 0 ≤ pl → pl ≤ 200 →
    Ok (iter (pq_row_v5_L1 t d3 d4 o1 o2 o3 o4 rec) ((ts.pos : Int), pl, deep, acc, (ts.hd : Int))) (rowS E (wholeI o1.length) o4 f ts pl acc) (RL3 t deep)
  | 0, ts, pl, acc, _, _, h, _, _, _ => by omega
  | f + 1, ts, pl, acc, h, hs, hf, ha, hp0, hp1 => by
    have hh := isTh_hd h
    simp only [rowS, hs]
    cases hth : isTh ts with
    | false =>
      rw [hth] at hh
      refine ⟨(acc, (ts.pos : Int), pl, deep), iter_r ?_, rfl, h, rfl, rfl, hp0, hp1⟩
      unfold pq_row_v5_L1
      simp only [hh]
      rfl
    | true =>
      rw [hth] at hh
      simp only [if_true]
      have ho := oftenP ht hr hth h hp0 hp1
      cases hos : oftenS E (wholeI o1.length) o4 pl ts with
      | inr e =>
        rw [hos] at ho
        obtain ⟨e1, e2⟩ := e
        apply iter_r
        unfold pq_row_v5_L1
        simp only [hh]
        simp only [Option.bind_some, if_true]
        rw [show pq_often_v5 rec t _ d3 d4 pl deep o1 o2 o3 o4 = _ from ho]
        rfl
      | inl xr =>
        obtain ⟨x, r, pl1⟩ := xr
        rw [hos] at ho
        obtain ⟨⟨x', q, a3, a4⟩, k0, m1, m2, m3, m4, m5, m6⟩ := ho
        dsimp only at m1 m2 m3 m4 m5 m6
        subst m1; subst m3; subst m4
        have hsz := oftenS_size hE hos
        rcases hereS_or r with hs2 | ⟨n, rfl⟩
        · have hb : pq_row_v5_L1 t d3 d4 o1 o2 o3 o4 rec ((ts.pos : Int), pl, a4, acc, (ts.hd : Int)) = some (.inl ((r.pos : Int), a3, a4, acc ++ [x'], (r.hd : Int))) := by
            unfold pq_row_v5_L1
            simp only [hh]
            simp only [Option.bind_some, if_true]
            rw [k0]
            simp only [Option.bind_some, Tree.eta]
            rw [if_pos ⟨by simp; omega, by simp; omega⟩, hereP ht m2, hs2]
            rfl
          rw [iter_l hb]
          exact rowP_L1 hr hE f r a3 (acc ++ [x']) m2.posn hs2 (by omega) (by simp; omega) m5 m6
        · match f, hf with
          | 0, hf => omega
          | f + 1, hf =>
            simp only [rowS, hereS]
            apply iter_r
            unfold pq_row_v5_L1
            simp only [hh]
            simp only [Option.bind_some, if_true]
            rw [k0]
            simp only [Option.bind_some, Tree.eta]
            rw [if_pos ⟨by simp; omega, by simp; omega⟩, hereP ht m2]
            rfl
theorem rowP {rec E deep d3 d4 o1 o2 o3 o4} (hr : Rec t rec E deep d3 d4 o1 o2 o3 o4) (hE : Less E) {p : Int} {ts : Toks} (h : At t p ts) (hz : ts.size ≤ 10000) {pl : Int} (hp0 : 0 ≤ pl) (hp1 : pl ≤ 200) :
    Ok (pq_row_v5 rec t p d3 d4 pl deep o1 o2 o3 o4) (rowT E (wholeI o1.length) o4 pl ts) (RT t deep) := by
  unfold pq_row_v5
  rw [hereP ht h]
  rcases hereS_or ts with hs | ⟨n, rfl⟩
  · rw [hs]
    simp only [Option.bind_some]
    refine (rowP_L1 ht hr hE (ts.size + 1) ts pl [] h.posn hs (by omega) (by simp; omega) hp0 hp1).bind (fun e1 e2 he => ⟨rfl, by simp only [rowT, he]⟩) ?_
    rintro ⟨l, q, a3, a4⟩ ⟨l', r, b3⟩ hy ⟨m1, m2, m3, m4, m5, m6⟩
    dsimp only at m1 m2 m3 m4 m5 m6
    subst m1; subst m3; subst m4
    simp only [rowT, hy]
    match l with
    | [] => exact ⟨_, rfl, rfl, m2, rfl, rfl, m5, m6⟩
    | [x] => exact ⟨_, rfl, Tree.eta x, m2, rfl, rfl, m5, m6⟩
    | x :: y :: l =>
      refine ⟨(Tree.node 2 0 (x :: y :: l), q, a3, a4), ?_, rfl, m2, rfl, rfl, m5, m6⟩
      simp only [List.length_cons]
      rw [if_neg (by simp; omega), if_neg (by simp; omega)]
  · rfl
theorem altP_L1 {rec E deep d3 d4 o1 o2 o3 o4} (hr : Rec t rec E deep d3 d4 o1 o2 o3 o4) (hE : Less E) : ∀ (f : Nat) (ts : Toks) (p pl : Int) (acc : List Tree), At t p ts → ts.size < f → acc.length + ts.size ≤ 20000 → ts.size ≤ 10000 → 0 ≤ pl → pl ≤ 200 →
    Ok (iter (pq_either_v1_L1 t d3 d4 o1 o2 o3 o4 rec) (p, pl, deep, acc)) (altS E (wholeI o1.length) o4 f ts pl acc) (RL3 t deep)
  | 0, ts, p, pl, acc, _, h, _, _, _, _ => by omega
  | f + 1, ts, p, pl, acc, h, hf, ha, hz, hp0, hp1 => by
    have hs := signP ht (c := 124) (by decide) (by decide) h d3 d4 pl deep o1 o2 o3 o4
    simp only [altS]
    cases hss : signS 124 ts with
    | inr e =>
      rw [hss] at hs
      obtain ⟨e1, e2⟩ := e
      apply iter_r
      unfold pq_either_v1_L1
      simp only []
      rw [show pq_sign_v2 124 t _ d3 d4 pl deep o1 o2 o3 o4 = _ from hs]
      rfl
    | inl br =>
      obtain ⟨b, r⟩ := br
      rw [hss] at hs
      obtain ⟨⟨b1, q1⟩, e1, e2, e3, e4⟩ := hs
      dsimp only at e2 e3 e4
      subst e2
      have hsz := signS_size hss
      cases b1 with
      | false =>
        refine ⟨(acc, q1, pl, deep), iter_r ?_, rfl, e3, rfl, rfl, hp0, hp1⟩
        unfold pq_either_v1_L1
        simp only []
        rw [show pq_sign_v2 124 t _ d3 d4 pl deep o1 o2 o3 o4 = _ from e1]
        rfl
      | true =>
        simp only [if_true] at hsz
        have ho := rowP ht hr hE e3 (by omega) hp0 hp1
        simp only []
        cases hos : rowT E (wholeI o1.length) o4 pl r with
        | inr e =>
          rw [hos] at ho
          obtain ⟨e5, e6⟩ := e
          apply iter_r
          unfold pq_either_v1_L1
          simp only []
          rw [show pq_sign_v2 124 t _ d3 d4 pl deep o1 o2 o3 o4 = _ from e1]
          simp only [Option.bind_some, if_true]
          rw [show pq_row_v5 rec t _ d3 d4 pl deep o1 o2 o3 o4 = _ from ho]
          rfl
        | inl xr =>
          obtain ⟨x, r1, pl1⟩ := xr
          rw [hos] at ho
          obtain ⟨⟨x', q, a3, a4⟩, k0, m1, m2, m3, m4, m5, m6⟩ := ho
          dsimp only at m1 m2 m3 m4 m5 m6
          subst m1; subst m3; subst m4
          have hsz2 := rowT_size hE hos
          have hb : pq_either_v1_L1 t d3 d4 o1 o2 o3 o4 rec (p, pl, a4, acc) = some (.inl (q, a3, a4, acc ++ [x'])) := by
            unfold pq_either_v1_L1
            simp only []
            rw [show pq_sign_v2 124 t _ d3 d4 pl a4 o1 o2 o3 o4 = _ from e1]
            simp only [Option.bind_some, if_true]
            rw [k0]
            simp only [Option.bind_some, Tree.eta]
            rw [if_pos ⟨by simp; omega, by simp; omega⟩]
          rw [iter_l hb]
          exact altP_L1 hr hE f r1 q a3 (acc ++ [x']) m2 (by omega) (by simp; omega) (by omega) m5 m6
theorem eithP {rec E deep d3 d4 o1 o2 o3 o4} (hr : Rec t rec E deep d3 d4 o1 o2 o3 o4) (hE : Less E) {p : Int} {ts : Toks} (h : At t p ts) (hz : ts.size ≤ 10000) {pl : Int} (hp0 : 0 ≤ pl) (hp1 : pl ≤ 200) :
    Ok (pq_either_v1_F rec t p d3 d4 pl deep o1 o2 o3 o4) (eithS E (wholeI o1.length) o4 pl ts) (RT t deep) := by
  unfold pq_either_v1_F
  refine (rowP ht hr hE h hz hp0 hp1).bind (fun e1 e2 he => ⟨rfl, by simp only [eithS, he]⟩) ?_
  rintro ⟨x, q, a3, a4⟩ ⟨x', r, b3⟩ hy ⟨m1, m2, m3, m4, m5, m6⟩
  dsimp only at m1 m2 m3 m4 m5 m6
  subst m1; subst m3; subst m4
  have hsz := rowT_size hE hy
  simp only [eithS, hy, Tree.eta]
  refine (altP_L1 ht hr hE (r.size + 1) r q a3 [x] m2 (by omega) (by simp; omega) (by omega) m5 m6).bind (fun e1 e2 he => ⟨rfl, by simp only [he]⟩) ?_
  rintro ⟨l, q1, c3, c4⟩ ⟨l', r1, d5⟩ hy2 ⟨n1, n2, n3, n4, n5, n6⟩
  dsimp only at n1 n2 n3 n4 n5 n6
  subst n1; subst n3; subst n4
  simp only [hy2]
  match l with
  | [] => exact ⟨_, rfl, rfl, n2, rfl, rfl, n5, n6⟩
  | [x] => exact ⟨(x, q1, c3, c4), rfl, rfl, n2, rfl, rfl, n5, n6⟩
  | x :: y :: l =>
    refine ⟨(Tree.node 3 0 (x :: y :: l), q1, c3, c4), ?_, rfl, n2, rfl, rfl, n5, n6⟩
    simp only [List.length_cons]
    rw [if_neg (by simp; omega)]
theorem eitherP {d3 d4 o1 o2 o3 o4} : ∀ (d n : Nat) (deep : Int), d < n → deep = 16 - (d : Int) → 0 ≤ deep → ∀ (p : Int) (ts : Toks) (pl : Int), At t p ts → ts.size ≤ 10000 → 0 ≤ pl → pl ≤ 200 →
    Ok (pq_either_v1 n t p d3 d4 pl deep o1 o2 o3 o4) (eitherS (wholeI o1.length) o4 d pl ts) (RT t deep)
  | d, 0, deep, hn, _, _, _, _, _, _, _, _, _ => by omega
  | 0, n + 1, deep, hn, hd, h0, p, ts, pl, h, hz, hp0, hp1 =>
    eithP ht (E := none) ⟨h0, by omega, by show deep = 16; omega⟩ less_none h hz hp0 hp1
  | d + 1, n + 1, deep, hn, hd, h0, p, ts, pl, h, hz, hp0, hp1 => by
    refine eithP ht (E := some (eitherS (wholeI o1.length) o4 d)) ⟨h0, by omega, by omega, fun p1 ts1 pl1 h1 h2 h3 => ?_⟩ less_some h hz hp0 hp1
    have hz1 : ts1.size ≤ 10000 := by
      obtain ⟨a, b, rfl⟩ := h1
      have := T_size (t := t) _ p1.toNat (Nat.le_refl _) (by omega)
      omega
    exact eitherP d n (deep + 1) (by omega) (by omega) (by omega) p1 ts1 pl1 h1 hz1 h2 h3
end
end Go.Proofs.Ytjfjigknkhgkdaa.T
namespace Go.Proofs.Ytjfjigknkhgkdaa.T
open Go Go.Tv Go.Proofs
theorem mset_new : ∀ {m : Sets} {w : List UInt8} {b : Int}, look m w = none → mset .str m w b = m ++ [(w, b)]
  | [], _, _, _ => rfl
  | x :: r, w, b, h => by
    simp only [look, mfind] at h
    simp only [mset]
    split at h
    · cases h
    · rename_i hk
      rw [if_neg hk, List.cons_append]
      exact congrArg _ (mset_new h)
theorem index_L1 (cls : List (List UInt8)) (w : List UInt8) (hl : cls.length ≤ 24) : slices_Index_string_string cls w = some (if place cls w < cls.length then (place cls w : Int) else -1) := by
  unfold slices_Index_string_string
  have hle : place cls w ≤ cls.length := firstN_le _ _
  have hb : ∀ k, k < place cls w → slices_Index_string_string_L1 cls w (k : Int) = some (.inl ((k + 1 : Nat) : Int)) := fun k hk => by
    have := firstN_lt (fun i => cls.getD i [] == w) cls.length hk
    unfold slices_Index_string_string_L1
    rw [if_pos (by simp; omega), if_pos ⟨by omega, by omega⟩, if_neg (by
      rw [Int.toNat_natCast]; intro hh
      rw [beq_iff_eq] at hh
      simp only [← hh, BEq.rfl] at this
      cases this), wrap_i64 (by omega) (by omega)]
    rfl
  by_cases hp : place cls w < cls.length
  · have hat := firstN_at (fun i => cls.getD i [] == w) cls.length hp
    have he : slices_Index_string_string_L1 cls w ((place cls w : Nat) : Int) = some (.inr (.inr (place cls w : Int))) := by
      unfold slices_Index_string_string_L1
      rw [if_pos (by simp; omega), if_pos ⟨by omega, by omega⟩, if_pos (by
        rw [Int.toNat_natCast, beq_iff_eq]
        exact (beq_iff_eq.mp hat).symm)]
    have := iter_count (fun k : Nat => (k : Int)) (place cls w) hb he
    rw [show iter (slices_Index_string_string_L1 cls w) 0 = _ from this, if_pos hp]
    rfl
  · have hpe : place cls w = cls.length := by omega
    have he : slices_Index_string_string_L1 cls w ((place cls w : Nat) : Int) = some (.inr (.inl ())) := by
      unfold slices_Index_string_string_L1
      rw [if_neg (by simp; omega)]
    have := iter_count (fun k : Nat => (k : Int)) (place cls w) hb he
    rw [show iter (slices_Index_string_string_L1 cls w) 0 = _ from this, if_neg hp]
    rfl
theorem wordS_pos {ts : Toks} {w n r} (h : wordS ts = .inl (w, n, r)) : n = ts.pos := by
  cases ts <;> simp only [wordS] at h <;> cases h
  rfl
section
variable {t : List UInt8} (ht : t.length ≤ 10000)
include ht
theorem oneP {p : Int} {ts : Toks} (h : At t p ts) (d3 d4 d5 d6 o1 o2 o3 o4) (hl : o1.length ≤ 24) : Ok (pq_one_v1 t p d3 d4 d5 d6 o1 o2 o3 o4) (oneS o1 ts) (fun a b => a.1 = b.1 ∧ At t a.2 b.2 ∧ 0 ≤ b.1 ∧ b.1 < o1.length) := by
  unfold pq_one_v1
  refine (wordP ht h d3 d4 d5 d6 o1 o2 o3 o4).bind (fun e1 e2 he => ⟨rfl, by simp only [oneS, he]⟩) ?_
  rintro ⟨w, n, q⟩ ⟨w', n', r⟩ hy ⟨h1, h2, h3⟩
  dsimp only at h1 h2 h3
  subst h1; subst h2
  simp only [oneS, hy]
  rw [index_L1 _ _ hl]
  simp only [Option.bind_some]
  by_cases hp : place o1 w < o1.length
  · rw [if_pos hp, if_pos hp, if_neg (by simp)]
    exact ⟨_, rfl, rfl, h3, by simp only []; omega, by simp only []; omega⟩
  · rw [if_neg hp, if_neg hp, if_pos (by decide)]
    rfl
theorem setP {p : Int} {ts : Toks} (h : At t p ts) (d3 d4 d5 d6 o1 o2 o3 o4) : Ok (pq_set_v1 t p d3 d4 d5 d6 o1 o2 o3 o4) (setS o4 ts) (fun a b => At t a.1 b.1 ∧ a.2 = b.2) := by
  unfold pq_set_v1
  refine (freshP ht h d3 d4 d5 d6 o1 o2 o3 o4).bind (fun e1 e2 he => ⟨rfl, by simp only [setS, he]⟩) ?_
  rintro ⟨w, q⟩ ⟨w', n', r⟩ hy ⟨h1, h3⟩
  dsimp only at h1 h3
  subst h1
  simp only [setS, hy]
  refine (wantP ht (c := 61) (by decide) (by decide) h3 d3 d4 d5 d6 o1 o2 o3 o4).bind (fun e1 e2 he => ⟨rfl, by simp only [he]⟩) ?_
  rintro q1 r1 hy1 h4
  simp only [hy1]
  refine (listP ht (c := 59) (by decide) (by decide) h4 d3 d4 d5 d6 o1 o2 o3 o4).bind (fun e1 e2 he => ⟨rfl, by simp only [he]⟩) ?_
  rintro ⟨x, q2⟩ ⟨x', r2⟩ hy2 ⟨h5, h6⟩
  dsimp only at h5 h6
  subst h5
  simp only [hy2]
  refine ⟨_, rfl, h6, mset_new ?_⟩
  unfold freshS at hy
  split at hy
  · cases hy
  · split at hy
    · cases hy
    · cases hy; assumption
theorem joinP {p : Int} {ts : Toks} (h : At t p ts) (d3 d4 d5 d6 o1 o2 o3 o4) : Ok (pq_join_v1 t p d3 d4 d5 d6 o1 o2 o3 o4) (joinS o4 ts) (fun a b => At t a.1 b.1 ∧ a.2.1 = bitsOf .or .u32 d3 b.2.1 ∧ a.2.2 = bitsOf .or .u32 d4 b.2.2) := by
  unfold pq_join_v1
  refine (listP ht (c := 47) (by decide) (by decide) h d3 d4 d5 d6 o1 o2 o3 o4).bind (fun e1 e2 he => ⟨rfl, by simp only [joinS, he]⟩) ?_
  rintro ⟨x, q⟩ ⟨x', r⟩ hy ⟨h1, h3⟩
  dsimp only at h1 h3
  subst h1
  simp only [joinS, hy]
  refine (listP ht (c := 59) (by decide) (by decide) h3 (bitsOf .or .u32 d3 x) d4 d5 d6 o1 o2 o3 o4).bind (fun e1 e2 he => ⟨rfl, by simp only [he]⟩) ?_
  rintro ⟨x, q2⟩ ⟨x', r2⟩ hy2 ⟨h5, h6⟩
  dsimp only at h5 h6
  subst h5
  simp only [hy2]
  exact ⟨_, rfl, h6, rfl, rfl⟩
theorem treatP {p : Int} {ts : Toks} (h : At t p ts) (d3 d4 d5 d6 o1 o2 o3 o4) (hl : o1.length ≤ 24) (h2 : o2.length = o1.length) : Ok (pq_treat_v1 t p d3 d4 d5 d6 o1 o2 o3 o4) (treatS o1 o2 ts) (fun a b => At t a.1 b.1 ∧ a.2 = b.2 ∧ b.2.length = o2.length) := by
  unfold pq_treat_v1
  refine (oneP ht h d3 d4 d5 d6 o1 o2 o3 o4 hl).bind (fun e1 e2 he => ⟨rfl, by simp only [treatS, he]⟩) ?_
  rintro ⟨x, q⟩ ⟨x', r⟩ hy ⟨h1, h3, g1, g2⟩
  dsimp only at h1 h3 g1 g2
  subst h1
  simp only [treatS, hy]
  refine (wantP ht (c := 61) (by decide) (by decide) h3 d3 d4 d5 d6 o1 o2 o3 o4).bind (fun e1 e2 he => ⟨rfl, by simp only [he]⟩) ?_
  rintro q1 r1 hy1 h4
  simp only [hy1]
  refine (oneP ht h4 d3 d4 d5 d6 o1 o2 o3 o4 hl).bind (fun e1 e2 he => ⟨rfl, by simp only [he]⟩) ?_
  rintro ⟨y, q2⟩ ⟨y', r2⟩ hy2 ⟨h5, h6, g3, g4⟩
  dsimp only at h5 h6 g3 g4
  subst h5
  simp only [hy2]
  rw [if_pos ⟨g1, by omega⟩, if_pos (by omega)]
  refine (wantP ht (c := 59) (by decide) (by decide) h6 d3 d4 d5 d6 o1 (o2.set x.toNat y) o3 o4).bind (fun e1 e2 he => ⟨rfl, by simp only [he]⟩) ?_
  rintro q3 r3 hy3 h7
  simp only [hy3]
  exact ⟨_, rfl, h7, rfl, by simp⟩
theorem ruleP {p : Int} {s : PS} {ts : Toks} (h : At t p ts) (hz : ts.size ≤ 10000) (does n : Int) (d3 d4) (hl : s.list.length ≤ 24) (hp0 : 0 ≤ s.pl) (hp1 : s.pl ≤ 200) : Ok (pq_rule_v1 does n t p d3 d4 s.pl 0 s.cls s.treat s.list s.sets) (ruleS does n s ts) (fun a b => At t a.1 b.1 ∧ a.2.1 = b.2.1 ∧ a.2.2.1 = b.2.2 ∧ a.2.2.2 = 0 ∧ b.2.1.length ≤ 24 ∧ 0 ≤ b.2.2 ∧ b.2.2 ≤ 200) := by
  unfold pq_rule_v1 ruleS
  by_cases h24 : s.list.length ≥ 24
  · rw [if_pos (by simp; omega), if_pos h24]
    rfl
  · rw [if_neg (by simp; omega), if_neg h24]
    refine (eitherP ht 16 1000 0 (by omega) (by omega) (by omega) p ts s.pl h hz hp0 hp1).bind (fun e1 e2 he => ⟨rfl, by simp only [he]⟩) ?_
    rintro ⟨x, q, a3, a4⟩ ⟨x', r, b3⟩ hy ⟨m1, m2, m3, m4, m5, m6⟩
    dsimp only at m1 m2 m3 m4 m5 m6
    subst m1; subst m3; subst m4
    have z1 := eitherS_size hy
    simp only [hy]
    refine (wantP ht (c := 47) (by decide) (by decide) m2 d3 d4 a3 0 s.cls s.treat s.list s.sets).bind (fun e1 e2 he => ⟨rfl, by simp only [he]⟩) ?_
    rintro q1 r1 hy1 h4
    have z2 := wantS_size hy1
    simp only [hy1]
    refine (eitherP ht 16 1000 0 (by omega) (by omega) (by omega) q1 r1 a3 h4 (by omega) m5 m6).bind (fun e1 e2 he => ⟨rfl, by simp only [he]⟩) ?_
    rintro ⟨y, q2, c3, c4⟩ ⟨y', r2, d5⟩ hy2 ⟨n1, n2, n3, n4, n5, n6⟩
    dsimp only at n1 n2 n3 n4 n5 n6
    subst n1; subst n3; subst n4
    simp only [hy2]
    refine (wantP ht (c := 59) (by decide) (by decide) n2 d3 d4 c3 0 s.cls s.treat s.list s.sets).bind (fun e1 e2 he => ⟨rfl, by simp only [he]⟩) ?_
    rintro q3 r3 hy3 h5
    simp only [hy3, Tree.eta]
    rw [if_pos ⟨by simp; omega, by simp; omega⟩]
    exact ⟨_, rfl, h5, rfl, rfl, rfl, by simp; omega, n5, n6⟩
theorem classP_L1 {d3 d4 d5 d6 o3} : ∀ (f : Nat) (ts : Toks) (p : Int) (cls : List (List UInt8)) (tr : List Int) (sets : Sets), At t p ts → ts.size < f → cls.length ≤ 24 → tr.length = cls.length →
    Ok (iter (pq_class_v1_L1 t d3 d4 d5 d6 o3) (p, cls, tr, sets)) (classS f ts cls tr sets) (fun a b => At t a.1 b.1 ∧ a.2 = b.2 ∧ b.2.1.length ≤ 24 ∧ b.2.2.1.length = b.2.1.length)
  | 0, ts, p, cls, tr, sets, _, hf, _, _ => by omega
  | f + 1, ts, p, cls, tr, sets, h, hf, hc, htr => by
    have hs := signP ht (c := 59) (by decide) (by decide) h d3 d4 d5 d6 cls tr o3 sets
    simp only [classS]
    cases hss : signS 59 ts with
    | inr e =>
      rw [hss] at hs
      obtain ⟨e1, e2⟩ := e
      apply iter_r
      unfold pq_class_v1_L1
      simp only []
      rw [show pq_sign_v2 59 t _ d3 d4 d5 d6 cls tr o3 sets = _ from hs]
      rfl
    | inl br =>
      obtain ⟨b, r⟩ := br
      rw [hss] at hs
      obtain ⟨⟨b1, q1⟩, e1, e2, e3, e4⟩ := hs
      dsimp only at e2 e3 e4
      subst e2
      have hsz := signS_size hss
      cases b1 with
      | true =>
        refine ⟨(q1, cls, tr, sets), iter_r ?_, e3, rfl, hc, htr⟩
        unfold pq_class_v1_L1
        simp only []
        rw [show pq_sign_v2 59 t _ d3 d4 d5 d6 cls tr o3 sets = _ from e1]
        rfl
      | false =>
        simp only [Bool.false_eq_true, if_false] at hsz
        simp only []
        have hh := hereP ht e3 d3 d4 d5 d6 cls tr o3 sets
        have hre : r = ts := by
          cases ts with
          | bad n => cases hss
          | eof n => cases hss; rfl
          | wd w n r => cases hss; rfl
          | sg d n r1 => simp only [signS] at hss; split at hss <;> cases hss; rfl
        rcases hereS_or r with hs2 | ⟨n, hn⟩
        · rw [hs2] at hh
          have hf1 := freshP ht e3.posn d3 d4 d5 d6 cls tr o3 sets
          cases hfs : freshS sets r with
          | inr e =>
            rw [hfs] at hf1
            obtain ⟨e5, e6⟩ := e
            apply iter_r
            unfold pq_class_v1_L1
            simp only []
            rw [show pq_sign_v2 59 t _ d3 d4 d5 d6 cls tr o3 sets = _ from e1]
            simp only [Option.bind_some, Bool.not_false, if_true]
            rw [hh]
            simp only [Option.bind_some]
            rw [show pq_fresh_v2 t _ d3 d4 d5 d6 cls tr o3 sets = _ from hf1]
            rfl
          | inl x =>
            obtain ⟨w, n, r1⟩ := x
            rw [hfs] at hf1
            obtain ⟨⟨w', q⟩, k0, k1, k2⟩ := hf1
            dsimp only at k1 k2
            subst k1
            have hsz2 := freshS_size hfs
            have hnp : n = r.pos ∧ look sets w' = none := by
              unfold freshS at hfs
              split at hfs
              · cases hfs
              · split at hfs
                · cases hfs
                · cases hfs; exact ⟨wordS_pos (by assumption), by assumption⟩
            simp only []
            by_cases h24 : cls.length ≥ 24
            · rw [if_pos h24]
              apply iter_r
              unfold pq_class_v1_L1
              simp only []
              rw [show pq_sign_v2 59 t _ d3 d4 d5 d6 cls tr o3 sets = _ from e1]
              simp only [Option.bind_some, Bool.not_false, if_true]
              rw [hh]
              simp only [Option.bind_some]
              rw [k0]
              simp only [Option.bind_some]
              rw [if_pos (by simp; omega), hnp.1]
              rfl
            · rw [if_neg h24]
              have hb : pq_class_v1_L1 t d3 d4 d5 d6 o3 (p, cls, tr, sets) = some (.inl (q, cls ++ [w'], tr ++ [(cls.length : Int)], sets ++ [(w', bitI cls.length)])) := by
                unfold pq_class_v1_L1
                simp only []
                rw [show pq_sign_v2 59 t _ d3 d4 d5 d6 cls tr o3 sets = _ from e1]
                simp only [Option.bind_some, Bool.not_false, if_true]
                rw [hh]
                simp only [Option.bind_some]
                rw [k0]
                simp only [Option.bind_some]
                rw [if_neg (by simp; omega), if_pos (by omega), if_pos ⟨by simp; omega, by simp; omega⟩, if_pos ⟨by simp; omega, by simp; omega⟩, mset_new hnp.2]
                rfl
              rw [iter_l hb]
              exact classP_L1 f r1 q _ _ _ k2 (by omega) (by simp; omega) (by simp; omega)
        · subst hn; subst hre; cases hss
theorem classP {p : Int} {ts : Toks} (h : At t p ts) (d3 d4 d5 d6 o1 o2 o3 o4) (hc : o1.length ≤ 24) (htr : o2.length = o1.length) : Ok (pq_class_v1 t p d3 d4 d5 d6 o1 o2 o3 o4) (classS (ts.size + 1) ts o1 o2 o4) (fun a b => At t a.1 b.1 ∧ a.2 = b.2 ∧ b.2.1.length ≤ 24 ∧ b.2.2.1.length = b.2.1.length) := by
  unfold pq_class_v1
  refine (classP_L1 ht (ts.size + 1) ts p o1 o2 o4 h (by omega) hc htr).bind (fun e1 e2 he => ⟨rfl, he⟩) ?_
  rintro ⟨q, c, r, s⟩ ⟨r1, c1, t1, s1⟩ hy hR
  rw [hy]
  exact ⟨_, rfl, hR⟩
end
structure Inv (s : PS) : Prop where
  hc : s.cls.length ≤ 24
  htr : s.treat.length = s.cls.length
  hl : s.list.length ≤ 24
  hp0 : 0 ≤ s.pl
  hp1 : s.pl ≤ 200
abbrev St := Int × List (List UInt8) × Int × Int × List Int × RL × Sets × Int × Int
def RS (t : List UInt8) (a : St) (b : PS) : Prop := At t a.1 b.ts ∧ a.2 = (b.cls, b.join, b.after, b.treat, b.list, b.sets, b.pl, 0) ∧ Inv b
theorem keyStr (a w : List UInt8) : keyEq .str a w = decide (w = a) := by
  show (a == w) = decide (w = a)
  by_cases h : w = a
  · subst h; simp
  · rw [decide_eq_false h, beq_eq_false_iff_ne]; exact fun hh => h hh.symm
theorem does_eq (w : List UInt8) : mfind .str (mset .str (mset .str (mset .str ([] : List ((List UInt8) × Int)) ([107, 101, 101, 112] : List UInt8) (0 : Int)) ([109, 97, 121] : List UInt8) (1 : Int)) ([109, 117, 115, 116] : List UInt8) (2 : Int)) w = does? w := by
  have e : mset .str (mset .str (mset .str ([] : List ((List UInt8) × Int)) ([107, 101, 101, 112] : List UInt8) (0 : Int)) ([109, 97, 121] : List UInt8) (1 : Int)) ([109, 117, 115, 116] : List UInt8) (2 : Int) = [([107, 101, 101, 112], 0), ([109, 97, 121], 1), ([109, 117, 115, 116], 2)] := by rfl
  rw [e]
  unfold does?
  simp only [mfind, keyStr, decide_eq_true_eq]
section
variable {t : List UInt8} (ht : t.length ≤ 10000)
include ht
theorem allP_body {p : Int} {s : PS} {w : List UInt8} {n : Nat} {r : Toks} (hts : s.ts = .wd w n r) (h : At t p s.ts) (hI : Inv s) :
    (∀ e, lineS s w n r = .inr e → pq_all_L1 t (p, s.cls, s.join, s.after, s.treat, s.list, s.sets, s.pl, 0) = some (.inr (.inr e))) ∧
    (∀ s1, lineS s w n r = .inl s1 → ∃ a, pq_all_L1 t (p, s.cls, s.join, s.after, s.treat, s.list, s.sets, s.pl, 0) = some (.inl a) ∧ RS t a s1) := by
  obtain ⟨i1, i2, i3, i4, i5⟩ := hI
  have hh := hereP ht h s.join s.after s.pl 0 s.cls s.treat s.list s.sets
  have hw := wordP ht h.posn s.join s.after s.pl 0 s.cls s.treat s.list s.sets
  have hzr : r.size ≤ 10000 := by
    obtain ⟨a, b, c⟩ := h
    have := T_size (t := t) _ p.toNat (Nat.le_refl _) (by omega)
    rw [c, hts] at this
    simp only [Toks.size] at this
    omega
  rw [hts] at hh hw h
  obtain ⟨⟨w', n', q⟩, k0, k1, k2, k3⟩ := hw
  dsimp only at k1 k2 k3
  subst k1; subst k2
  have hne : (((Toks.wd w' n r).hd : Int) != 0) = true := by
    obtain ⟨h1, _⟩ := h.wd
    simp only [bne_iff_ne, ne_eq]
    intro hh
    have : (w'.headD 0).toNat = 0 := by simp only [Toks.hd] at hh; omega
    rw [this] at h1; cases h1
  have body : ∀ o, pq_all_L1 t (p, s.cls, s.join, s.after, s.treat, s.list, s.sets, s.pl, 0) = o → pq_all_L1 t (p, s.cls, s.join, s.after, s.treat, s.list, s.sets, s.pl, 0) = o := fun _ h => h
  unfold pq_all_L1 at body ⊢
  simp only [hh, hereS, Option.bind_some, hne, if_true, k0, keyStr, decide_eq_true_eq, does_eq] at body ⊢
  clear body
  unfold lineS
  by_cases c1 : w' = [99, 108, 97, 115, 115]
  · simp only [if_pos c1]
    have hc := classP ht k3 s.join s.after s.pl 0 s.cls s.treat s.list s.sets i1 i2
    cases hcs : classS (r.size + 1) r s.cls s.treat s.sets with
    | inr e =>
      rw [hcs] at hc
      refine ⟨fun e' he => ?_, fun s1 h1 => by cases h1⟩
      cases he
      rw [show pq_class_v1 t q _ _ _ _ _ _ _ _ = _ from hc]
      rfl
    | inl x =>
      obtain ⟨r1, c, tr, st⟩ := x
      rw [hcs] at hc
      obtain ⟨⟨q1, x⟩, m0, m1, m2, m3, m4⟩ := hc
      dsimp only at m1 m2 m3 m4
      subst m2
      refine ⟨fun e' he => (by cases he), fun s1 h1 => ?_⟩
      cases h1
      rw [m0]
      exact ⟨_, rfl, m1, rfl, m3, m4, i3, i4, i5⟩
  · simp only [if_neg c1]
    by_cases c2 : w' = [115, 101, 116]
    · simp only [if_pos c2]
      have hc := setP ht k3 s.join s.after s.pl 0 s.cls s.treat s.list s.sets
      cases hcs : setS s.sets r with
      | inr e =>
        rw [hcs] at hc
        refine ⟨fun e' he => ?_, fun s1 h1 => by cases h1⟩
        cases he
        rw [show pq_set_v1 t q _ _ _ _ _ _ _ _ = _ from hc]
        rfl
      | inl x =>
        obtain ⟨r1, st⟩ := x
        rw [hcs] at hc
        obtain ⟨⟨q1, x⟩, m0, m1, m2⟩ := hc
        dsimp only at m1 m2
        subst m2
        refine ⟨fun e' he => (by cases he), fun s1 h1 => ?_⟩
        cases h1
        rw [m0]
        exact ⟨_, rfl, m1, rfl, i1, i2, i3, i4, i5⟩
    · simp only [if_neg c2]
      by_cases c3 : w' = [106, 111, 105, 110]
      · simp only [if_pos c3]
        have hc := joinP ht k3 s.join s.after s.pl 0 s.cls s.treat s.list s.sets
        cases hcs : joinS s.sets r with
        | inr e =>
          rw [hcs] at hc
          refine ⟨fun e' he => ?_, fun s1 h1 => by cases h1⟩
          cases he
          rw [show pq_join_v1 t q _ _ _ _ _ _ _ _ = _ from hc]
          rfl
        | inl x =>
          obtain ⟨r1, x1, x2⟩ := x
          rw [hcs] at hc
          obtain ⟨⟨q1, y1, y2⟩, m0, m1, m2, m3⟩ := hc
          dsimp only at m1 m2 m3
          subst m2; subst m3
          refine ⟨fun e' he => (by cases he), fun s1 h1 => ?_⟩
          cases h1
          rw [m0]
          exact ⟨_, rfl, m1, rfl, i1, i2, i3, i4, i5⟩
      · simp only [if_neg c3]
        by_cases c4 : w' = [116, 114, 101, 97, 116]
        · simp only [if_pos c4]
          have hc := treatP ht k3 s.join s.after s.pl 0 s.cls s.treat s.list s.sets i1 i2
          cases hcs : treatS s.cls s.treat r with
          | inr e =>
            rw [hcs] at hc
            refine ⟨fun e' he => ?_, fun s1 h1 => by cases h1⟩
            cases he
            rw [show pq_treat_v1 t q _ _ _ _ _ _ _ _ = _ from hc]
            rfl
          | inl x =>
            obtain ⟨r1, x1⟩ := x
            rw [hcs] at hc
            obtain ⟨⟨q1, y1⟩, m0, m1, m2, m3⟩ := hc
            dsimp only at m1 m2 m3
            subst m2
            refine ⟨fun e' he => (by cases he), fun s1 h1 => ?_⟩
            cases h1
            rw [m0]
            exact ⟨_, rfl, m1, rfl, i1, by show List.length _ = _; rw [m3]; exact i2, i3, i4, i5⟩
        · simp only [if_neg c4]
          cases hd : does? w' with
          | none =>
            refine ⟨fun e' he => ?_, fun s1 h1 => by cases h1⟩
            cases he
            rfl
          | some d =>
            simp only [Option.isSome_some, if_true, Option.getD_some]
            have hc := ruleP ht (s := s) k3 hzr d n s.join s.after i3 i4 i5
            cases hcs : ruleS d n s r with
            | inr e =>
              rw [hcs] at hc
              refine ⟨fun e' he => ?_, fun s1 h1 => by cases h1⟩
              cases he
              rw [show pq_rule_v1 d n t q _ _ _ _ _ _ _ _ = _ from hc]
              rfl
            | inl x =>
              obtain ⟨r1, x1, x2⟩ := x
              rw [hcs] at hc
              obtain ⟨⟨q1, y1, y2, y3⟩, m0, m1, m2, m3, m4, m5, m6, m7⟩ := hc
              dsimp only at m1 m2 m3 m4 m5 m6 m7
              subst m2; subst m3; subst m4
              refine ⟨fun e' he => (by cases he), fun s1 h1 => ?_⟩
              cases h1
              rw [m0]
              exact ⟨_, rfl, m1, rfl, i1, i2, m5, m6, m7⟩
omit ht in
theorem classS_size : ∀ {f : Nat} {ts : Toks} {cls tr sets r c x y}, classS f ts cls tr sets = .inl (r, c, x, y) → r.size ≤ ts.size
  | 0, ts, cls, tr, sets, r, c, x, y, h => by cases h; exact Nat.le_refl _
  | f + 1, ts, cls, tr, sets, r, c, x, y, h => by
    simp only [classS] at h
    split at h
    · cases h
    · rename_i h1
      cases h
      have := signS_size h1
      simp only [if_true] at this
      omega
    · rename_i h1
      have := signS_size h1
      simp only [Bool.false_eq_true, if_false] at this
      split at h
      · cases h
      · rename_i h2
        have h3 := freshS_size h2
        split at h
        · cases h
        · have := classS_size h
          omega
omit ht in
theorem lineS_size {s s1 : PS} {w n r} (h : lineS s w n r = .inl s1) : s1.ts.size ≤ r.size := by
  unfold lineS at h
  split at h
  · split at h
    · cases h
    · rename_i h1; cases h; exact classS_size h1
  · split at h
    · split at h
      · cases h
      · rename_i h1
        cases h
        unfold setS at h1
        split at h1
        · cases h1
        · rename_i h2
          split at h1
          · cases h1
          · rename_i h3
            split at h1
            · cases h1
            · rename_i h4
              cases h1
              have := freshS_size h2
              have := wantS_size h3
              have := listS_size h4
              simp only []; omega
    · split at h
      · split at h
        · cases h
        · rename_i h1
          cases h
          unfold joinS at h1
          split at h1
          · cases h1
          · rename_i h2
            split at h1
            · cases h1
            · rename_i h3
              cases h1
              have := listS_size h2
              have := listS_size h3
              simp only []; omega
      · split at h
        · split at h
          · cases h
          · rename_i h1
            cases h
            unfold treatS at h1
            split at h1
            · cases h1
            · rename_i h2
              split at h1
              · cases h1
              · rename_i h3
                split at h1
                · cases h1
                · rename_i h4
                  split at h1
                  · cases h1
                  · rename_i h5
                    cases h1
                    have := oneS_size h2
                    have := wantS_size h3
                    have := oneS_size h4
                    have := wantS_size h5
                    simp only []; omega
        · split at h
          · cases h
          · split at h
            · cases h
            · rename_i h1
              cases h
              unfold ruleS at h1
              split at h1
              · cases h1
              · split at h1
                · cases h1
                · rename_i h2
                  split at h1
                  · cases h1
                  · rename_i h3
                    split at h1
                    · cases h1
                    · rename_i h4
                      split at h1
                      · cases h1
                      · rename_i h5
                        cases h1
                        have := eitherS_size h2
                        have := wantS_size h3
                        have := eitherS_size h4
                        have := wantS_size h5
                        simp only []; omega
theorem allP_L1 : ∀ (f : Nat) (s : PS) (p : Int), At t p s.ts → s.ts.size < f → Inv s →
    Ok (iter (pq_all_L1 t) (p, s.cls, s.join, s.after, s.treat, s.list, s.sets, s.pl, 0)) (allS f s) (RS t)
  | 0, s, p, _, h, _ => by omega
  | f + 1, s, p, h, hf, hI => by
    have hh := hereP ht h s.join s.after s.pl 0 s.cls s.treat s.list s.sets
    have hw := wordP ht h.posn s.join s.after s.pl 0 s.cls s.treat s.list s.sets
    simp only [allS]
    cases hts : s.ts with
    | bad n =>
      rw [hts] at hh
      apply iter_r
      unfold pq_all_L1
      simp only [hh]
      rfl
    | eof n =>
      rw [hts] at hh
      have hq := h.posn
      rw [hts] at hq
      refine ⟨((n : Int), s.cls, s.join, s.after, s.treat, s.list, s.sets, s.pl, 0), iter_r ?_, ?_, rfl, hI⟩
      · unfold pq_all_L1
        simp only [hh]
        rfl
      · rw [hts]; exact hq
    | sg c n r =>
      rw [hts] at hh hw
      rw [hts] at h
      obtain ⟨h1, h2, h3, h4, h5⟩ := h.sg
      apply iter_r
      unfold pq_all_L1
      simp only [hh, hereS, Option.bind_some]
      rw [if_pos (by
        simp only [bne_iff_ne, ne_eq, Toks.hd]
        intro hc
        have : c = 0 := by omega
        subst this; cases h2), show pq_word_v2 t _ _ _ _ _ _ _ _ _ = _ from hw]
      rfl
    | wd w n r =>
      obtain ⟨b1, b2⟩ := allP_body ht hts h hI
      simp only []
      cases hl : lineS s w n r with
      | inr e => exact iter_r (b1 e hl)
      | inl s1 =>
        obtain ⟨a, b3, b4, b5, b6⟩ := b2 s1 hl
        have hz := lineS_size hl
        rw [hts] at hf
        simp only [Toks.size] at hf
        rw [iter_l b3]
        obtain ⟨a1, a2⟩ := a
        dsimp only at b4 b5
        subst b5
        exact allP_L1 f s1 a1 b4 (by omega) b6
end
def parseS (t : List UInt8) : (List (List UInt8) × Int × Int × List Int × RL) ⊕ Er :=
  if t.length > 4096 then .inr (24, 4096) else match allS (t.length + 1) (init (T t 0)) with
  | .inr e => .inr e
  | .inl s => .inl (s.cls, s.join, s.after, s.treat, s.list)
def answer : ((List (List UInt8) × Int × Int × List Int × RL) ⊕ Er) → (List (List UInt8) × Int × Int × List Int × RL) × Int × Int
  | .inr e => (([], 0, 0, [], []), e)
  | .inl x => (x, 0, 0)
theorem at0 (t : List UInt8) : At t 0 (T t 0) := ⟨by omega, by omega, rfl⟩
theorem inv0 (ts : Toks) : Inv (init ts) := ⟨Nat.zero_le _, rfl, Nat.zero_le _, Int.le_refl _, by show (0 : Int) ≤ 200; decide⟩
theorem parseP (t : List UInt8) : rules_Parse t = some (answer (parseS t)) := by
  unfold rules_Parse rules_Parse_D parseS
  by_cases hl : t.length > 4096
  · rw [if_pos (by simp; omega), if_pos hl]
    rfl
  · rw [if_neg (by simp; omega), if_neg hl]
    have hz := T_size (t := t) _ 0 (Nat.le_refl _) (by omega)
    have h := allP_L1 (t := t) (by omega) (t.length + 1) (init (T t 0)) 0 (at0 t) (by show (T t 0).size < _; omega) (inv0 _)
    unfold pq_all
    cases hs : allS (t.length + 1) (init (T t 0)) with
    | inr e =>
      rw [hs] at h
      obtain ⟨e1, e2⟩ := e
      rw [show iter (pq_all_L1 t) (0, [], 0, 0, [], [], [], 0, 0) = _ from h]
      rfl
    | inl s =>
      rw [hs] at h
      obtain ⟨⟨a1, a2⟩, h1, h2, h3, h4⟩ := h
      dsimp only at h2 h3
      subst h3
      rw [show iter (pq_all_L1 t) (0, [], 0, 0, [], [], [], 0, 0) = _ from h1]
      rfl
end Go.Proofs.Ytjfjigknkhgkdaa.T
