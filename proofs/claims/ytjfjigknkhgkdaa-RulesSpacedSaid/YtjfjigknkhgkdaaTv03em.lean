/- Pieces: the next one, words and signs, as both parsers take them. -/
import Derived.Test.YtjfjigknkhgkdaaTvYm
namespace Go.Proofs.Ytjfjigknkhgkdaa.T
open Go Go.Tv Go.Proofs
abbrev isL (x : UInt8) : Bool := letN x.toNat
theorem T_at {t : List UInt8} {a : Nat} (h : a < t.length) (hp : (T t a).pos = a) : T t a =
    if letN (t.getD a 0).toNat then .wd ((t.drop a).takeWhile isL) a (T t (a + ((t.drop a).takeWhile isL).length))
    else if sgnN (t.getD a 0).toNat then .sg (t.getD a 0).toNat a (T t (a + 1))
    else .bad a := by
  have e := T_step h
  by_cases h35 : (t.getD a 0).toNat = 35
  · exfalso
    have eh := T_hash h h35
    rcases idxB_cases (t.drop a) 0 (by omega) with ⟨_, e⟩ | ⟨j, hj, _, hj3, e⟩
    · rw [eh, e, List.length_drop] at hp
      simp only [Toks.pos] at hp
      omega
    · rw [List.length_drop] at hj
      have hg : (t.drop a).getD j 0 = t.getD (a + j) 0 := by simp [List.getD_eq_getElem?_getD]
      rw [hg] at hj3
      have h0 : j ≠ 0 := by rintro rfl; simp only [Nat.add_zero] at hj3; omega
      rw [eh, e, List.drop_drop] at hp
      have := (T_pos t _ (a + j) (Nat.le_refl _) (by omega)).1
      change (T t (a + j)).pos = a at hp
      omega
  · rw [if_neg h35] at e
    by_cases hb : blaN (t.getD a 0).toNat = true
    · exfalso
      rw [if_pos hb] at e
      rw [e] at hp
      have := (T_pos t _ (a + 1) (Nat.le_refl _) (by omega)).1
      omega
    · rw [if_neg hb] at e
      exact e
theorem T_wd {t : List UInt8} {n : Nat} {w r} (h : At t n (.wd w n r)) : n < t.length ∧ letN (t.getD n 0).toNat = true ∧ w = (t.drop n).takeWhile isL ∧ r = T t (n + w.length) := by
  obtain ⟨h1, h2, h3⟩ := h
  rw [Int.toNat_natCast] at h3
  rcases Nat.lt_or_ge n t.length with hl | hl
  · have e := T_at hl (by rw [h3]; rfl)
    rw [h3] at e
    by_cases hc : letN (t.getD n 0).toNat = true
    · rw [if_pos hc] at e
      injection e with e1 e2 e3
      exact ⟨hl, hc, e1, by rw [e3, e1]⟩
    · rw [if_neg hc] at e
      split at e <;> cases e
  · rw [T_end hl] at h3; cases h3
theorem T_sg {t : List UInt8} {n c : Nat} {r} (h : At t n (.sg c n r)) : n < t.length ∧ letN c = false ∧ sgnN c = true ∧ c < 256 ∧ r = T t (n + 1) := by
  obtain ⟨h1, h2, h3⟩ := h
  rw [Int.toNat_natCast] at h3
  rcases Nat.lt_or_ge n t.length with hl | hl
  · have e := T_at hl (by rw [h3]; rfl)
    rw [h3] at e
    by_cases hc : letN (t.getD n 0).toNat = true
    · rw [if_pos hc] at e; cases e
    · rw [if_neg hc] at e
      by_cases hs : sgnN (t.getD n 0).toNat = true
      · rw [if_pos hs] at e
        injection e with e1 e2 e3
        exact ⟨hl, by rw [e1]; simpa using hc, by rw [e1]; exact hs, by rw [e1]; exact u8_lt _, e3⟩
      · rw [if_neg hs] at e; cases e
  · rw [T_end hl] at h3; cases h3
theorem At.wd {t : List UInt8} {p : Int} {w n r} (h : At t p (.wd w n r)) : letN ((w.headD 0).toNat) = true ∧ w = (t.drop n).takeWhile isL ∧ n + w.length ≤ t.length ∧ At t ((n + w.length : Nat) : Int) r ∧ 1 ≤ w.length := by
  obtain ⟨h1, h2, h3, h4⟩ := T_wd (show At t (n : Int) _ from h.posn)
  have hw : w = t.getD n 0 :: (t.drop (n + 1)).takeWhile isL := by
    rw [h3, drop_cons' (d := 0) h1, List.takeWhile_cons, if_pos h2]
  have hle : w.length ≤ t.length - n := by
    rw [h3, ← List.length_drop]; exact (List.takeWhile_prefix _).length_le
  refine ⟨by rw [hw]; exact h2, h3, by omega, ⟨by omega, by omega, by rw [Int.toNat_natCast]; exact h4.symm⟩, by rw [hw]; simp⟩
theorem At.sg {t : List UInt8} {p : Int} {c n r} (h : At t p (.sg c n r)) : letN c = false ∧ sgnN c = true ∧ c < 256 ∧ At t ((n : Int) + 1) r ∧ n < t.length := by
  obtain ⟨h1, h2, h3, h4, h5⟩ := T_sg (show At t (n : Int) _ from h.posn)
  refine ⟨h2, h3, h4, ⟨by omega, by omega, ?_⟩, h1⟩
  rw [show ((n : Int) + 1).toNat = n + 1 by omega]; exact h5.symm
theorem tw_step {t : List UInt8} {a : Nat} (h : a < t.length) : ((t.drop a).takeWhile isL).length = if letN (t.getD a 0).toNat then ((t.drop (a + 1)).takeWhile isL).length + 1 else 0 := by
  rw [drop_cons' (d := 0) h, List.takeWhile_cons]
  split <;> simp
theorem wordP_L1 {t : List UInt8} (ht : t.length ≤ 10000) : ∀ (m a : Nat), t.length - a ≤ m → a ≤ t.length → iter (pq_word_v2_L1 t) (a : Int) = some ((a + ((t.drop a).takeWhile isL).length : Nat) : Int) := by
  intro m
  have hend : ∀ a : Nat, a = t.length → iter (pq_word_v2_L1 t) (a : Int) = some ((a + ((t.drop a).takeWhile isL).length : Nat) : Int) := fun a h => by
    rw [List.drop_eq_nil_of_le (by omega)]
    apply iter_r
    unfold pq_word_v2_L1
    rw [if_neg (by simp; omega)]
    rfl
  induction m with
  | zero => intro a h1 h2; exact hend a (by omega)
  | succ m ih =>
    intro a h1 h2
    rcases Nat.lt_or_ge a t.length with h | h
    · have c1 : decide ((a : Int) < (t.length : Int)) = true := by simp; omega
      have c2 : 0 ≤ (a : Int) ∧ (a : Int) < (t.length : Int) := ⟨by omega, by omega⟩
      have e := tw_step h
      by_cases hl : letN (t.getD a 0).toNat = true
      · have hb : pq_word_v2_L1 t (a : Int) = some (.inl ((a + 1 : Nat) : Int)) := by
          unfold pq_word_v2_L1
          rw [if_pos c1, if_pos c2, Int.toNat_natCast, rlet, hl]
          simp only [Option.bind_some]
          rw [if_pos trivial, wrap_i64 (by omega) (by omega)]
          rfl
        rw [iter_l hb, ih (a + 1) (by omega) (by omega), e, if_pos hl]
        congr 2; omega
      · rw [e, if_neg hl]
        apply iter_r
        unfold pq_word_v2_L1
        rw [if_pos c1, if_pos c2, Int.toNat_natCast, rlet]
        simp only [Option.bind_some]
        rw [if_neg hl]
        rfl
    · exact hend a (by omega)
def Ok {A B : Type} (x : Option (A ⊕ Er)) (y : B ⊕ Er) (R : A → B → Prop) : Prop := match y with
  | .inr e => x = some (.inr e)
  | .inl b => ∃ a, x = some (.inl a) ∧ R a b
def wordS : Toks → (List UInt8 × Int × Toks) ⊕ Er
  | .bad n => .inr (20, n)
  | .wd w n r => .inl (w, n, r)
  | .eof n => .inr (21, n)
  | .sg _ n _ => .inr (21, n)
def signS (c : Nat) : Toks → (Bool × Toks) ⊕ Er
  | .bad n => .inr (20, n)
  | .sg d n r => if d = c then .inl (true, r) else .inl (false, .sg d n r)
  | ts => .inl (false, ts)
def wantS (c : Nat) : Toks → Toks ⊕ Er
  | .bad n => .inr (20, n)
  | .sg d n r => if d = c then .inl r else .inr (21, n)
  | ts => .inr (21, ts.pos)
theorem take_drop_word {t : List UInt8} {n : Nat} {w : List UInt8} (hw : w = (t.drop n).takeWhile isL) : (t.take (n + w.length)).drop n = w := by
  rw [List.drop_take, show n + w.length - n = w.length by omega, hw]
  exact (List.prefix_iff_eq_take.mp (List.takeWhile_prefix _)).symm
theorem wordP {t : List UInt8} (ht : t.length ≤ 10000) {p : Int} {ts : Toks} (h : At t p ts) (d3 d4 d5 d6 o1 o2 o3 o4) : Ok (pq_word_v2 t p d3 d4 d5 d6 o1 o2 o3 o4) (wordS ts) (fun a b => a.1 = b.1 ∧ a.2.1 = b.2.1 ∧ At t a.2.2 b.2.2) := by
  unfold pq_word_v2
  rw [hereP ht h]
  simp only [Option.bind_some]
  have hq := h.posn
  cases ts with
  | bad n => rfl
  | eof n =>
    simp only [hereS, Toks.hd, Toks.pos, wordS, Ok]
    rw [(byte_all (show 0 < 256 by decide)).1]
    rfl
  | sg c n r =>
    obtain ⟨h1, h2, h3, h4, h5⟩ := h.sg
    simp only [hereS, Toks.hd, Toks.pos, wordS, Ok]
    rw [(byte_all h3).1, h1]
    rfl
  | wd w n r =>
    obtain ⟨h1, h2, h3, h4, h5⟩ := h.wd
    simp only [hereS, Toks.hd, Toks.pos, wordS, Ok]
    rw [rlet, h1]
    simp only [Option.bind_some]
    rw [if_neg (by simp), wordP_L1 ht _ n (Nat.le_refl _) (by omega), ← h2]
    simp only [Option.bind_some]
    rw [if_pos ⟨by omega, by omega, by omega⟩]
    refine ⟨_, rfl, ?_, rfl, h4⟩
    simp only [Int.toNat_natCast]
    exact take_drop_word h2
theorem signP {t : List UInt8} (ht : t.length ≤ 10000) {c : Nat} (hc : letN c = false) (hc0 : c ≠ 0) {p : Int} {ts : Toks} (h : At t p ts) (d3 d4 d5 d6 o1 o2 o3 o4) : Ok (pq_sign_v2 (c : Int) t p d3 d4 d5 d6 o1 o2 o3 o4) (signS c ts) (fun a b => a.1 = b.1 ∧ At t a.2 b.2 ∧ (a.1 = false → a.2 = b.2.pos)) := by
  unfold pq_sign_v2
  rw [hereP ht h]
  simp only [Option.bind_some]
  have hq := h.posn
  cases ts with
  | bad n => rfl
  | eof n =>
    simp only [hereS, Toks.hd, Toks.pos, signS, Ok]
    rw [if_pos (by simp; omega)]
    exact ⟨_, rfl, rfl, hq, fun _ => rfl⟩
  | sg d n r =>
    obtain ⟨h1, h2, h3, h4, h5⟩ := h.sg
    simp only [hereS, Toks.hd, Toks.pos, signS]
    by_cases hd : d = c
    · rw [if_neg (by simp [hd]), if_pos hd, wrap_i64 (by omega) (by omega)]
      exact ⟨_, rfl, rfl, h4, fun h => by cases h⟩
    · rw [if_pos (by simp; omega), if_neg hd]
      exact ⟨_, rfl, rfl, hq, fun _ => rfl⟩
  | wd w n r =>
    obtain ⟨h1, h2, h3, h4, h5⟩ := h.wd
    simp only [hereS, Toks.hd, Toks.pos, signS, Ok]
    rw [if_pos (by
      simp only [bne_iff_ne, ne_eq]
      intro hh
      have : (w.headD 0).toNat = c := by omega
      rw [this, hc] at h1; cases h1)]
    exact ⟨_, rfl, rfl, hq, fun _ => rfl⟩
theorem wantP {t : List UInt8} (ht : t.length ≤ 10000) {c : Nat} (hc : letN c = false) (hc0 : c ≠ 0) {p : Int} {ts : Toks} (h : At t p ts) (d3 d4 d5 d6 o1 o2 o3 o4) : Ok (pq_want_v1 (c : Int) t p d3 d4 d5 d6 o1 o2 o3 o4) (wantS c ts) (fun a b => At t a b) := by
  have hs := signP ht hc hc0 h d3 d4 d5 d6 o1 o2 o3 o4
  unfold pq_want_v1
  cases ts with
  | bad n => rw [show pq_sign_v2 (c : Int) t p d3 d4 d5 d6 o1 o2 o3 o4 = _ from hs]; rfl
  | eof n =>
    obtain ⟨⟨b, q⟩, h1, h2, h3, h4⟩ := hs
    cases (show b = false from h2)
    cases (show q = _ from h4 rfl)
    rw [h1]; rfl
  | sg d n r =>
    by_cases hd : d = c
    · simp only [signS, if_pos hd] at hs
      obtain ⟨⟨b, q⟩, h1, h2, h3, h4⟩ := hs
      cases (show b = true from h2)
      simp only [wantS, if_pos hd]
      rw [h1]; exact ⟨_, rfl, h3⟩
    · simp only [signS, if_neg hd] at hs
      obtain ⟨⟨b, q⟩, h1, h2, h3, h4⟩ := hs
      cases (show b = false from h2)
      cases (show q = _ from h4 rfl)
      simp only [wantS, if_neg hd]
      rw [h1]; rfl
  | wd w n r =>
    obtain ⟨⟨b, q⟩, h1, h2, h3, h4⟩ := hs
    cases (show b = false from h2)
    cases (show q = _ from h4 rfl)
    rw [h1]; rfl
end Go.Proofs.Ytjfjigknkhgkdaa.T
namespace Go.Proofs.Ytjfjigknkhgkdaa.T
open Go Go.Tv Go.Proofs
abbrev Sets := List (List UInt8 × Int)
abbrev look (sets : Sets) (w : List UInt8) : Option Int := mfind .str sets w
def wholeI (n : Nat) : Int := IntKind.u32.wrap ((IntKind.u32.wrap ((1 : Int) * 2 ^ (min (n : Int).toNat IntKind.u32.bits))) - (1 : Int))
def bitI (n : Nat) : Int := IntKind.u32.wrap ((1 : Int) * 2 ^ (min (n : Int).toNat IntKind.u32.bits))
def freshS (sets : Sets) (ts : Toks) : (List UInt8 × Int × Toks) ⊕ Er := match wordS ts with
  | .inr e => .inr e
  | .inl (w, n, r) => match look sets w with
    | some _ => .inr (23, n)
    | none => .inl (w, n, r)
def namedS (sets : Sets) (ts : Toks) : (Int × Toks) ⊕ Er := match wordS ts with
  | .inr e => .inr e
  | .inl (w, n, r) => match look sets w with
    | some b => .inl (b, r)
    | none => .inr (22, n)
def place (cls : List (List UInt8)) (w : List UInt8) : Nat := firstN (fun i => cls.getD i [] == w) cls.length
def oneS (cls : List (List UInt8)) (ts : Toks) : (Int × Toks) ⊕ Er := match wordS ts with
  | .inr e => .inr e
  | .inl (w, n, r) => if place cls w < cls.length then .inl ((place cls w : Int), r) else .inr (22, n)
def listS (c : Nat) (sets : Sets) : Toks → Int → (Int × Toks) ⊕ Er
  | .bad n, _ => .inr (20, n)
  | .eof n, _ => .inr (21, n)
  | .sg d n r, b => if d = c then .inl (b, r) else .inr (21, n)
  | .wd w n r, b => match look sets w with
    | some x => listS c sets r (bitsOf .or .u32 b x)
    | none => .inr (22, n)
abbrev TR := (Tree × Toks × Int) ⊕ Er
def isTh : Toks → Bool
  | .wd _ _ _ => true
  | .sg d _ _ => d == 40 || d == 91 || d == 46
  | _ => false
def thingS (E : Option (Int → Toks → TR)) (wh : Int) (sets : Sets) (pl : Int) : Toks → TR
  | .bad n => .inr (20, n)
  | .eof n => .inr (21, n)
  | .wd w n r => if pl + 1 > 200 then .inr (26, n) else match look sets w with
    | none => .inr (22, n)
    | some b => .inl (.node 1 b [], r, pl + 1)
  | .sg d n r =>
    if d = 40 then match E with
      | none => .inr (25, n)
      | some f => match f pl r with
        | .inr e => .inr e
        | .inl (x, r1, pl1) => match wantS 41 r1 with
          | .inr e => .inr e
          | .inl r2 => .inl (x, r2, pl1)
    else if pl + 1 > 200 then .inr (26, n)
    else if d = 46 then .inl (.node 1 wh [], r, pl + 1)
    else match signS 94 r with
      | .inr e => .inr e
      | .inl (neg, r1) => match listS 93 sets r1 0 with
        | .inr e => .inr e
        | .inl (b, r2) => .inl (.node 1 (if neg then bitsOf .andNot .u32 wh b else b) [], r2, pl + 1)
def oftenS (E : Option (Int → Toks → TR)) (wh : Int) (sets : Sets) (pl : Int) (ts : Toks) : TR := match thingS E wh sets pl ts with
  | .inr e => .inr e
  | .inl (x, r, pl1) => match r with
    | .bad n => .inr (20, n)
    | .sg d n r1 => if d = 42 then .inl (.node 4 0 [x], r1, pl1) else if d = 43 then .inl (.node 5 0 [x], r1, pl1) else if d = 63 then .inl (.node 6 0 [x], r1, pl1) else .inl (x, .sg d n r1, pl1)
    | .eof n => .inl (x, .eof n, pl1)
    | .wd w n r1 => .inl (x, .wd w n r1, pl1)
def rowS (E : Option (Int → Toks → TR)) (wh : Int) (sets : Sets) : Nat → Toks → Int → List Tree → (List Tree × Toks × Int) ⊕ Er
  | 0, ts, pl, acc => .inl (acc, ts, pl)
  | f + 1, ts, pl, acc => match hereS ts with
    | .inr e => .inr e
    | .inl _ => if isTh ts then match oftenS E wh sets pl ts with
        | .inr e => .inr e
        | .inl (x, r, pl1) => rowS E wh sets f r pl1 (acc ++ [x])
      else .inl (acc, ts, pl)
def rowOf : List Tree → Tree
  | [] => .node 0 0 []
  | [x] => x
  | l => .node 2 0 l
def altOf : List Tree → Tree
  | [x] => x
  | l => .node 3 0 l
def rowT (E : Option (Int → Toks → TR)) (wh : Int) (sets : Sets) (pl : Int) (ts : Toks) : TR := match rowS E wh sets (ts.size + 1) ts pl [] with
  | .inr e => .inr e
  | .inl (l, r, pl1) => .inl (rowOf l, r, pl1)
def altS (E : Option (Int → Toks → TR)) (wh : Int) (sets : Sets) : Nat → Toks → Int → List Tree → (List Tree × Toks × Int) ⊕ Er
  | 0, ts, pl, acc => .inl (acc, ts, pl)
  | f + 1, ts, pl, acc => match signS 124 ts with
    | .inr e => .inr e
    | .inl (false, r) => .inl (acc, r, pl)
    | .inl (true, r) => match rowT E wh sets pl r with
      | .inr e => .inr e
      | .inl (x, r1, pl1) => altS E wh sets f r1 pl1 (acc ++ [x])
def eithS (E : Option (Int → Toks → TR)) (wh : Int) (sets : Sets) (pl : Int) (ts : Toks) : TR := match rowT E wh sets pl ts with
  | .inr e => .inr e
  | .inl (x, r, pl1) => match altS E wh sets (r.size + 1) r pl1 [x] with
    | .inr e => .inr e
    | .inl (l, r1, pl2) => .inl (altOf l, r1, pl2)
def eitherS (wh : Int) (sets : Sets) : Nat → Int → Toks → TR
  | 0 => eithS none wh sets
  | d + 1 => eithS (some (eitherS wh sets d)) wh sets
abbrev RL := List (Int × Tree × Tree)
structure PS where
  ts : Toks
  cls : List (List UInt8)
  join : Int
  after : Int
  treat : List Int
  list : RL
  sets : Sets
  pl : Int
def classS : Nat → Toks → List (List UInt8) → List Int → Sets → (Toks × List (List UInt8) × List Int × Sets) ⊕ Er
  | 0, ts, cls, tr, sets => .inl (ts, cls, tr, sets)
  | f + 1, ts, cls, tr, sets => match signS 59 ts with
    | .inr e => .inr e
    | .inl (true, r) => .inl (r, cls, tr, sets)
    | .inl (false, r) => match freshS sets r with
      | .inr e => .inr e
      | .inl (w, n, r1) => if cls.length ≥ 24 then .inr (24, n) else classS f r1 (cls ++ [w]) (tr ++ [(cls.length : Int)]) (sets ++ [(w, bitI cls.length)])
def setS (sets : Sets) (ts : Toks) : (Toks × Sets) ⊕ Er := match freshS sets ts with
  | .inr e => .inr e
  | .inl (w, _, r) => match wantS 61 r with
    | .inr e => .inr e
    | .inl r1 => match listS 59 sets r1 0 with
      | .inr e => .inr e
      | .inl (b, r2) => .inl (r2, sets ++ [(w, b)])
def joinS (sets : Sets) (ts : Toks) : (Toks × Int × Int) ⊕ Er := match listS 47 sets ts 0 with
  | .inr e => .inr e
  | .inl (b, r) => match listS 59 sets r 0 with
    | .inr e => .inr e
    | .inl (c, r1) => .inl (r1, b, c)
def treatS (cls : List (List UInt8)) (tr : List Int) (ts : Toks) : (Toks × List Int) ⊕ Er := match oneS cls ts with
  | .inr e => .inr e
  | .inl (a, r) => match wantS 61 r with
    | .inr e => .inr e
    | .inl r1 => match oneS cls r1 with
      | .inr e => .inr e
      | .inl (b, r2) => match wantS 59 r2 with
        | .inr e => .inr e
        | .inl r3 => .inl (r3, tr.set a.toNat b)
def ruleS (does : Int) (n : Int) (s : PS) (ts : Toks) : (Toks × RL × Int) ⊕ Er :=
  if s.list.length ≥ 24 then .inr (24, n) else match eitherS (wholeI s.cls.length) s.sets 16 s.pl ts with
  | .inr e => .inr e
  | .inl (x, r, pl1) => match wantS 47 r with
    | .inr e => .inr e
    | .inl r1 => match eitherS (wholeI s.cls.length) s.sets 16 pl1 r1 with
      | .inr e => .inr e
      | .inl (y, r2, pl2) => match wantS 59 r2 with
        | .inr e => .inr e
        | .inl r3 => .inl (r3, s.list ++ [(does, x, y)], pl2)
def does? (w : List UInt8) : Option Int :=
  if w = [107, 101, 101, 112] then some 0 else if w = [109, 97, 121] then some 1 else if w = [109, 117, 115, 116] then some 2 else none
def lineS (s : PS) (w : List UInt8) (n : Int) (ts : Toks) : PS ⊕ Er :=
  if w = [99, 108, 97, 115, 115] then match classS (ts.size + 1) ts s.cls s.treat s.sets with
    | .inr e => .inr e
    | .inl (r, c, t, st) => .inl { s with ts := r, cls := c, treat := t, sets := st }
  else if w = [115, 101, 116] then match setS s.sets ts with
    | .inr e => .inr e
    | .inl (r, st) => .inl { s with ts := r, sets := st }
  else if w = [106, 111, 105, 110] then match joinS s.sets ts with
    | .inr e => .inr e
    | .inl (r, b, c) => .inl { s with ts := r, join := bitsOf .or .u32 s.join b, after := bitsOf .or .u32 s.after c }
  else if w = [116, 114, 101, 97, 116] then match treatS s.cls s.treat ts with
    | .inr e => .inr e
    | .inl (r, t) => .inl { s with ts := r, treat := t }
  else match does? w with
    | none => .inr (21, n)
    | some d => match ruleS d n s ts with
      | .inr e => .inr e
      | .inl (r, l, pl) => .inl { s with ts := r, list := l, pl := pl }
def allS : Nat → PS → PS ⊕ Er
  | 0, s => .inl s
  | f + 1, s => match s.ts with
    | .bad n => .inr (20, n)
    | .eof _ => .inl s
    | .sg _ n _ => .inr (21, n)
    | .wd w n r => match lineS s w n r with
      | .inr e => .inr e
      | .inl s1 => allS f s1
def init (ts : Toks) : PS := ⟨ts, [], 0, 0, [], [], [], 0⟩
/-! Sizes: what is taken. -/
theorem wordS_size {ts : Toks} {w n r} (h : wordS ts = .inl (w, n, r)) : r.size + 1 = ts.size := by
  cases ts <;> simp only [wordS] at h <;> cases h
  rfl
theorem signS_size {c : Nat} {ts : Toks} {b r} (h : signS c ts = .inl (b, r)) : r.size + (if b then 1 else 0) = ts.size := by
  cases ts with
  | bad n => cases h
  | eof n => cases h; rfl
  | wd w n r => cases h; rfl
  | sg d n r =>
    simp only [signS] at h
    split at h <;> cases h <;> rfl
theorem wantS_size {c : Nat} {ts r : Toks} (h : wantS c ts = .inl r) : r.size + 1 = ts.size := by
  cases ts with
  | bad n => cases h
  | eof n => cases h
  | wd w n r => cases h
  | sg d n r =>
    simp only [wantS] at h
    split at h <;> cases h
    rfl
theorem freshS_size {sets : Sets} {ts : Toks} {w n r} (h : freshS sets ts = .inl (w, n, r)) : r.size + 1 = ts.size := by
  unfold freshS at h
  split at h
  · cases h
  · split at h <;> cases h
    exact wordS_size (by assumption)
theorem oneS_size {cls} {ts : Toks} {b r} (h : oneS cls ts = .inl (b, r)) : r.size + 1 = ts.size := by
  unfold oneS at h
  split at h
  · cases h
  · split at h <;> cases h
    exact wordS_size (by assumption)
theorem listS_size {c : Nat} {sets : Sets} : ∀ {ts : Toks} {b x r}, listS c sets ts b = .inl (x, r) → r.size + 1 ≤ ts.size
  | .bad n, b, x, r, h => by cases h
  | .eof n, b, x, r, h => by cases h
  | .sg d n r', b, x, r, h => by
    simp only [listS] at h
    split at h <;> cases h
    exact Nat.le_refl _
  | .wd w n r', b, x, r, h => by
    simp only [listS] at h
    split at h
    · have := listS_size h
      simp only [Toks.size]; omega
    · cases h
def Less (E : Option (Int → Toks → TR)) : Prop := ∀ f, E = some f → ∀ pl ts x r pl1, f pl ts = .inl (x, r, pl1) → r.size ≤ ts.size
theorem thingS_size {E wh sets} (hE : Less E) {pl : Int} {ts : Toks} {x r pl1} (h : thingS E wh sets pl ts = .inl (x, r, pl1)) : r.size + 1 ≤ ts.size := by
  cases ts with
  | bad n => cases h
  | eof n => cases h
  | wd w n r' =>
    simp only [thingS] at h
    split at h
    · cases h
    · split at h <;> cases h
      simp [Toks.size]
  | sg d n r' =>
    simp only [thingS] at h
    split at h
    · split at h
      · cases h
      · rename_i f
        split at h
        · cases h
        · rename_i x1 r1 pl1 h1
          split at h
          · cases h
          · rename_i r2 h2
            cases h
            have a := hE f rfl _ _ _ _ _ h1
            have b := wantS_size h2
            simp only [Toks.size]; omega
    · split at h
      · cases h
      · split at h
        · cases h; simp [Toks.size]
        · split at h
          · cases h
          · rename_i neg r1 h1
            split at h
            · cases h
            · rename_i b r2 h2
              cases h
              have a := signS_size h1
              have b := listS_size h2
              simp only [Toks.size]
              split at a <;> omega
theorem oftenS_size {E wh sets} (hE : Less E) {pl : Int} {ts : Toks} {x r pl1} (h : oftenS E wh sets pl ts = .inl (x, r, pl1)) : r.size + 1 ≤ ts.size := by
  unfold oftenS at h
  split at h
  · cases h
  · rename_i x1 r1 p1 h1
    have a := thingS_size hE h1
    split at h
    · cases h
    · rename_i d n r2
      simp only [Toks.size] at a
      split at h
      · cases h; omega
      · split at h
        · cases h; omega
        · split at h <;> cases h
          · omega
          · simp only [Toks.size]; omega
    · cases h; exact a
    · cases h; exact a
theorem rowS_size {E wh sets} (hE : Less E) : ∀ {f : Nat} {ts : Toks} {pl acc l r pl1}, rowS E wh sets f ts pl acc = .inl (l, r, pl1) → r.size ≤ ts.size
  | 0, ts, pl, acc, l, r, pl1, h => by cases h; exact Nat.le_refl _
  | f + 1, ts, pl, acc, l, r, pl1, h => by
    simp only [rowS] at h
    split at h
    · cases h
    · split at h
      · split at h
        · cases h
        · rename_i h1
          have a := oftenS_size hE h1
          have b := rowS_size hE h
          omega
      · cases h; exact Nat.le_refl _
theorem rowT_size {E wh sets} (hE : Less E) {pl ts x r pl1} (h : rowT E wh sets pl ts = .inl (x, r, pl1)) : r.size ≤ ts.size := by
  unfold rowT at h
  split at h
  · cases h
  · rename_i h1
    cases h
    exact rowS_size hE h1
theorem altS_size {E wh sets} (hE : Less E) : ∀ {f : Nat} {ts : Toks} {pl acc l r pl1}, altS E wh sets f ts pl acc = .inl (l, r, pl1) → r.size ≤ ts.size
  | 0, ts, pl, acc, l, r, pl1, h => by cases h; exact Nat.le_refl _
  | f + 1, ts, pl, acc, l, r, pl1, h => by
    simp only [altS] at h
    split at h
    · cases h
    · rename_i h1
      cases h
      have := signS_size h1
      simp only [Bool.false_eq_true, if_false] at this
      omega
    · rename_i h1
      have a := signS_size h1
      simp only [if_true] at a
      split at h
      · cases h
      · rename_i h2
        have b := rowT_size hE h2
        have c := altS_size hE h
        omega
theorem eithS_size {E wh sets} (hE : Less E) {pl ts x r pl1} (h : eithS E wh sets pl ts = .inl (x, r, pl1)) : r.size ≤ ts.size := by
  unfold eithS at h
  split at h
  · cases h
  · rename_i h1
    split at h
    · cases h
    · rename_i h2
      cases h
      have a := rowT_size hE h1
      have b := altS_size hE h2
      omega
theorem less_none : Less none := fun f h => by cases h
theorem eitherS_size {wh sets} : ∀ {d : Nat} {pl ts x r pl1}, eitherS wh sets d pl ts = .inl (x, r, pl1) → r.size ≤ ts.size
  | 0, _, _, _, _, _, h => eithS_size less_none h
  | d + 1, _, _, _, _, _, h => eithS_size (fun f hf => by cases hf; exact fun pl ts x r pl1 h => eitherS_size h) h
theorem less_some {wh sets d} : Less (some (eitherS wh sets d)) := fun f hf => by cases hf; exact fun pl ts x r pl1 h => eitherS_size h
theorem T_size {t : List UInt8} : ∀ (m a : Nat), t.length - a ≤ m → a ≤ t.length → (T t a).size ≤ t.length - a := by
  intro m
  induction m with
  | zero => intro a h1 h2; rw [T_end (by omega)]; exact Nat.zero_le _
  | succ m ih =>
    intro a h1 h2
    have hq : At t ((T t a).pos : Int) (T t a) := At.posn (p := (a : Int)) ⟨by omega, by omega, by rw [Int.toNat_natCast]⟩
    have hp := T_pos t _ a (Nat.le_refl _) h2
    generalize hts : T t a = ts at hq hp ⊢
    cases ts with
    | bad n => exact Nat.zero_le _
    | eof n => exact Nat.zero_le _
    | wd w n r =>
      obtain ⟨_, _, b3, b4, b5⟩ := hq.wd
      obtain ⟨c1, c2, c3⟩ := b4
      have hn : n = (Toks.wd w n r).pos := rfl
      have ha : a ≤ n := hp.1
      have := ih (n + w.length) (by omega) (by omega)
      rw [Int.toNat_natCast] at c3
      rw [c3] at this
      simp only [Toks.size]; omega
    | sg c n r =>
      obtain ⟨_, _, _, b4, b5⟩ := hq.sg
      obtain ⟨c1, c2, c3⟩ := b4
      have ha : a ≤ n := hp.1
      have := ih (n + 1) (by omega) (by omega)
      rw [show ((n : Int) + 1).toNat = n + 1 by omega] at c3
      rw [c3] at this
      simp only [Toks.size]; omega
end Go.Proofs.Ytjfjigknkhgkdaa.T
