/- Stretches of rows; expressions the other way round. -/
import Derived.Test.YtnjdmbifjbahdaaTvZb
import Derived.Test.YtnjdmbifjbahdaaTvT04ya1
namespace Go.Tv
open Go
def seg (w : Wd) (i j : Nat) : Wd := (w.take j).drop i
def Et (A : Wd → Prop) (w : Wd) (x : Nat → Prop) (j : Nat) : Prop := ∃ i, i ≤ j ∧ j ≤ w.length ∧ x i ∧ A (seg w i j)
theorem seg_self (w : Wd) (i : Nat) : seg w i i = [] := by
  simp only [seg]; exact List.drop_eq_nil_of_le (by simp; omega)
theorem seg_len {w : Wd} {i j : Nat} (h : j ≤ w.length) : (seg w i j).length = j - i := by simp only [seg, List.length_drop, List.length_take]; omega
theorem seg_app {w : Wd} {i k j : Nat} (h1 : i ≤ k) (h2 : k ≤ j) : seg w i j = seg w i k ++ seg w k j := by
  simp only [seg]
  have e : w.take j = w.take k ++ (w.take j).drop k := by
    conv => lhs; rw [← List.take_append_drop k (w.take j)]
    rw [List.take_take, Nat.min_eq_left h2]
  rcases Nat.lt_or_ge w.length k with hk | hk
  · rw [List.take_of_length_le (by omega : w.length ≤ k), List.take_of_length_le (by omega : w.length ≤ j), List.drop_eq_nil_of_le (by omega : w.length ≤ k), List.append_nil]
  · conv => lhs; rw [e]
    rw [List.drop_append_of_le_length (by simp; omega)]
theorem seg_split {w u v : Wd} {i j : Nat} (hij : i ≤ j) (hj : j ≤ w.length) (h : seg w i j = u ++ v) : ∃ k, i ≤ k ∧ k ≤ j ∧ u = seg w i k ∧ v = seg w k j := by
  have hl := seg_len (i := i) hj
  rw [h, List.length_append] at hl
  have h2 := seg_app (w := w) (i := i) (k := i + u.length) (j := j) (by omega) (by omega)
  rw [h] at h2
  have h3 : (seg w i (i + u.length)).length = u.length := by rw [seg_len (by omega)]; omega
  obtain ⟨e1, e2⟩ := List.append_inj h2 (by omega)
  exact ⟨i + u.length, by omega, by omega, e1, e2⟩
theorem seg_one {w : Wd} {i : Nat} (h : i < w.length) : seg w i (i + 1) = [w.getD i 0] := by
  simp only [seg]
  rw [take_succ' (d := 0) h, List.drop_append_of_le_length (by simp; omega), List.drop_eq_nil_of_le (by simp; omega)]
  rfl
theorem seg_full (w : Wd) (i : Nat) : seg w i w.length = w.drop i := by simp [seg]
section
variable {A B : Wd → Prop} {w : Wd} {x y : Nat → Prop} {j : Nat}
theorem Et.mono (h : ∀ i, x i → y i) : Et A w x j → Et A w y j := fun ⟨i, h1, h2, h3, h4⟩ => ⟨i, h1, h2, h _ h3, h4⟩
theorem Et.imp (h : ∀ u, A u → B u) : Et A w x j → Et B w x j := fun ⟨i, h1, h2, h3, h4⟩ => ⟨i, h1, h2, h3, h _ h4⟩
theorem Et.congr (h : ∀ u, A u ↔ B u) : Et A w x j ↔ Et B w x j := ⟨Et.imp fun u => (h u).1, Et.imp fun u => (h u).2⟩
theorem Et.eps (hj : j ≤ w.length) : Et (fun u => u = []) w x j ↔ x j := by
  constructor
  · rintro ⟨i, h1, h2, h3, h4⟩
    have := seg_len (i := i) h2
    rw [h4] at this
    have : i = j := by simp at this; omega
    exact this ▸ h3
  · exact fun h => ⟨j, Nat.le_refl _, hj, h, seg_self _ _⟩
theorem Et.or : Et (fun u => A u ∨ B u) w x j ↔ Et A w x j ∨ Et B w x j := by
  constructor
  · rintro ⟨i, h1, h2, h3, h4 | h4⟩
    · exact .inl ⟨i, h1, h2, h3, h4⟩
    · exact .inr ⟨i, h1, h2, h3, h4⟩
  · rintro (⟨i, h1, h2, h3, h4⟩ | ⟨i, h1, h2, h3, h4⟩)
    · exact ⟨i, h1, h2, h3, .inl h4⟩
    · exact ⟨i, h1, h2, h3, .inr h4⟩
theorem Et.no : ¬ Et (fun _ => False) w x j := fun ⟨_, _, _, _, h⟩ => h
theorem Et.cat : Et (Cat A B) w x j ↔ Et B w (Et A w x) j := by
  constructor
  · rintro ⟨i, h1, h2, h3, u, v, h4, h5, h6⟩
    obtain ⟨k, k1, k2, rfl, rfl⟩ := seg_split h1 h2 h4
    exact ⟨k, k2, h2, ⟨i, k1, by omega, h3, h5⟩, h6⟩
  · rintro ⟨k, h1, h2, ⟨i, k1, k2, k3, k4⟩, h3⟩
    exact ⟨i, by omega, h2, k3, _, _, seg_app k1 h1, k4, h3⟩
theorem Et.set {s : Int} (hj : j ≤ w.length) : Et (fun u => ∃ c, u = [c] ∧ inS s c) w x j ↔ ∃ i, j = i + 1 ∧ x i ∧ inS s (w.getD i 0) := by
  constructor
  · rintro ⟨i, h1, h2, h3, c, h4, h5⟩
    have := seg_len (i := i) h2
    rw [h4] at this
    have e : j = i + 1 := by simp at this; omega
    subst e
    rw [seg_one (by omega)] at h4
    simp only [List.cons.injEq, and_true] at h4
    exact ⟨i, rfl, h3, h4 ▸ h5⟩
  · rintro ⟨i, rfl, h3, h5⟩
    exact ⟨i, by omega, hj, h3, _, seg_one (by omega), h5⟩
theorem Et.star {out : Nat → Prop} (h0 : ∀ j, x j → out j) (hs : ∀ j, Et A w out j → out j) : Et (Star A) w x j → out j := by
  rintro ⟨i, h1, h2, h3, h4⟩
  suffices hh : ∀ u, Star A u → ∀ i j, i ≤ j → j ≤ w.length → u = seg w i j → out i → out j from hh _ h4 i j h1 h2 rfl (h0 _ h3)
  intro u hu
  induction hu with
  | nil =>
    intro i j h1 h2 e ho
    have := seg_len (i := i) h2
    rw [← e] at this
    have : i = j := by simp at this; omega
    exact this ▸ ho
  | app hu hv ih =>
    intro i j h1 h2 e ho
    obtain ⟨k, k1, k2, rfl, rfl⟩ := seg_split h1 h2 e.symm
    exact ih k j k2 h2 rfl (hs k ⟨i, k1, by omega, ho, hu⟩)
theorem Et.plus {out : Nat → Prop} (h0 : ∀ j, Et A w x j → out j) (hs : ∀ j, Et A w out j → out j) (h : Et (Plus A) w x j) : out j :=
  Et.star h0 hs (Et.cat.1 h)
theorem Et.star_step (h : Et A w (Et (Star A) w x) j) : Et (Plus A) w x j := by
  obtain ⟨i, h1, h2, h3, u, v, h4, h5, h6⟩ := Et.cat.2 h
  suffices hh : ∀ u, Star A u → ∀ v, A v → Plus A (u ++ v) from ⟨i, h1, h2, h3, h4 ▸ hh u h5 v h6⟩
  intro u hu
  induction hu with
  | nil => exact fun v hv => ⟨v, [], by simp, hv, .nil⟩
  | app h1 h2 ih =>
    intro v hv
    obtain ⟨p, q, e, hp, hq⟩ := ih v hv
    exact ⟨_, _, List.append_assoc _ _ _, h1, e ▸ .app hp hq⟩
theorem Plus.star {u : Wd} (h : Plus A u) : Star A u := by obtain ⟨p, q, rfl, hp, hq⟩ := h; exact .app hp hq
theorem Et.star_iff (hj : j ≤ w.length) : Et (Star A) w x j ↔ x j ∨ Et (Plus A) w x j := by
  constructor
  · rintro ⟨i, h1, h2, h3, h4⟩
    by_cases e : seg w i j = []
    · exact .inl ((Et.eps hj).1 ⟨i, h1, h2, h3, e⟩)
    · exact .inr ⟨i, h1, h2, h3, (plus_iff e).2 h4⟩
  · rintro (h | h)
    · refine Et.imp (A := fun u => u = []) (fun u e => ?_) ((Et.eps hj).2 h)
      subst e
      exact .nil
    · exact h.imp fun u => Plus.star
end
/-! ### The other way round -/
mutual
def turnT : Tree → Tree
  | .node o s ks => .node o s (if o = 2 then (turnTs ks).reverse else turnTs ks)
def turnTs : List Tree → List Tree
  | [] => []
  | k :: ks => turnT k :: turnTs ks
end
theorem turnTs_map : ∀ ks : List Tree, turnTs ks = ks.map turnT
  | [] => by simp only [turnTs, List.map_nil]
  | k :: ks => by simp only [turnTs, List.map_cons, turnTs_map ks]
mutual
theorem turn_turn : ∀ t : Tree, turnT (turnT t) = t
  | .node o s ks => by
    simp only [turnT]
    have h := turns_turns ks
    simp only [turnTs_map] at h ⊢
    split
    · rw [List.map_reverse, List.reverse_reverse, h]
    · rw [h]
theorem turns_turns : ∀ ks : List Tree, turnTs (turnTs ks) = ks
  | [] => by simp only [turnTs]
  | k :: ks => by simp only [turnTs, turn_turn k, turns_turns ks]
end
theorem LgS_append : ∀ (xs ys : List Tree) (w : Wd), LgS (xs ++ ys) w ↔ Cat (LgS xs) (LgS ys) w
  | [], ys, w => by
    simp only [List.nil_append, LgS]
    exact ⟨fun h => ⟨[], w, rfl, rfl, h⟩, fun ⟨u, v, e, hu, hv⟩ => by cases hu; rw [e]; exact hv⟩
  | x :: xs, ys, w => by
    simp only [List.cons_append, LgS]
    constructor
    · rintro ⟨u, v, rfl, h1, h2⟩
      obtain ⟨p, q, rfl, h3, h4⟩ := (LgS_append xs ys v).1 h2
      exact ⟨u ++ p, q, by simp, ⟨u, p, rfl, h1, h3⟩, h4⟩
    · rintro ⟨p, q, rfl, h3, h4⟩
      obtain ⟨u, v, rfl, h1, h2⟩ := h3
      exact ⟨u, v ++ q, by simp, h1, (LgS_append xs ys _).2 ⟨v, q, rfl, h2, h4⟩⟩
theorem Star.rev {A B : Wd → Prop} (h : ∀ w, A w.reverse → B w) {w : Wd} (hs : Star A w) : Star B w.reverse := by
  induction hs with
  | nil => exact .nil
  | @app u v hu hv ih =>
    rw [List.reverse_append]
    exact ih.append (.one (h _ (by rw [List.reverse_reverse]; exact hu)))
theorem Star.rev_iff {A B : Wd → Prop} (h : ∀ w, A w.reverse ↔ B w) (w : Wd) : Star A w.reverse ↔ Star B w :=
  ⟨fun hs => by have := hs.rev fun w => (h w).1; rwa [List.reverse_reverse] at this, fun hs => hs.rev fun w hb => by have := (h w.reverse).2 hb; rwa [List.reverse_reverse] at this⟩
mutual
theorem Lg_turn : ∀ (t : Tree) (w : Wd), Lg (turnT t) w.reverse ↔ Lg t w
  | .node o s ks, w => by
    simp only [turnT, Lg]
    by_cases h1 : o = 1
    · rw [if_pos h1, if_pos h1]
      constructor
      · rintro ⟨c, e, hc⟩
        refine ⟨c, ?_, hc⟩
        have := congrArg List.reverse e
        simpa using this
      · rintro ⟨c, rfl, hc⟩; exact ⟨c, rfl, hc⟩
    rw [if_neg h1, if_neg h1]
    by_cases h2 : o = 2
    · rw [if_pos h2, if_pos h2, if_pos h2]; exact LgS_turn ks w
    simp only [if_neg h2]
    by_cases h3 : o = 3
    · rw [if_pos h3, if_pos h3]; exact LgA_turn ks w
    rw [if_neg h3, if_neg h3]
    by_cases h4 : o = 4
    · rw [if_pos h4, if_pos h4]; exact Star.rev_iff (LgH_turn ks) w
    rw [if_neg h4, if_neg h4]
    by_cases h5 : o = 5
    · rw [if_pos h5, if_pos h5]
      by_cases e : w = []
      · subst e
        have hh := LgH_turn ks []
        simp only [List.reverse_nil] at hh ⊢
        constructor
        · rintro ⟨u, v, e, hu, hv⟩
          obtain ⟨rfl, rfl⟩ := List.append_eq_nil_iff.1 e.symm
          exact ⟨[], [], rfl, hh.1 hu, .nil⟩
        · rintro ⟨u, v, e, hu, hv⟩
          obtain ⟨rfl, rfl⟩ := List.append_eq_nil_iff.1 e.symm
          exact ⟨[], [], rfl, hh.2 hu, .nil⟩
      · rw [plus_iff e, plus_iff (by simpa using e)]; exact Star.rev_iff (LgH_turn ks) w
    rw [if_neg h5, if_neg h5]
    by_cases h6 : o = 6
    · rw [if_pos h6, if_pos h6]; exact or_congr (by simp) (LgH_turn ks w)
    rw [if_neg h6, if_neg h6]
    simp
theorem LgS_turn : ∀ (ks : List Tree) (w : Wd), LgS (turnTs ks).reverse w.reverse ↔ LgS ks w
  | [], w => by simp only [turnTs, LgS, List.reverse_nil]; simp
  | k :: ks, w => by
    simp only [turnTs, List.reverse_cons, LgS_append]
    simp only [Cat, LgS]
    constructor
    · rintro ⟨u, v, e, hu, p, q, rfl, hp, rfl⟩
      rw [List.append_nil] at e
      have e' : w = p.reverse ++ u.reverse := by
        have := congrArg List.reverse e; simpa using this
      exact ⟨p.reverse, u.reverse, e', (Lg_turn k p.reverse).1 (by rw [List.reverse_reverse]; exact hp), (LgS_turn ks u.reverse).1 (by rw [List.reverse_reverse]; exact hu)⟩
    · rintro ⟨u, v, rfl, hu, hv⟩
      exact ⟨v.reverse, u.reverse, by simp, (LgS_turn ks v).2 hv, u.reverse, [], by simp, (Lg_turn k u).2 hu, rfl⟩
theorem LgA_turn : ∀ (ks : List Tree) (w : Wd), LgA (turnTs ks) w.reverse ↔ LgA ks w
  | [], w => by simp only [turnTs, LgA]
  | k :: ks, w => by simp only [turnTs, LgA, Lg_turn k w, LgA_turn ks w]
theorem LgH_turn : ∀ (ks : List Tree) (w : Wd), LgH (turnTs ks) w.reverse ↔ LgH ks w
  | [], w => by simp only [turnTs, LgH]
  | k :: ks, w => by simp only [turnTs, LgH, Lg_turn k w]
end
theorem LgS_one (k : Tree) (w : Wd) : LgS [k] w ↔ Lg k w := by
  simp only [LgS]
  exact ⟨fun ⟨u, v, e, h, h2⟩ => by subst h2; rw [List.append_nil] at e; exact e ▸ h, fun h => ⟨w, [], by simp, h, rfl⟩⟩
theorem LgS_snoc (ks : List Tree) (k : Tree) (w : Wd) : LgS (ks ++ [k]) w ↔ Cat (LgS ks) (Lg k) w := by
  rw [LgS_append]
  exact ⟨fun ⟨u, v, e, h, h2⟩ => ⟨u, v, e, h, (LgS_one k v).1 h2⟩, fun ⟨u, v, e, h, h2⟩ => ⟨u, v, e, h, (LgS_one k v).2 h2⟩⟩
theorem LgA_snoc : ∀ (ks : List Tree) (k : Tree) (w : Wd), LgA (ks ++ [k]) w ↔ LgA ks w ∨ Lg k w
  | [], k, w => by simp only [List.nil_append, LgA, or_false, false_or]
  | x :: xs, k, w => by simp only [List.cons_append, LgA, LgA_snoc xs k w, or_assoc]
def Tok : Nat → Tree → Prop
  | 0, _ => False
  | d + 1, t => U32 t.set ∧ t.kids.length ≤ 1000 ∧ ∀ k ∈ t.kids, Tok d k
theorem Tok.mono : ∀ {d e : Nat} {t : Tree}, d ≤ e → Tok d t → Tok e t
  | 0, _, _, _, h => h.elim
  | d + 1, 0, _, h, _ => absurd h (by omega)
  | d + 1, e + 1, t, h, ht => ⟨ht.1, ht.2.1, fun k hk => (ht.2.2 k hk).mono (by omega)⟩
end Go.Tv
namespace Go.Tv
open Go
theorem bool_eq {a b : Bool} (h : a = true ↔ b = true) : a = b := by cases a <;> cases b <;> simp at h ⊢
abbrev S4 := Int × Int × Int × Int
def W4 (s : S4) : Prop := U64 s.1 ∧ U64 s.2.1 ∧ U64 s.2.2.1 ∧ U64 s.2.2.2
def me (s : S4) (i : Nat) : Bool := bt (([s.1, s.2.1, s.2.2.1, s.2.2.2] : List Int).getD (i / 64) 0) (i % 64)
def or4 (a b : S4) : S4 := (bitsOf .or .u64 a.1 b.1, bitsOf .or .u64 a.2.1 b.2.1, bitsOf .or .u64 a.2.2.1 b.2.2.1, bitsOf .or .u64 a.2.2.2 b.2.2.2)
abbrev z4 : S4 := (0, 0, 0, 0)
theorem U64.zero : U64 0 := ⟨by decide, by decide⟩
theorem bt_zero (i : Nat) : bt 0 i = false := by simp [bt]
theorem W4.z : W4 z4 := ⟨U64.zero, U64.zero, U64.zero, U64.zero⟩
theorem four {P : Nat → Prop} (h0 : P 0) (h1 : P 1) (h2 : P 2) (h3 : P 3) {q : Nat} (h : q < 4) : P q :=
  match q, h with
  | 0, _ => h0
  | 1, _ => h1
  | 2, _ => h2
  | 3, _ => h3
theorem W4.get {s : S4} (h : W4 s) (q : Nat) : U64 (([s.1, s.2.1, s.2.2.1, s.2.2.2] : List Int).getD q 0) := by
  rcases Nat.lt_or_ge q 4 with hq | hq
  · exact four (P := fun q => U64 (([s.1, s.2.1, s.2.2.1, s.2.2.2] : List Int).getD q 0)) h.1 h.2.1 h.2.2.1 h.2.2.2 hq
  · rw [List.getD_eq_getElem?_getD, List.getElem?_eq_none (by simpa using hq)]
    exact U64.zero
theorem me_z (i : Nat) : me z4 i = false := by
  have : ([z4.1, z4.2.1, z4.2.2.1, z4.2.2.2] : List Int).getD (i / 64) 0 = 0 := by
    rcases Nat.lt_or_ge (i / 64) 4 with hq | hq
    · exact four (P := fun q => ([z4.1, z4.2.1, z4.2.2.1, z4.2.2.2] : List Int).getD q 0 = 0) rfl rfl rfl rfl hq
    · rw [List.getD_eq_getElem?_getD, List.getElem?_eq_none (by simpa using hq)]; rfl
  unfold me
  rw [this, bt_zero]
theorem me_big {s : S4} {i : Nat} (h : 256 ≤ i) : me s i = false := by
  unfold me
  rw [List.getD_eq_getElem?_getD, List.getElem?_eq_none (by simp; omega)]
  exact bt_zero _
theorem W4.or {a b : S4} (ha : W4 a) (hb : W4 b) : W4 (or4 a b) := ⟨ha.1.or hb.1, ha.2.1.or hb.2.1, ha.2.2.1.or hb.2.2.1, ha.2.2.2.or hb.2.2.2⟩
theorem me_or {a b : S4} (ha : W4 a) (hb : W4 b) (i : Nat) : me (or4 a b) i = (me a i || me b i) := by
  rcases Nat.lt_or_ge i 256 with h | h
  · unfold me
    generalize i % 64 = r
    exact four (P := fun q => bt (([(or4 a b).1, (or4 a b).2.1, (or4 a b).2.2.1, (or4 a b).2.2.2] : List Int).getD q 0) r = (bt (([a.1, a.2.1, a.2.2.1, a.2.2.2] : List Int).getD q 0) r || bt (([b.1, b.2.1, b.2.2.1, b.2.2.2] : List Int).getD q 0) r))
      (bt_or ha.1 hb.1 r) (bt_or ha.2.1 hb.2.1 r) (bt_or ha.2.2.1 hb.2.2.1 r) (bt_or ha.2.2.2 hb.2.2.2 r) (show i / 64 < 4 by omega)
  · rw [me_big h, me_big h, me_big h]; rfl
theorem me_ext {a b : S4} (ha : W4 a) (hb : W4 b) (h : ∀ i, me a i = me b i) : a = b := by
  have key : ∀ q, q < 4 → ([a.1, a.2.1, a.2.2.1, a.2.2.2] : List Int).getD q 0 = ([b.1, b.2.1, b.2.2.1, b.2.2.2] : List Int).getD q 0 := fun q hq => by
    refine bt_ext (ha.get q).1 (hb.get q).1 fun r => ?_
    rcases Nat.lt_or_ge r 64 with hr | hr
    · have := h (q * 64 + r)
      unfold me at this
      rwa [show (q * 64 + r) / 64 = q by omega, show (q * 64 + r) % 64 = r by omega] at this
    · rw [bt_lt (ha.get q) hr, bt_lt (hb.get q) hr]
  obtain ⟨a1, a2, a3, a4⟩ := a
  obtain ⟨b1, b2, b3, b4⟩ := b
  have e1 : a1 = b1 := key 0 (by decide)
  have e2 : a2 = b2 := key 1 (by decide)
  have e3 : a3 = b3 := key 2 (by decide)
  have e4 : a4 = b4 := key 3 (by decide)
  rw [e1, e2, e3, e4]
def ad4 (i : Nat) (s : S4) : S4 := or4 s (if i / 64 = 0 then ((2 ^ (i % 64) : Nat) : Int) else 0, if i / 64 = 1 then ((2 ^ (i % 64) : Nat) : Int) else 0, if i / 64 = 2 then ((2 ^ (i % 64) : Nat) : Int) else 0, if i / 64 = 3 then ((2 ^ (i % 64) : Nat) : Int) else 0)
theorem one4 (i : Nat) : W4 (if i / 64 = 0 then ((2 ^ (i % 64) : Nat) : Int) else 0, if i / 64 = 1 then ((2 ^ (i % 64) : Nat) : Int) else 0, if i / 64 = 2 then ((2 ^ (i % 64) : Nat) : Int) else 0, if i / 64 = 3 then ((2 ^ (i % 64) : Nat) : Int) else 0) := by
  have hp : U64 ((2 ^ (i % 64) : Nat) : Int) := U64.pow (Nat.mod_lt _ (by decide))
  refine ⟨?_, ?_, ?_, ?_⟩ <;> dsimp only <;> split <;> first | exact hp | exact U64.zero
theorem W4.ad {s : S4} (h : W4 s) (i : Nat) : W4 (ad4 i s) := h.or (one4 i)
theorem me_ad {s : S4} (h : W4 s) {i : Nat} (hi : i < 256) (j : Nat) : me (ad4 i s) j = (me s j || decide (i = j)) := by
  unfold ad4
  rw [me_or h (one4 i)]
  congr 1
  rcases Nat.lt_or_ge j 256 with hj | hj
  · unfold me
    dsimp only
    have e : ∀ q, q < 4 → ([if i / 64 = 0 then ((2 ^ (i % 64) : Nat) : Int) else 0, if i / 64 = 1 then ((2 ^ (i % 64) : Nat) : Int) else 0, if i / 64 = 2 then ((2 ^ (i % 64) : Nat) : Int) else 0, if i / 64 = 3 then ((2 ^ (i % 64) : Nat) : Int) else 0] : List Int).getD q 0 = if i / 64 = q then ((2 ^ (i % 64) : Nat) : Int) else 0 :=
      fun q hq => four (P := fun q => ([if i / 64 = 0 then ((2 ^ (i % 64) : Nat) : Int) else 0, if i / 64 = 1 then ((2 ^ (i % 64) : Nat) : Int) else 0, if i / 64 = 2 then ((2 ^ (i % 64) : Nat) : Int) else 0, if i / 64 = 3 then ((2 ^ (i % 64) : Nat) : Int) else 0] : List Int).getD q 0 = if i / 64 = q then ((2 ^ (i % 64) : Nat) : Int) else 0) rfl rfl rfl rfl hq
    rw [e _ (show j / 64 < 4 by omega)]
    by_cases hq : i / 64 = j / 64
    · rw [if_pos hq, bt_pow]
      refine decide_eq_decide.2 ⟨fun hh => by omega, fun hh => by rw [hh]⟩
    · rw [if_neg hq, bt_zero]
      have : i ≠ j := fun hh => hq (by rw [hh])
      simp [this]
  · rw [me_big hj]
    have : i ≠ j := by omega
    simp [this]
mutual
def cntT : Tree → Nat
  | .node o _ ks => if o = 1 then 1 else if o = 2 then cntL ks else if o = 3 then cntL ks else if o = 4 then cntH ks else if o = 5 then cntH ks else if o = 6 then cntH ks else 0
def cntL : List Tree → Nat
  | [] => 0
  | k :: ks => cntT k + cntL ks
def cntH : List Tree → Nat
  | [] => 0
  | k :: _ => cntT k
end
theorem cntL_append : ∀ (xs ys : List Tree), cntL (xs ++ ys) = cntL xs + cntL ys
  | [], ys => by simp [cntL]
  | x :: xs, ys => by simp [cntL, cntL_append xs ys, Nat.add_assoc]
end Go.Tv
namespace Go.Proofs.Ytnjdmbifjbahdaa.T
open Go Go.Tv Go.Proofs
end Go.Proofs.Ytnjdmbifjbahdaa.T
