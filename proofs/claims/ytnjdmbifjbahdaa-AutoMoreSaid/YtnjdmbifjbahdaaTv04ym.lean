/- AutoMore holds. -/
import Derived.Test.YtnjdmbifjbahdaaTvYm
import Derived.Test.YtnjdmbifjbahdaaTv04rdm
import Derived.Test.YtnjdmbifjbahdaaTvT04ycm
import Derived.Test.YtnjdmbifjbahdaaTvUm
namespace Go.Proofs.Ytnjdmbifjbahdaa.T
open Go Go.Tv Go.Proofs
theorem inj_le : ∀ (n m : Nat) (g : Nat → Nat), (∀ i, i < n → g i < m) → (∀ i j, i < n → j < n → g i = g j → i = j) → n ≤ m
  | 0, _, _, _, _ => Nat.zero_le _
  | n + 1, 0, g, h, _ => absurd (h 0 (by omega)) (by omega)
  | n + 1, m + 1, g, h, hi => by
    have hn := h n (by omega)
    have ne : ∀ i, i < n → g i ≠ g n := fun i h1 e => by have := hi i n (by omega) (by omega) e; omega
    have := inj_le n m (fun i => if g i < g n then g i else g i - 1) (fun i h1 => by
      have h2 := h i (by omega)
      have := ne i h1
      split <;> omega) (fun i j h1 h2 e => by
      have := ne i h1
      have := ne j h2
      refine hi i j (by omega) (by omega) ?_
      split at e <;> split at e <;> omega)
    omega
theorem DA.word {x : MS} {n : Nat} (hn : n ≤ 24) {nx : List (List Int)} {ou : List Int} {st : List S4} (hD : DA x n nx ou st) {w : Wd} (hw : Cls n w) : ∀ k, k ≤ w.length → ∃ j, j < st.length ∧ Rch x (w.take k) (st.getD j z4)
  | 0, _ => ⟨0, by have := hD.ne; omega, by rw [hD.z]; exact Rch.nil x⟩
  | k + 1, hk => by
    obtain ⟨j, h1, h2⟩ := hD.word hn hw k (by omega)
    have hc := hw _ (getD_mem' (d := 0) (show k < w.length by omega))
    obtain ⟨c, hcn, hce⟩ : ∃ c : Nat, c < n ∧ w.getD k 0 = (c : Int) := ⟨(w.getD k 0).toNat, by omega, by omega⟩
    obtain ⟨j', q1, _, q3⟩ := hD.go j h1 c hcn
    refine ⟨j', q1, ?_⟩
    rw [take_succ' (d := 0) (show k < w.length by omega), hce]
    exact h2.step (by omega) q3
theorem pos_take {l : List Tree} {k i : Nat} (h : i ≤ k) : pos (l.take k) i = pos l i := by
  unfold pos
  rw [List.take_take, Nat.min_eq_left h]
theorem getD_take {α : Type} {l : List α} {k i : Nat} (h : i < k) (d : α) : (l.take k).getD i d = l.getD i d := by
  simp only [List.getD_eq_getElem?_getD, List.getElem?_take]; rw [if_pos h]
section
variable {l : List Tree} {k : Nat} {x y : MS} (hk : k ≤ l.length) (hP : PI l l.length x) (hQ : PI (l.take k) (l.take k).length y) (hE : Ext y x)
include hk hP hQ hE
theorem sx_sub : ∀ (w : Wd) (q : Nat), Sx (Fe y.2.1) (lab y.1) (Fst y.2.2) w q ↔ Sx (Fe x.2.1) (lab x.1) (Fst x.2.2) w q ∧ q < y.1.length := by
  have hkl : (l.take k).length = k := by simp; omega
  have hyl : y.1.length = pos l k := by rw [hQ.sl, hkl, pos_take (Nat.le_refl _)]
  have hyf : y.2.1.length = pos l k := by rw [hQ.fl, hkl, pos_take (Nat.le_refl _)]
  have hyp : y.2.2.length = k := by rw [hQ.pl, hkl]
  have hxl := hP.sl
  have hxf := hP.fl
  have hxp := hP.pl
  have hpk := pos_mono l hk
  obtain ⟨⟨r1, e1⟩, e2, ⟨r3, e3⟩⟩ := hE
  have F1 : ∀ p c, lab y.1 p c ↔ lab x.1 p c ∧ p < y.1.length := fun p c => by
    unfold lab
    constructor
    · rintro ⟨h1, h2⟩
      refine ⟨⟨by omega, ?_⟩, h1⟩
      rw [e1, getD_app h1]; exact h2
    · rintro ⟨⟨h1, h2⟩, h3⟩
      rw [e1, getD_app h3] at h2
      exact ⟨h3, h2⟩
  have F2 : ∀ p, Fst y.2.2 p ↔ Fst x.2.2 p ∧ p < y.1.length := fun p => by
    constructor
    · rintro ⟨i, h1, h2⟩
      have hr := (glR hQ (show i < (l.take k).length by omega)).fi p h2
      rw [pos_take (by omega), pos_take (by omega)] at hr
      have := pos_mono l (show i + 1 ≤ k by omega)
      exact ⟨⟨i, by omega, by rw [e3, getD_app h1]; exact h2⟩, by omega⟩
    · rintro ⟨⟨i, h1, h2⟩, h3⟩
      have hr := (glR hP (show i < l.length by omega)).fi p h2
      have hi : i < k := by
        rcases Nat.lt_or_ge i k with h | h
        · exact h
        · have := pos_mono l h; omega
      refine ⟨i, by omega, ?_⟩
      rwa [e3, getD_app (by omega)] at h2
  have F3 : ∀ p q, Fe y.2.1 p q ↔ Fe x.2.1 p q ∧ p < y.1.length := fun p q => by
    unfold Fe
    constructor
    · rintro ⟨h1, h2⟩
      exact ⟨⟨by omega, by rw [e2 p (by omega)]; exact h2⟩, by omega⟩
    · rintro ⟨⟨h1, h2⟩, h3⟩
      exact ⟨by omega, by rw [← e2 p h3]; exact h2⟩
  have F4 : ∀ p q, Fe x.2.1 p q → q < y.1.length → p < y.1.length := fun p q h hq => by
    obtain ⟨j, h1, h2, h3⟩ := Fe_range hP h
    have hj : j < k := by
      rcases Nat.lt_or_ge j k with h' | h'
      · exact h'
      · have := pos_mono l h'; omega
    have := pos_mono l (show j + 1 ≤ k by omega)
    omega
  intro w
  suffices hh : ∀ (u : Wd) q, Sx (Fe y.2.1) (lab y.1) (Fst y.2.2) u.reverse q ↔ Sx (Fe x.2.1) (lab x.1) (Fst x.2.2) u.reverse q ∧ q < y.1.length by
    have := hh w.reverse
    rwa [List.reverse_reverse] at this
  intro u
  induction u with
  | nil => exact fun q => ⟨fun h => (Sx.nil h).elim, fun h => (Sx.nil h.1).elim⟩
  | cons c u ih =>
    intro q
    rw [List.reverse_cons, Sx.snoc, Sx.snoc, F1, F2]
    constructor
    · rintro ⟨⟨h1, h2⟩, h3⟩
      refine ⟨⟨h1, ?_⟩, h2⟩
      rcases h3 with h3 | ⟨p, h3, h4⟩
      · exact .inl h3.1
      · exact .inr ⟨p, ((ih p).1 h3).1, ((F3 p q).1 h4).1⟩
    · rintro ⟨⟨h1, h3⟩, h2⟩
      refine ⟨⟨h1, h2⟩, ?_⟩
      rcases h3 with h3 | ⟨p, h3, h4⟩
      · exact .inl ⟨h3, h2⟩
      · have hp := F4 p q h4 h2
        exact .inr ⟨p, (ih p).2 ⟨h3, hp⟩, (F3 p q).2 ⟨h4, hp⟩⟩
theorem states_le {n : Nat} (hn : n ≤ 24) {nx nx' : List (List Int)} {ou ou' : List Int} {st st' : List S4} (hD : DA x n nx ou st) (hD' : DA y n nx' ou' st') : st'.length ≤ st.length := by
  have key : ∀ i, ∃ j, i < st'.length → j < st.length ∧ ∃ w, Rch y w (st'.getD i z4) ∧ Rch x w (st.getD j z4) := fun i => by
    by_cases hi : i < st'.length
    · obtain ⟨w, h1, h2⟩ := hD'.rc i hi
      obtain ⟨j, h3, h4⟩ := hD.word hn h1 w.length (Nat.le_refl _)
      rw [List.take_length] at h4
      exact ⟨j, fun _ => ⟨h3, w, h2, h4⟩⟩
    · exact ⟨0, fun h => absurd h hi⟩
  obtain ⟨g, hg⟩ := Classical.axiomOfChoice key
  refine inj_le _ _ g (fun i hi => (hg i hi).1) fun i j hi hj e => ?_
  obtain ⟨_, w, w1, w2⟩ := hg i hi
  obtain ⟨_, v, v1, v2⟩ := hg j hj
  rw [e] at w2
  have hs : st'.getD i z4 = st'.getD j z4 := me_ext w1.1 v1.1 fun q => by
    have h1 := (w1.2 q).trans (sx_sub hk hP hQ hE w q)
    have h2 := (v1.2 q).trans (sx_sub hk hP hQ hE v q)
    have h3 : Sx (Fe x.2.1) (lab x.1) (Fst x.2.2) w q ↔ Sx (Fe x.2.1) (lab x.1) (Fst x.2.2) v q := (w2.2 q).symm.trans (v2.2 q)
    rw [h3] at h1
    exact bool_eq (h1.trans h2.symm)
  rw [getD_lt hi, getD_lt hj] at hs
  exact (List.getElem_inj hD'.nd).1 hs
end
theorem more_L1 {i1 : List Int} (hl : i1.length ≤ 200) {n : Nat} (h1 : 1 ≤ n) (h2 : n ≤ 24) : ∃ w, iter (stanzalaw04_AutoMore_L1 i1 (n : Int)) ([], 0) = some w ∧ w.length = i1.length ∧ Cls n w := by
  refine iter_rule (I := fun q => ∃ k : Nat, q.2 = (k : Int) ∧ k ≤ i1.length ∧ q.1.length = k ∧ Cls n q.1) (μ := fun q => i1.length - q.2.toNat) _ ?_ ⟨0, rfl, Nat.zero_le _, rfl, fun c hc => by simp at hc⟩
  rintro ⟨w, i⟩ ⟨k, rfl, hk, hw, hc⟩
  dsimp only at hw hc
  by_cases hlt : k < i1.length
  · obtain ⟨m0, m1, m2⟩ := cls_mod' (i1.getD k 0) h1 h2
    refine .inl ⟨(w ++ [IntKind.i64.wrap (Int.tmod (IntKind.u64.wrap (i1.getD k 0)) (IntKind.u64.wrap (n : Int)))], ((k + 1 : Nat) : Int)), ?_, ⟨k + 1, rfl, hlt, by simp [hw], fun c hc' => ?_⟩, by simp only [Int.toNat_natCast]; omega⟩
    · unfold stanzalaw04_AutoMore_L1
      dsimp only
      rw [if_pos (by simp; omega), if_pos (by omega), if_pos m0, Int.toNat_natCast, if_pos (by simp; omega), wrap_succ (by omega)]
    · rcases List.mem_append.1 hc' with h | h
      · exact hc c h
      · simp only [List.mem_singleton] at h; exact h ▸ ⟨m1, m2⟩
  · refine .inr ⟨w, ?_, by omega, hc⟩
    unfold stanzalaw04_AutoMore_L1
    dsimp only
    rw [if_neg (by simp; omega)]
where cls_mod' (x : Int) {n : Nat} (h1 : 1 ≤ n) (h2 : n ≤ 24) : ¬ (IntKind.u64.wrap (n : Int)) = 0 ∧ 0 ≤ IntKind.i64.wrap (Int.tmod (IntKind.u64.wrap x) (IntKind.u64.wrap (n : Int))) ∧ IntKind.i64.wrap (Int.tmod (IntKind.u64.wrap x) (IntKind.u64.wrap (n : Int))) < (n : Int) := by
          have e1 : IntKind.u64.wrap (n : Int) = n := wrap_u64 (by omega) (by omega)
          have e2 : 0 ≤ IntKind.u64.wrap x := by rw [wrap_u64']; omega
          rw [e1]
          have e3 : Int.tmod (IntKind.u64.wrap x) (n : Int) = IntKind.u64.wrap x % (n : Int) := Int.tmod_eq_emod_of_nonneg e2
          have h3 := Int.emod_nonneg (IntKind.u64.wrap x) (show (n : Int) ≠ 0 by omega)
          have h4 := Int.emod_lt_of_pos (IntKind.u64.wrap x) (show (0 : Int) < n by omega)
          rw [e3, wrap_i64 (by omega) (by omega)]
          exact ⟨by omega, h3, h4⟩
theorem low_bits {b : Int} (hb : U32 b) {k : Nat} (hk : k < 32) : U32 (bitsOf .and .u32 b (IntKind.u32.wrap ((IntKind.u32.wrap ((1 : Int) * 2 ^ (min k IntKind.u32.bits))) - 1))) ∧ ∀ r, bt (bitsOf .and .u32 b (IntKind.u32.wrap ((IntKind.u32.wrap ((1 : Int) * 2 ^ (min k IntKind.u32.bits))) - 1))) r = (bt b r && decide (r < k)) := by
  have e' : (2 : Nat) ^ 32 = 4294967296 := by decide
  have hlt := Nat.pow_lt_pow_right (a := 2) (by decide) hk
  have hp : 0 < (2 : Nat) ^ k := Nat.pow_pos (by decide)
  have e : IntKind.u32.wrap (((2 ^ k : Nat) : Int) - 1) = ((2 ^ k - 1 : Nat) : Int) := by
    generalize 2 ^ k = m at hlt hp
    rw [wrap_u32 (by omega) (by omega)]; omega
  rw [pow_u32 hk, e]
  have hu : U32 ((2 ^ k - 1 : Nat) : Int) := by
    generalize 2 ^ k = m at hlt hp
    exact ⟨by omega, by omega⟩
  refine ⟨U32.bits _ _ _, fun r => ?_⟩
  rw [and_u32 hb hu]
  simp only [bt, Int.toNat_natCast, Nat.testBit_and, Nat.testBit_two_pow_sub_one]
theorem more_ok {c j a : Int} {tr : List Int} {l : List PR} (h : Pl c j a tr l) (i1 : List Int) {x1 : Int} (hx : 0 ≤ x1 ∧ x1 ≤ 255) : stanzalaw04_AutoMore c j a tr l i1 x1 = some true := by
  obtain ⟨hF, hT, h20⟩ := exV_fit c l
  have hn1 := cntP_pos c
  have hn6 := cntP_le c
  obtain ⟨x, hmx, hP, hM⟩ := make_ok hF hn1 (show cntP c ≤ 24 by omega)
  unfold stanzalaw04_AutoMore
  rw [awake04]
  simp only [Option.bind_some, Bool.not_true, Bool.false_eq_true, if_false]
  rw [exprs_ok h]
  simp only [Option.bind_some]
  generalize hL : exV c l = L at hF hT h20 hM hmx hP
  have ew : IntKind.i64.wrap ((L.length : Int) + 1) = ((L.length + 1 : Nat) : Int) := wrap_succ (by omega)
  have ex : IntKind.i64.wrap x1 = x1 := wrap_i64 (by omega) (by omega)
  obtain ⟨k, hk, ek⟩ : ∃ k : Nat, k ≤ L.length ∧ Int.tmod x1 ((L.length + 1 : Nat) : Int) = (k : Int) := by
    have e3 : Int.tmod x1 ((L.length + 1 : Nat) : Int) = x1 % ((L.length + 1 : Nat) : Int) := Int.tmod_eq_emod_of_nonneg hx.1
    have h3 := Int.emod_nonneg x1 (show ((L.length + 1 : Nat) : Int) ≠ 0 by omega)
    have h4 := Int.emod_lt_of_pos x1 (show (0 : Int) < ((L.length + 1 : Nat) : Int) by omega)
    exact ⟨(x1 % ((L.length + 1 : Nat) : Int)).toNat, by omega, by omega⟩
  simp only [ew, ex, ek, Int.toNat_natCast, Int.toNat_zero, List.drop_zero]
  rw [if_pos (by omega)]
  have hF' : Fit (L.take k) := ⟨by simp; have := hF.1; omega, fun t ht => hF.2.1 t (List.mem_of_mem_take ht), Nat.le_trans (cntL_take_le L k) hF.2.2⟩
  obtain ⟨y, hmy, hQ, hN⟩ := make_ok hF' hn1 (show cntP c ≤ 24 by omega)
  have hE : Ext y x := mkL_ext hF L.length hk (Nat.le_refl _) hmy (by rw [List.take_length]; exact hmx)
  have hkl : (L.take k).length = k := by simp; omega
  rcases hM with hM | ⟨nx, ou, st, hM, hD⟩
  · rw [hM]
    simp only [Option.bind_some]
    rw [if_pos (by omega)]
    rcases hN with hN | ⟨nx', ou', st', hN, hD'⟩ <;> rw [hN] <;> rfl
  rw [hM]
  simp only [Option.bind_some]
  rw [if_pos (by omega)]
  rcases hN with hN | ⟨nx', ou', st', hN, hD'⟩
  · rw [hN]; rfl
  rw [hN]
  simp only [Option.bind_some]
  have e1 : ((0 : Int) != 0) = false := rfl
  simp only [e1, Bool.false_eq_true, if_false, Option.bind_some]
  by_cases h200 : i1.length ≤ 200
  · rw [if_neg (by simp; omega)]
    obtain ⟨w, w1, w2, w3⟩ := more_L1 h200 hn1 (show cntP c ≤ 24 by omega)
    rw [w1]
    simp only [Option.bind_some]
    obtain ⟨r, r1, r2, r3⟩ := run_ok (show cntP c ≤ 24 by omega) hD w3 (by omega)
    obtain ⟨r', r1', r2', r3'⟩ := run_ok (show cntP c ≤ 24 by omega) hD' w3 (by omega)
    rw [r1]
    simp only [Option.bind_some]
    rw [r1']
    simp only [Option.bind_some]
    have hle := states_le hk hP hQ hE (show cntP c ≤ 24 by omega) hD hD'
    have hol := hD.l2
    have hol' := hD'.l2
    rw [if_neg (by rw [r2, r2']; simp)]
    simp only [Option.bind_some]
    rw [if_neg (by simp; omega)]
    have L2 : iter (stanzalaw04_AutoMore_L2 x1 L (nx, ou) (nx', ou') r r') 0 = some (.inl ()) := by
      have key : ∃ q, iter (stanzalaw04_AutoMore_L2 x1 L (nx, ou) (nx', ou') r r') 0 = some q ∧ q = .inl () := by
        refine iter_rule (I := fun s => ∃ m : Nat, s = (m : Int) ∧ m ≤ r.length) (μ := fun s => r.length - s.toNat) _ ?_ ⟨0, rfl, Nat.zero_le _⟩
        rintro s ⟨m, rfl, hm⟩
        by_cases hlt : m < r.length
        · obtain ⟨j1, a1, a2, a3⟩ := r3 m (by omega)
          obtain ⟨j2, b1, b2, b3⟩ := r3' m (by omega)
          obtain ⟨o1, o2⟩ := hD.ob j1 a1
          obtain ⟨p1, p2⟩ := hD'.ob j2 b1
          refine .inl ⟨((m + 1 : Nat) : Int), ?_, ⟨m + 1, rfl, hlt⟩, by simp only [Int.toNat_natCast]; omega⟩
          have heq : bitsOf .and .u32 (ou.getD j1 0) (IntKind.u32.wrap ((IntKind.u32.wrap ((1 : Int) * 2 ^ (min k IntKind.u32.bits))) - 1)) = ou'.getD j2 0 := by
            obtain ⟨lw1, lw2⟩ := low_bits o1 (show k < 32 by omega)
            refine bt_ext lw1.1 p1.1 fun q => ?_
            rw [lw2]
            have hq2 := p2 q
            by_cases hqk : q < k
            · have h1 := (o2 q).trans (out_ok hP a3 (show q < L.length by omega))
              have h2 := hq2.trans (out_ok hQ b3 (show q < (L.take k).length by omega))
              rw [getD_take hqk] at h2
              rw [bool_eq (h1.trans h2.symm), decide_eq_true hqk, Bool.and_true]
            · have : ¬ Bit y.2.2 (st'.getD j2 z4) q := fun hb => by
                have := hb.1
                have := hQ.pl
                omega
              cases g2 : bt (ou'.getD j2 0) q
              · simp [hqk]
              · exact (this (hq2.1 g2)).elim
          unfold stanzalaw04_AutoMore_L2
          dsimp only
          simp only [ew, ex, ek, Int.toNat_natCast, a2, b2]
          rw [if_pos (by simp; omega), if_pos (by omega), if_pos (by omega), if_pos (by omega), if_pos (by omega), if_pos (by omega), heq, if_neg (by simp), wrap_succ (by omega)]
        · refine .inr ⟨_, ?_, rfl⟩
          unfold stanzalaw04_AutoMore_L2
          rw [if_neg (by simp; omega)]
      obtain ⟨q, q1, rfl⟩ := key
      exact q1
    rw [L2]
    rfl
  · rw [if_pos (by simp; omega)]
    rfl
end Go.Proofs.Ytnjdmbifjbahdaa.T
namespace Go.Proofs.Ytnjdmbifjbahdaa.T
open Go Go.Tv Go.Proofs
abbrev autoMore_Ts : List Ty := [(.prod (.int .u8) (.prod (.int .u8) (.prod (.int .u8) (.prod (.slice (.int .u8)) (.slice (.prod (.int .u8) (.prod (.slice (.int .u8)) (.slice (.int .u8))))))))), (.slice (.int .i64)), (.int .u8)]
theorem autoMore_all (x : Tup autoMore_Ts) (hx : WfT autoMore_Ts x) : stanzalaw04_AutoMore x.1.1 x.1.2.1 x.1.2.2.1 x.1.2.2.2.1 x.1.2.2.2.2 x.2.1 x.2.2.1 = some true := by
  obtain ⟨⟨c, j, a, tr, l⟩, i1, x1, u⟩ := x
  exact more_ok (pl_wf hx.1) i1 hx.2.2.1
end Go.Proofs.Ytnjdmbifjbahdaa.T
