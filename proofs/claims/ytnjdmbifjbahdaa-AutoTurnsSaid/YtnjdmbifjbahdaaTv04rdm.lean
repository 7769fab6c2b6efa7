/- The program's maker, over all expressions. -/
import Derived.Test.YtnjdmbifjbahdaaTv04rbm
import Derived.Test.YtnjdmbifjbahdaaTv04pvm
namespace Go.Proofs.Ytnjdmbifjbahdaa.T
open Go Go.Tv Go.Proofs
abbrev MS := List Int × List S4 × List Part
abbrev p0 : Part := (false, z4, z4)
def pos (l : List Tree) (i : Nat) : Nat := cntL (l.take i)
structure PI (l : List Tree) (k : Nat) (x : MS) : Prop where
  sl : x.1.length = pos l k
  fl : x.2.1.length = pos l k
  fw : ∀ y ∈ x.2.1, W4 y
  su : ∀ y ∈ x.1, U32 y
  pl : x.2.2.length = k
  pw : ∀ i, i < k → W4 (x.2.2.getD i p0).2.1 ∧ W4 (x.2.2.getD i p0).2.2
  gl : ∀ i, i < k → ∀ lab : Nat → Int → Prop, (∀ p c, pos l i ≤ p → p < pos l (i + 1) → (lab p c ↔ inS (x.1.getD p 0) c)) →
    Gl lab (FG x.2.1 (pos l i) (pos l (i + 1))) ((x.2.2.getD i p0).1 = true) (fun p => me (x.2.2.getD i p0).2.1 p = true) (fun p => me (x.2.2.getD i p0).2.2 p = true) (pos l i) (pos l (i + 1)) (Lg (l.getD i (.node 0 0 [])))
def Fit (l : List Tree) : Prop := l.length ≤ 24 ∧ (∀ t ∈ l, Tok 1000 t) ∧ cntL l ≤ 200
structure Ext (x y : MS) : Prop where
  s : ∃ r, y.1 = x.1 ++ r
  f : ∀ i, i < x.1.length → y.2.1.getD i z4 = x.2.1.getD i z4
  p : ∃ r, y.2.2 = x.2.2 ++ r
theorem PI.zero (l : List Tree) : PI l 0 ([], [], []) :=
  ⟨by simp [pos, cntL], by simp [pos, cntL], fun y hy => by simp at hy, fun y hy => by simp at hy, rfl, fun i h => absurd h (by omega), fun i h => absurd h (by omega)⟩
theorem Ext.refl (x : MS) : Ext x x := ⟨⟨[], by simp⟩, fun _ _ => rfl, ⟨[], by simp⟩⟩
theorem Ext.trans {x y z : MS} (h : Ext x y) (k : Ext y z) : Ext x z := by
  obtain ⟨⟨r, h1⟩, h2, ⟨q, h3⟩⟩ := h
  obtain ⟨⟨r', k1⟩, k2, ⟨q', k3⟩⟩ := k
  exact ⟨⟨r ++ r', by rw [k1, h1]; simp⟩, fun i hi => by rw [k2 i (by rw [h1]; simp; omega), h2 i hi], ⟨q ++ q', by rw [k3, h3]; simp⟩⟩
end Go.Proofs.Ytnjdmbifjbahdaa.T
namespace Go.Proofs.Ytnjdmbifjbahdaa.T
open Go Go.Tv Go.Proofs
theorem U32.wrap (x : Int) : U32 (IntKind.u32.wrap x) := by
  have : IntKind.u32.wrap x = x % 4294967296 := by
    simp only [IntKind.wrap]
    rfl
  rw [this]
  exact ⟨by omega, by omega⟩
theorem U32.zero : U32 0 := ⟨by decide, by decide⟩
theorem U32.bits (op : BinOp) (x y : Int) : U32 (bitsOf op .u32 x y) := by
  unfold bitsOf
  dsimp only
  split <;> exact U32.wrap _
theorem mfind_mem {α : Type} {K : Ty} {k : K.den} {v : α} : ∀ {kv : List (K.den × α)}, mfind K kv k = some v → ∃ k', (k', v) ∈ kv
  | [], h => by cases h
  | p :: r, h => by
    simp only [mfind] at h
    split at h
    · cases h; exact ⟨p.1, .head _⟩
    · obtain ⟨k', h'⟩ := mfind_mem h; exact ⟨k', .tail _ h'⟩
theorem nmV_u (n : Nat) (w : List UInt8) : U32 (nmV (setsP n) w) := by
  unfold nmV
  cases h : look (setsP n) w with
  | none => exact ⟨by decide, by decide⟩
  | some v =>
    obtain ⟨w', hm⟩ := mfind_mem h
    have := (List.of_mem_zip hm).2
    simp only [List.mem_map] at this
    obtain ⟨k, _, rfl⟩ := this
    exact U32.wrap _
theorem setV_u (n : Nat) : ∀ (ws : List (List UInt8)) (b : Int), U32 b → U32 (setV (setsP n) ws b)
  | [], b, h => h
  | w :: ws, b, h => setV_u n ws _ (U32.bits _ _ _)
theorem cntT_rowOf (l : List Tree) : cntT (rowOf l) = cntL l := by
  match l with
  | [] => simp [rowOf, cntT, cntL]
  | [x] => simp [rowOf, cntL]
  | x :: y :: r =>
    simp only [rowOf, cntT]
    rw [if_neg (by decide)]
    rfl
theorem cntL_exTh (n : Nat) (wh : Int) (sets : Sets) : ∀ e : Ex, cntL (exTh n wh sets e) = e.lv
  | .nm k => by simp [exTh, cntL, cntT, Ex.lv]
  | .any => by simp [exTh, cntL, cntT, Ex.lv]
  | .set neg b => by simp [exTh, cntL, cntT, Ex.lv]
  | .star a => by simp [exTh, cntL, cntT, cntH, Ex.lv, cntT_rowOf, cntL_exTh n wh sets a]
  | .plus a => by simp [exTh, cntL, cntT, cntH, Ex.lv, cntT_rowOf, cntL_exTh n wh sets a]
  | .opt a => by simp [exTh, cntL, cntT, cntH, Ex.lv, cntT_rowOf, cntL_exTh n wh sets a]
  | .alt a b => by simp [exTh, cntL, cntT, Ex.lv, cntT_rowOf, cntL_exTh n wh sets a, cntL_exTh n wh sets b]
  | .seq a b => by simp [exTh, cntL_append, Ex.lv, cntL_exTh n wh sets a, cntL_exTh n wh sets b]
theorem Tok_rowOf {d : Nat} {l : List Tree} (hl : l.length ≤ 1000) (h : ∀ t ∈ l, Tok d t) : Tok (d + 1) (rowOf l) := by
  match l with
  | [] => exact ⟨U32.zero, by simp [rowOf, Tree.kids], fun k hk => by simp [rowOf, Tree.kids] at hk⟩
  | [x] => exact (h x (.head _)).mono (by omega)
  | x :: y :: r => exact ⟨U32.zero, hl, h⟩
theorem exTh_len (n : Nat) (wh : Int) (sets : Sets) : ∀ e : Ex, (exTh n wh sets e).length ≤ e.lv
  | .nm k => by simp [exTh, Ex.lv]
  | .any => by simp [exTh, Ex.lv]
  | .set neg b => by simp [exTh, Ex.lv]
  | .star a => by have := exTh_pos a; simp only [exTh, Ex.lv, List.length_cons, List.length_nil]; omega
  | .plus a => by have := exTh_pos a; simp only [exTh, Ex.lv, List.length_cons, List.length_nil]; omega
  | .opt a => by have := exTh_pos a; simp only [exTh, Ex.lv, List.length_cons, List.length_nil]; omega
  | .alt a b => by have := exTh_pos a; simp only [exTh, Ex.lv, List.length_cons, List.length_nil]; omega
  | .seq a b => by have := exTh_len n wh sets a; have := exTh_len n wh sets b; simp only [exTh, Ex.lv, List.length_append]; omega
where exTh_pos : ∀ e : Ex, 1 ≤ e.lv
  | .nm _ | .any | .set _ _ => Nat.le_refl _
  | .star a | .plus a | .opt a => exTh_pos a
  | .alt a _ | .seq a _ => by have := exTh_pos a; simp only [Ex.lv]; omega
theorem lv_8 {e : Ex} (h : e.D ≤ 3) : e.lv ≤ 8 := Nat.le_trans (Ex.lv_le e) (Nat.le_trans (Nat.pow_le_pow_right (by decide) h) (by decide))
theorem Tok_one (n : Nat) (a : Ex) {o : Int} {t : Tree} (h : a.D + 1 ≤ 3) (ih : ∀ t ∈ exTh n (wholeI n) (setsP n) a, Tok (2 * a.D + 1) t) (ht : t = .node o 0 [rowOf (exTh n (wholeI n) (setsP n) a)]) : Tok (2 * (a.D + 1) + 1) t := by
  subst ht
  have la := Nat.le_trans (exTh_len n (wholeI n) (setsP n) a) (lv_8 (show a.D ≤ 3 by omega))
  have ha := Tok_rowOf (by omega) ih
  refine ⟨U32.zero, by simp [Tree.kids], fun k hk => ?_⟩
  simp only [Tree.kids, List.mem_singleton] at hk
  subst hk
  exact ha.mono (by omega)
theorem Tok_exTh (n : Nat) : ∀ (e : Ex), e.D ≤ 3 → ∀ t ∈ exTh n (wholeI n) (setsP n) e, Tok (2 * e.D + 1) t
  | .nm k, _, t, ht => by
    simp only [exTh, List.mem_singleton] at ht
    subst ht
    exact ⟨nmV_u _ _, by simp [Tree.kids], fun k hk => by simp [Tree.kids] at hk⟩
  | .any, _, t, ht => by
    simp only [exTh, List.mem_singleton] at ht
    subst ht
    exact ⟨U32.wrap _, by simp [Tree.kids], fun k hk => by simp [Tree.kids] at hk⟩
  | .set neg b, _, t, ht => by
    simp only [exTh, List.mem_singleton] at ht
    subst ht
    refine ⟨?_, by simp [Tree.kids], fun k hk => by simp [Tree.kids] at hk⟩
    simp only [Tree.set]
    split
    · exact U32.bits _ _ _
    · exact setV_u n _ _ ⟨by decide, by decide⟩
  | .star a, h, t, ht => Tok_one n a (by simp only [Ex.D] at h; omega) (fun t h' => Tok_exTh n a (by simp only [Ex.D] at h; omega) t h') (o := 4) (by simpa only [exTh, List.mem_singleton] using ht)
  | .plus a, h, t, ht => Tok_one n a (by simp only [Ex.D] at h; omega) (fun t h' => Tok_exTh n a (by simp only [Ex.D] at h; omega) t h') (o := 5) (by simpa only [exTh, List.mem_singleton] using ht)
  | .opt a, h, t, ht => Tok_one n a (by simp only [Ex.D] at h; omega) (fun t h' => Tok_exTh n a (by simp only [Ex.D] at h; omega) t h') (o := 6) (by simpa only [exTh, List.mem_singleton] using ht)
  | .alt a b, h, t, ht => by
    simp only [exTh, List.mem_singleton] at ht
    simp only [Ex.D] at h
    subst ht
    have la := Nat.le_trans (exTh_len n (wholeI n) (setsP n) a) (lv_8 (show a.D ≤ 3 by omega))
    have lb := Nat.le_trans (exTh_len n (wholeI n) (setsP n) b) (lv_8 (show b.D ≤ 3 by omega))
    have ha := Tok_rowOf (by omega) (fun t h' => Tok_exTh n a (by omega) t h')
    have hb := Tok_rowOf (by omega) (fun t h' => Tok_exTh n b (by omega) t h')
    refine ⟨U32.zero, by simp [Tree.kids], fun k hk => ?_⟩
    simp only [Tree.kids, List.mem_cons, List.not_mem_nil, or_false] at hk
    rcases hk with rfl | rfl
    · exact ha.mono (by simp only [Ex.D]; omega)
    · exact hb.mono (by simp only [Ex.D]; omega)
  | .seq a b, h, t, ht => by
    simp only [exTh, List.mem_append] at ht
    simp only [Ex.D] at h ⊢
    rcases ht with ht | ht
    · exact (Tok_exTh n a (by omega) t ht).mono (by omega)
    · exact (Tok_exTh n b (by omega) t ht).mono (by omega)
theorem exO_fit (n : Nat) (l : List Int) : Tok 8 (exOV n (wholeI n) (setsP n) (exO l)) ∧ cntT (exOV n (wholeI n) (setsP n) (exO l)) ≤ 8 := by
  unfold exO
  split
  · exact ⟨⟨U32.zero, by simp [exOV, Tree.kids], fun k hk => by simp [exOV, Tree.kids] at hk⟩, by simp [exOV, cntT]⟩
  · have hD := rdE_D 3 (l.take 30) 0
    have hlv := lv_8 hD
    have hlen := Nat.le_trans (exTh_len n (wholeI n) (setsP n) _) hlv
    simp only [exOV]
    refine ⟨(Tok_rowOf (by omega) (Tok_exTh n _ hD)).mono (by omega), ?_⟩
    rw [cntT_rowOf, cntL_exTh]
    exact hlv
def exsOf (r : RL) : List Tree := r.flatMap fun x => [x.2.1, x.2.2]
def exV (c : Int) (l : List PR) : List Tree := exsOf (ruV (cntP c) l (min l.length 10))
theorem exsOf_snoc (r : RL) (y) : exsOf (r ++ [y]) = exsOf r ++ [y.2.1, y.2.2] := by simp [exsOf]
theorem ruV_fit (n : Nat) (l : List PR) : ∀ k, (exsOf (ruV n l k)).length = 2 * k ∧ (∀ t ∈ exsOf (ruV n l k), Tok 8 t) ∧ cntL (exsOf (ruV n l k)) ≤ 16 * k
  | 0 => ⟨rfl, fun t ht => by simp [ruV, exsOf] at ht, by simp [ruV, exsOf, cntL]⟩
  | k + 1 => by
    obtain ⟨h1, h2, h3⟩ := ruV_fit n l k
    have ha := exO_fit n (l.getD k pr0).2.1
    have hb := exO_fit n (l.getD k pr0).2.2
    simp only [ruV, exsOf_snoc]
    refine ⟨by simp [h1]; omega, fun t ht => ?_, ?_⟩
    · simp only [List.mem_append, List.mem_cons, List.not_mem_nil, or_false] at ht
      rcases ht with ht | rfl | rfl
      · exact h2 t ht
      · exact ha.1
      · exact hb.1
    · rw [cntL_append]
      simp only [cntL]
      have := ha.2
      have := hb.2
      omega
theorem exV_fit (c : Int) (l : List PR) : Fit (exV c l) ∧ (∀ t ∈ exV c l, Tok 8 t) ∧ (exV c l).length ≤ 20 := by
  obtain ⟨h1, h2, h3⟩ := ruV_fit (cntP c) l (min l.length 10)
  have := Nat.min_le_right l.length 10
  exact ⟨⟨by unfold exV; omega, fun t ht => (h2 t ht).mono (by omega), by unfold exV; omega⟩, h2, by unfold exV; omega⟩
theorem tree_eta (t : Tree) : Tree.node t.op t.set t.kids = t := by cases t; rfl
theorem exprs_ok {c j a : Int} {tr : List Int} {l : List PR} (h : Pl c j a tr l) : stanzalaw04_exprs c j a tr l = some (exV c l, (cntP c : Int)) := by
  have hlen : (planV c j a tr l).2.2.2.2.length = min l.length 10 := ruV_len _ _ _
  have h10 := Nat.min_le_right l.length 10
  have key : ∃ r, iter (stanzalaw04_exprs_L1 (planV c j a tr l)) ([], 0) = some r ∧ r = exV c l := by
    refine iter_rule (I := fun q => ∃ k : Nat, q = (exsOf ((planV c j a tr l).2.2.2.2.take k), (k : Int)) ∧ k ≤ min l.length 10) (μ := fun q => 10 - q.2.toNat) _ ?_ ⟨0, rfl, Nat.zero_le _⟩
    rintro q ⟨k, rfl, hk⟩
    by_cases hlt : k < min l.length 10
    · have c1 : 0 ≤ (k : Int) ∧ (k : Int) < ((planV c j a tr l).2.2.2.2.length : Int) := by omega
      have hle : (exsOf ((planV c j a tr l).2.2.2.2.take k)).length ≤ 20 := by
        have : ∀ r : RL, (exsOf r).length = 2 * r.length := fun r => by
          induction r with
          | nil => rfl
          | cons y r ih =>
            have e : exsOf (y :: r) = [y.2.1, y.2.2] ++ exsOf r := rfl
            rw [e, List.length_append, ih]
            simp only [List.length_cons, List.length_nil]
            omega
        rw [this, List.length_take]; omega
      refine .inl ⟨(exsOf ((planV c j a tr l).2.2.2.2.take (k + 1)), ((k + 1 : Nat) : Int)), ?_, ⟨k + 1, rfl, hlt⟩, by simp only [Int.toNat_natCast]; omega⟩
      unfold stanzalaw04_exprs_L1
      dsimp only
      rw [if_pos (by simp; omega), if_pos c1, if_pos (by simp only [List.length_cons, List.length_nil]; omega), Int.toNat_natCast, wrap_i64 (by omega) (by omega)]
      simp only [tree_eta]
      rw [take_succ' (d := ((0 : Int), ((Tree.node 0 0 []), (Tree.node 0 0 [])))) (by omega), exsOf_snoc]
      rfl
    · have ek : k = min l.length 10 := by omega
      refine .inr ⟨exsOf ((planV c j a tr l).2.2.2.2.take k), ?_, ?_⟩
      · unfold stanzalaw04_exprs_L1
        dsimp only
        rw [if_neg (by simp; omega)]
      · rw [List.take_of_length_le (by omega)]
        rfl
  obtain ⟨r, h1, rfl⟩ := key
  unfold stanzalaw04_exprs
  rw [Text_eq h]
  simp only [Option.bind_some]
  rw [plan_Parse h]
  simp only [Option.bind_some]
  rw [h1]
  simp only [Option.bind_some, Option.some.injEq, Prod.mk.injEq, true_and]
  have : (planV c j a tr l).1.length = cntP c := (name_at (cntP_pos c) (cntP_le c) 0).2.2
  rw [this]
end Go.Proofs.Ytnjdmbifjbahdaa.T
