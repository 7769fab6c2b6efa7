/- The program's maker, over all expressions. -/
import Derived.Test.YtnjdmbifjbahdaaTv04rbm
import Derived.Test.YtnjdmbifjbahdaaTv04pvm
namespace Go.Proofs.Ytnjdmbifjbahdaa.T
open Go Go.Tv Go.Proofs
abbrev MS := List Int × List S4 × List Part
noncomputable def mkStep (o : Option MS) (t : Tree) : Option MS :=
  o.bind fun x => (auto_maker_of_v3 1000 t.op t.set t.kids false x.1 x.2.1).bind fun r => some (r.2.1, r.2.2.1, x.2.2 ++ [r.1])
noncomputable def mkL (l : List Tree) : Option MS := l.foldl mkStep (some ([], [], []))
abbrev p0 : Part := (false, z4, z4)
def pos (l : List Tree) (i : Nat) : Nat := cntL (l.take i)
structure PI (l : List Tree) (k : Nat) (x : MS) : Prop where
  sl : x.1.length = pos l k
  fl : x.2.1.length = pos l k
  fw : ∀ y ∈ x.2.1, W4 y
  su : ∀ y ∈ x.1, U32 y
  pl : x.2.2.length = k
  pw : ∀ i, i < k → W4 (x.2.2.getD i p0).2.1 ∧ W4 (x.2.2.getD i p0).2.2
  gl : ∀ i, i < k → ∀ lab : Nat → Int → Prop, (∀ p c, pos l i ≤ p → p < pos l (i + 1) → (lab p c ↔ inS (x.1.getD p 0) c)) →
    Gl lab (FG x.2.1 (pos l i) (pos l (i + 1))) ((x.2.2.getD i p0).1 = true) (fun p => me (x.2.2.getD i p0).2.1 p = true) (fun p => me (x.2.2.getD i p0).2.2 p = true) (pos l i) (pos l (i + 1)) (Lg (l.getD i (.node 0 0 [])))
theorem pos_succ {l : List Tree} {i : Nat} (h : i < l.length) : pos l (i + 1) = pos l i + cntT (l.getD i (.node 0 0 [])) := cntL_take h
theorem pos_mono (l : List Tree) {i j : Nat} (h : i ≤ j) : pos l i ≤ pos l j := by
  unfold pos
  have : l.take i = (l.take j).take i := by rw [List.take_take, Nat.min_eq_left h]
  rw [this]
  exact cntL_take_le _ _
theorem pos_le (l : List Tree) (i : Nat) : pos l i ≤ cntL l := cntL_take_le l i
theorem mkL_succ {l : List Tree} {k : Nat} (h : k < l.length) : mkL (l.take (k + 1)) = mkStep (mkL (l.take k)) (l.getD k (.node 0 0 [])) := by
  unfold mkL
  rw [take_succ' (d := Tree.node 0 0 []) h, List.foldl_append]
  rfl
def Fit (l : List Tree) : Prop := l.length ≤ 24 ∧ (∀ t ∈ l, Tok 1000 t) ∧ cntL l ≤ 200
structure Ext (x y : MS) : Prop where
  s : ∃ r, y.1 = x.1 ++ r
  f : ∀ i, i < x.1.length → y.2.1.getD i z4 = x.2.1.getD i z4
  p : ∃ r, y.2.2 = x.2.2 ++ r
theorem mk_step {l : List Tree} (hl : Fit l) {k : Nat} (hk : k < l.length) {x : MS} (h : PI l k x) : ∃ nu fi la s f, auto_maker_of_v3 1000 (l.getD k (.node 0 0 [])).op (l.getD k (.node 0 0 [])).set (l.getD k (.node 0 0 [])).kids false x.1 x.2.1 = some ((nu, fi, la), s, f, false) ∧
    PI l (k + 1) (s, f, x.2.2 ++ [(nu, fi, la)]) ∧ Ext x (s, f, x.2.2 ++ [(nu, fi, la)]) := by
  have hps := pos_succ hk
  have hpl := pos_le l (k + 1)
  have hc := hl.2.2
  have hsl := h.sl
  obtain ⟨nu, fi, la, s, f, e, M⟩ := of_ok 1000 _ (hl.2.1 _ (getD_mem' (d := Tree.node 0 0 []) hk)) 1000 (Nat.le_refl _) x.1 x.2.1 (by rw [h.fl, h.sl]) h.fw (by omega)
  have hlen := M.len
  have hfl := M.fl
  have hx3 := h.pl
  refine ⟨nu, fi, la, s, f, e, ⟨by dsimp only; omega, by dsimp only; omega, M.fw, M.su h.su, by simp [h.pl], fun i hi => ?_, fun i hi lab hlab => ?_⟩, ⟨M.pre, M.fo, ⟨_, rfl⟩⟩⟩
  · dsimp only
    by_cases e2 : i = k
    · have : (x.2.2 ++ [(nu, fi, la)]).getD i p0 = (nu, fi, la) := by rw [e2, ← hx3]; simp [List.getD_eq_getElem?_getD]
      rw [this]
      exact ⟨M.w1, M.w2⟩
    · rw [getD_app (by omega)]
      exact h.pw i (by omega)
  · dsimp only at hlab ⊢
    by_cases e2 : i = k
    · have : (x.2.2 ++ [(nu, fi, la)]).getD i p0 = (nu, fi, la) := by rw [e2, ← hx3]; simp [List.getD_eq_getElem?_getD]
      rw [this]
      subst e2
      have ee : pos l (i + 1) = s.length := by omega
      rw [ee] at hlab ⊢
      rw [← hsl] at hlab ⊢
      exact M.gl lab hlab
    · rw [getD_app (by omega)]
      have hm := pos_mono l (show i + 1 ≤ k by omega)
      refine (h.gl i (by omega) lab fun p c hp1 hp2 => ?_).congr (fun p q => ?_) Iff.rfl (fun _ => Iff.rfl) (fun _ => Iff.rfl) (fun _ => Iff.rfl)
      · rw [hlab p c hp1 hp2, M.lab (by omega)]
      · constructor
        · rintro ⟨h1, h2⟩; exact ⟨h1, by rw [← M.fo p (by omega)]; exact h2⟩
        · rintro ⟨h1, h2⟩; exact ⟨h1, by rw [M.fo p (by omega)]; exact h2⟩
theorem PI.zero (l : List Tree) : PI l 0 ([], [], []) :=
  ⟨by simp [pos, cntL], by simp [pos, cntL], fun y hy => by simp at hy, fun y hy => by simp at hy, rfl, fun i h => absurd h (by omega), fun i h => absurd h (by omega)⟩
theorem Ext.refl (x : MS) : Ext x x := ⟨⟨[], by simp⟩, fun _ _ => rfl, ⟨[], by simp⟩⟩
theorem Ext.trans {x y z : MS} (h : Ext x y) (k : Ext y z) : Ext x z := by
  obtain ⟨⟨r, h1⟩, h2, ⟨q, h3⟩⟩ := h
  obtain ⟨⟨r', k1⟩, k2, ⟨q', k3⟩⟩ := k
  exact ⟨⟨r ++ r', by rw [k1, h1]; simp⟩, fun i hi => by rw [k2 i (by rw [h1]; simp; omega), h2 i hi], ⟨q ++ q', by rw [k3, h3]; simp⟩⟩
theorem make_L1 {l : List Tree} (hl : Fit l) : ∃ x, mkL l = some x ∧ PI l l.length x ∧ iter (auto_Make_L1 l) ([], [], false, [], 0) = some (x.1, x.2.1, false, x.2.2) := by
  have key : ∃ r, iter (auto_Make_L1 l) ([], [], false, [], 0) = some r ∧ ∃ x, mkL l = some x ∧ PI l l.length x ∧ r = (x.1, x.2.1, false, x.2.2) := by
    refine iter_rule (I := fun q => ∃ (k : Nat) (x : MS), q = (x.1, x.2.1, false, x.2.2, (k : Int)) ∧ k ≤ l.length ∧ mkL (l.take k) = some x ∧ PI l k x) (μ := fun q => l.length - q.2.2.2.2.toNat) _ ?_ ⟨0, ([], [], []), rfl, Nat.zero_le _, by simp [mkL], PI.zero l⟩
    rintro q ⟨k, x, rfl, hk, hm, hP⟩
    by_cases hlt : k < l.length
    · have h24 := hl.1
      have hpl := hP.pl
      have c1 : 0 ≤ (k : Int) ∧ (k : Int) < (l.length : Int) := by omega
      have c5 : IntKind.i64.wrap ((k : Int) + 1) = ((k + 1 : Nat) : Int) := by rw [wrap_i64 (by omega) (by omega)]; omega
      obtain ⟨nu, fi, la, s, f, e, h3, _⟩ := mk_step hl hlt hP
      refine .inl ⟨(s, f, false, x.2.2 ++ [(nu, fi, la)], ((k + 1 : Nat) : Int)), ?_, ⟨k + 1, (s, f, x.2.2 ++ [(nu, fi, la)]), rfl, hlt, ?_, h3⟩, by simp only [Int.toNat_natCast]; omega⟩
      · unfold auto_Make_L1
        dsimp only
        rw [if_pos (by simp; omega), if_pos c1, Int.toNat_natCast, e, c5]
        simp only [Option.bind_some]
        rw [if_pos (by simp; omega)]
      · rw [mkL_succ hlt, hm]
        simp only [mkStep, Option.bind_some, e]
    · have ek : k = l.length := by omega
      subst ek
      rw [List.take_length] at hm
      refine .inr ⟨_, ?_, x, hm, hP, rfl⟩
      unfold auto_Make_L1
      dsimp only
      rw [if_neg (by simp)]
  obtain ⟨r, h1, x, h2, h3, rfl⟩ := key
  exact ⟨x, h2, h3, h1⟩
end Go.Proofs.Ytnjdmbifjbahdaa.T
namespace Go.Proofs.Ytnjdmbifjbahdaa.T
open Go Go.Tv Go.Proofs
theorem U32.wrap (x : Int) : U32 (IntKind.u32.wrap x) := by
  have : IntKind.u32.wrap x = x % 4294967296 := by
    simp only [IntKind.wrap]
    rfl
  rw [this]
  exact ⟨by omega, by omega⟩
theorem U32.zero : U32 0 := ⟨by decide, by decide⟩
theorem U32.bits (op : BinOp) (x y : Int) : U32 (bitsOf op .u32 x y) := by
  unfold bitsOf
  dsimp only
  split <;> exact U32.wrap _
theorem mfind_mem {α : Type} {K : Ty} {k : K.den} {v : α} : ∀ {kv : List (K.den × α)}, mfind K kv k = some v → ∃ k', (k', v) ∈ kv
  | [], h => by cases h
  | p :: r, h => by
    simp only [mfind] at h
    split at h
    · cases h; exact ⟨p.1, .head _⟩
    · obtain ⟨k', h'⟩ := mfind_mem h; exact ⟨k', .tail _ h'⟩
theorem nmV_u (n : Nat) (w : List UInt8) : U32 (nmV (setsP n) w) := by
  unfold nmV
  cases h : look (setsP n) w with
  | none => exact ⟨by decide, by decide⟩
  | some v =>
    obtain ⟨w', hm⟩ := mfind_mem h
    have := (List.of_mem_zip hm).2
    simp only [List.mem_map] at this
    obtain ⟨k, _, rfl⟩ := this
    exact U32.wrap _
theorem setV_u (n : Nat) : ∀ (ws : List (List UInt8)) (b : Int), U32 b → U32 (setV (setsP n) ws b)
  | [], b, h => h
  | w :: ws, b, h => setV_u n ws _ (U32.bits _ _ _)
theorem cntT_rowOf (l : List Tree) : cntT (rowOf l) = cntL l := by
  match l with
  | [] => simp [rowOf, cntT, cntL]
  | [x] => simp [rowOf, cntL]
  | x :: y :: r =>
    simp only [rowOf, cntT]
    rw [if_neg (by decide)]
    rfl
theorem cntL_exTh (n : Nat) (wh : Int) (sets : Sets) : ∀ e : Ex, cntL (exTh n wh sets e) = e.lv
  | .nm k => by simp [exTh, cntL, cntT, Ex.lv]
  | .any => by simp [exTh, cntL, cntT, Ex.lv]
  | .set neg b => by simp [exTh, cntL, cntT, Ex.lv]
  | .star a => by simp [exTh, cntL, cntT, cntH, Ex.lv, cntT_rowOf, cntL_exTh n wh sets a]
  | .plus a => by simp [exTh, cntL, cntT, cntH, Ex.lv, cntT_rowOf, cntL_exTh n wh sets a]
  | .opt a => by simp [exTh, cntL, cntT, cntH, Ex.lv, cntT_rowOf, cntL_exTh n wh sets a]
  | .alt a b => by simp [exTh, cntL, cntT, Ex.lv, cntT_rowOf, cntL_exTh n wh sets a, cntL_exTh n wh sets b]
  | .seq a b => by simp [exTh, cntL_append, Ex.lv, cntL_exTh n wh sets a, cntL_exTh n wh sets b]
theorem Tok_rowOf {d : Nat} {l : List Tree} (hl : l.length ≤ 1000) (h : ∀ t ∈ l, Tok d t) : Tok (d + 1) (rowOf l) := by
  match l with
  | [] => exact ⟨U32.zero, by simp [rowOf, Tree.kids], fun k hk => by simp [rowOf, Tree.kids] at hk⟩
  | [x] => exact (h x (.head _)).mono (by omega)
  | x :: y :: r => exact ⟨U32.zero, hl, h⟩
theorem exTh_len (n : Nat) (wh : Int) (sets : Sets) : ∀ e : Ex, (exTh n wh sets e).length ≤ e.lv
  | .nm k => by simp [exTh, Ex.lv]
  | .any => by simp [exTh, Ex.lv]
  | .set neg b => by simp [exTh, Ex.lv]
  | .star a => by have := exTh_pos a; simp only [exTh, Ex.lv, List.length_cons, List.length_nil]; omega
  | .plus a => by have := exTh_pos a; simp only [exTh, Ex.lv, List.length_cons, List.length_nil]; omega
  | .opt a => by have := exTh_pos a; simp only [exTh, Ex.lv, List.length_cons, List.length_nil]; omega
  | .alt a b => by have := exTh_pos a; simp only [exTh, Ex.lv, List.length_cons, List.length_nil]; omega
  | .seq a b => by have := exTh_len n wh sets a; have := exTh_len n wh sets b; simp only [exTh, Ex.lv, List.length_append]; omega
where exTh_pos : ∀ e : Ex, 1 ≤ e.lv
  | .nm _ | .any | .set _ _ => Nat.le_refl _
  | .star a | .plus a | .opt a => exTh_pos a
  | .alt a _ | .seq a _ => by have := exTh_pos a; simp only [Ex.lv]; omega
theorem lv_8 {e : Ex} (h : e.D ≤ 3) : e.lv ≤ 8 := Nat.le_trans (Ex.lv_le e) (Nat.le_trans (Nat.pow_le_pow_right (by decide) h) (by decide))
theorem Tok_one (n : Nat) (a : Ex) {o : Int} {t : Tree} (h : a.D + 1 ≤ 3) (ih : ∀ t ∈ exTh n (wholeI n) (setsP n) a, Tok (2 * a.D + 1) t) (ht : t = .node o 0 [rowOf (exTh n (wholeI n) (setsP n) a)]) : Tok (2 * (a.D + 1) + 1) t := by
  subst ht
  have la := Nat.le_trans (exTh_len n (wholeI n) (setsP n) a) (lv_8 (show a.D ≤ 3 by omega))
  have ha := Tok_rowOf (by omega) ih
  refine ⟨U32.zero, by simp [Tree.kids], fun k hk => ?_⟩
  simp only [Tree.kids, List.mem_singleton] at hk
  subst hk
  exact ha.mono (by omega)
theorem Tok_exTh (n : Nat) : ∀ (e : Ex), e.D ≤ 3 → ∀ t ∈ exTh n (wholeI n) (setsP n) e, Tok (2 * e.D + 1) t
  | .nm k, _, t, ht => by
    simp only [exTh, List.mem_singleton] at ht
    subst ht
    exact ⟨nmV_u _ _, by simp [Tree.kids], fun k hk => by simp [Tree.kids] at hk⟩
  | .any, _, t, ht => by
    simp only [exTh, List.mem_singleton] at ht
    subst ht
    exact ⟨U32.wrap _, by simp [Tree.kids], fun k hk => by simp [Tree.kids] at hk⟩
  | .set neg b, _, t, ht => by
    simp only [exTh, List.mem_singleton] at ht
    subst ht
    refine ⟨?_, by simp [Tree.kids], fun k hk => by simp [Tree.kids] at hk⟩
    simp only [Tree.set]
    split
    · exact U32.bits _ _ _
    · exact setV_u n _ _ ⟨by decide, by decide⟩
  | .star a, h, t, ht => Tok_one n a (by simp only [Ex.D] at h; omega) (fun t h' => Tok_exTh n a (by simp only [Ex.D] at h; omega) t h') (o := 4) (by simpa only [exTh, List.mem_singleton] using ht)
  | .plus a, h, t, ht => Tok_one n a (by simp only [Ex.D] at h; omega) (fun t h' => Tok_exTh n a (by simp only [Ex.D] at h; omega) t h') (o := 5) (by simpa only [exTh, List.mem_singleton] using ht)
  | .opt a, h, t, ht => Tok_one n a (by simp only [Ex.D] at h; omega) (fun t h' => Tok_exTh n a (by simp only [Ex.D] at h; omega) t h') (o := 6) (by simpa only [exTh, List.mem_singleton] using ht)
  | .alt a b, h, t, ht => by
    simp only [exTh, List.mem_singleton] at ht
    simp only [Ex.D] at h
    subst ht
    have la := Nat.le_trans (exTh_len n (wholeI n) (setsP n) a) (lv_8 (show a.D ≤ 3 by omega))
    have lb := Nat.le_trans (exTh_len n (wholeI n) (setsP n) b) (lv_8 (show b.D ≤ 3 by omega))
    have ha := Tok_rowOf (by omega) (fun t h' => Tok_exTh n a (by omega) t h')
    have hb := Tok_rowOf (by omega) (fun t h' => Tok_exTh n b (by omega) t h')
    refine ⟨U32.zero, by simp [Tree.kids], fun k hk => ?_⟩
    simp only [Tree.kids, List.mem_cons, List.not_mem_nil, or_false] at hk
    rcases hk with rfl | rfl
    · exact ha.mono (by simp only [Ex.D]; omega)
    · exact hb.mono (by simp only [Ex.D]; omega)
  | .seq a b, h, t, ht => by
    simp only [exTh, List.mem_append] at ht
    simp only [Ex.D] at h ⊢
    rcases ht with ht | ht
    · exact (Tok_exTh n a (by omega) t ht).mono (by omega)
    · exact (Tok_exTh n b (by omega) t ht).mono (by omega)
theorem exO_fit (n : Nat) (l : List Int) : Tok 8 (exOV n (wholeI n) (setsP n) (exO l)) ∧ cntT (exOV n (wholeI n) (setsP n) (exO l)) ≤ 8 := by
  unfold exO
  split
  · exact ⟨⟨U32.zero, by simp [exOV, Tree.kids], fun k hk => by simp [exOV, Tree.kids] at hk⟩, by simp [exOV, cntT]⟩
  · have hD := rdE_D 3 (l.take 30) 0
    have hlv := lv_8 hD
    have hlen := Nat.le_trans (exTh_len n (wholeI n) (setsP n) _) hlv
    simp only [exOV]
    refine ⟨(Tok_rowOf (by omega) (Tok_exTh n _ hD)).mono (by omega), ?_⟩
    rw [cntT_rowOf, cntL_exTh]
    exact hlv
def exsOf (r : RL) : List Tree := r.flatMap fun x => [x.2.1, x.2.2]
def exV (c : Int) (l : List PR) : List Tree := exsOf (ruV (cntP c) l (min l.length 10))
theorem exsOf_snoc (r : RL) (y) : exsOf (r ++ [y]) = exsOf r ++ [y.2.1, y.2.2] := by simp [exsOf]
theorem ruV_fit (n : Nat) (l : List PR) : ∀ k, (exsOf (ruV n l k)).length = 2 * k ∧ (∀ t ∈ exsOf (ruV n l k), Tok 8 t) ∧ cntL (exsOf (ruV n l k)) ≤ 16 * k
  | 0 => ⟨rfl, fun t ht => by simp [ruV, exsOf] at ht, by simp [ruV, exsOf, cntL]⟩
  | k + 1 => by
    obtain ⟨h1, h2, h3⟩ := ruV_fit n l k
    have ha := exO_fit n (l.getD k pr0).2.1
    have hb := exO_fit n (l.getD k pr0).2.2
    simp only [ruV, exsOf_snoc]
    refine ⟨by simp [h1]; omega, fun t ht => ?_, ?_⟩
    · simp only [List.mem_append, List.mem_cons, List.not_mem_nil, or_false] at ht
      rcases ht with ht | rfl | rfl
      · exact h2 t ht
      · exact ha.1
      · exact hb.1
    · rw [cntL_append]
      simp only [cntL]
      have := ha.2
      have := hb.2
      omega
theorem exV_fit (c : Int) (l : List PR) : Fit (exV c l) ∧ (∀ t ∈ exV c l, Tok 8 t) ∧ (exV c l).length ≤ 20 := by
  obtain ⟨h1, h2, h3⟩ := ruV_fit (cntP c) l (min l.length 10)
  have := Nat.min_le_right l.length 10
  exact ⟨⟨by unfold exV; omega, fun t ht => (h2 t ht).mono (by omega), by unfold exV; omega⟩, h2, by unfold exV; omega⟩
theorem tree_eta (t : Tree) : Tree.node t.op t.set t.kids = t := by cases t; rfl
theorem exprs_ok {c j a : Int} {tr : List Int} {l : List PR} (h : Pl c j a tr l) : stanzalaw04_exprs c j a tr l = some (exV c l, (cntP c : Int)) := by
  have hlen : (planV c j a tr l).2.2.2.2.length = min l.length 10 := ruV_len _ _ _
  have h10 := Nat.min_le_right l.length 10
  have key : ∃ r, iter (stanzalaw04_exprs_L1 (planV c j a tr l)) ([], 0) = some r ∧ r = exV c l := by
    refine iter_rule (I := fun q => ∃ k : Nat, q = (exsOf ((planV c j a tr l).2.2.2.2.take k), (k : Int)) ∧ k ≤ min l.length 10) (μ := fun q => 10 - q.2.toNat) _ ?_ ⟨0, rfl, Nat.zero_le _⟩
    rintro q ⟨k, rfl, hk⟩
    by_cases hlt : k < min l.length 10
    · have c1 : 0 ≤ (k : Int) ∧ (k : Int) < ((planV c j a tr l).2.2.2.2.length : Int) := by omega
      have hle : (exsOf ((planV c j a tr l).2.2.2.2.take k)).length ≤ 20 := by
        have : ∀ r : RL, (exsOf r).length = 2 * r.length := fun r => by
          induction r with
          | nil => rfl
          | cons y r ih =>
            have e : exsOf (y :: r) = [y.2.1, y.2.2] ++ exsOf r := rfl
            rw [e, List.length_append, ih]
            simp only [List.length_cons, List.length_nil]
            omega
        rw [this, List.length_take]; omega
      refine .inl ⟨(exsOf ((planV c j a tr l).2.2.2.2.take (k + 1)), ((k + 1 : Nat) : Int)), ?_, ⟨k + 1, rfl, hlt⟩, by simp only [Int.toNat_natCast]; omega⟩
      unfold stanzalaw04_exprs_L1
      dsimp only
      rw [if_pos (by simp; omega), if_pos c1, if_pos (by simp only [List.length_cons, List.length_nil]; omega), Int.toNat_natCast, wrap_i64 (by omega) (by omega)]
      simp only [tree_eta]
      rw [take_succ' (d := ((0 : Int), ((Tree.node 0 0 []), (Tree.node 0 0 [])))) (by omega), exsOf_snoc]
      rfl
    · have ek : k = min l.length 10 := by omega
      refine .inr ⟨exsOf ((planV c j a tr l).2.2.2.2.take k), ?_, ?_⟩
      · unfold stanzalaw04_exprs_L1
        dsimp only
        rw [if_neg (by simp; omega)]
      · rw [List.take_of_length_le (by omega)]
        rfl
  obtain ⟨r, h1, rfl⟩ := key
  unfold stanzalaw04_exprs
  rw [Text_eq h]
  simp only [Option.bind_some]
  rw [plan_Parse h]
  simp only [Option.bind_some]
  rw [h1]
  simp only [Option.bind_some, Option.some.injEq, Prod.mk.injEq, true_and]
  have : (planV c j a tr l).1.length = cntP c := (name_at (cntP_pos c) (cntP_le c) 0).2.2
  rw [this]
end Go.Proofs.Ytnjdmbifjbahdaa.T
namespace Go.Proofs.Ytnjdmbifjbahdaa.T
open Go Go.Tv Go.Proofs
def Fst (ps : List Part) (p : Nat) : Prop := ∃ i, i < ps.length ∧ me (ps.getD i p0).2.1 p = true
def May (f : List S4) (A : Nat → Prop) (s : S4) (q : Nat) : Prop := A q ∨ ∃ p, p < f.length ∧ me s p = true ∧ me (f.getD p z4) q = true
def Bit (ps : List Part) (s : S4) (r : Nat) : Prop := r < ps.length ∧ ((ps.getD r p0).1 = true ∨ ∃ p, me s p = true ∧ me (ps.getD r p0).2.2 p = true)
def Nxt (ss : List Int) (m : S4) (c : Nat) (t : S4) : Prop := W4 t ∧ ∀ p, me t p = true ↔ p < ss.length ∧ me m p = true ∧ bt (ss.getD p 0) c = true
theorem wrap_succ {k : Nat} (h : k < 1000000) : IntKind.i64.wrap ((k : Int) + 1) = ((k + 1 : Nat) : Int) := by rw [wrap_i64 (by omega) (by omega)]; omega
section
variable {ps : List Part} {f : List S4} {ss : List Int}
theorem make_L2 (hl : ps.length ≤ 24) (hw : ∀ i, i < ps.length → W4 (ps.getD i p0).2.1) : ∃ m : S4, iter (auto_Make_L2 ps) (0, 0, 0, 0, 0) = some (m.1, m.2.1, m.2.2.1, m.2.2.2) ∧ W4 m ∧ ∀ p, me m p = true ↔ Fst ps p := by
  have key : ∃ r, iter (auto_Make_L2 ps) (0, 0, 0, 0, 0) = some r ∧ ∃ m : S4, r = (m.1, m.2.1, m.2.2.1, m.2.2.2) ∧ W4 m ∧ ∀ p, me m p = true ↔ Fst ps p := by
    refine iter_rule (I := fun q => ∃ (k : Nat) (m : S4), q = (m.1, m.2.1, m.2.2.1, m.2.2.2, (k : Int)) ∧ k ≤ ps.length ∧ W4 m ∧ ∀ p, me m p = true ↔ ∃ i, i < k ∧ me (ps.getD i p0).2.1 p = true) (μ := fun q => ps.length - q.2.2.2.2.toNat) _ ?_ ?_
    · rintro q ⟨k, m, rfl, hk, hm, hp⟩
      by_cases hlt : k < ps.length
      · have c1 : 0 ≤ (k : Int) ∧ (k : Int) < (ps.length : Int) := by omega
        have hor := or_ok m (ps.getD k p0).2.1
        refine .inl ⟨((or4 m (ps.getD k p0).2.1).1, (or4 m (ps.getD k p0).2.1).2.1, (or4 m (ps.getD k p0).2.1).2.2.1, (or4 m (ps.getD k p0).2.1).2.2.2, ((k + 1 : Nat) : Int)), ?_, ⟨k + 1, or4 m (ps.getD k p0).2.1, rfl, hlt, hm.or (hw k hlt), fun p => ?_⟩, by simp only [Int.toNat_natCast]; omega⟩
        · unfold auto_Make_L2
          dsimp only
          rw [if_pos (by simp; omega), if_pos c1, Int.toNat_natCast, if_pos hlt, wrap_succ (by omega), hor]
          rfl
        · rw [me_or hm (hw k hlt), Bool.or_eq_true, hp]
          constructor
          · rintro (⟨i, h1, h2⟩ | h)
            · exact ⟨i, by omega, h2⟩
            · exact ⟨k, by omega, h⟩
          · rintro ⟨i, h1, h2⟩
            by_cases e : i = k
            · exact .inr (e ▸ h2)
            · exact .inl ⟨i, by omega, h2⟩
      · refine .inr ⟨_, ?_, m, rfl, hm, fun p => ?_⟩
        · unfold auto_Make_L2
          dsimp only
          rw [if_neg (by simp; omega)]
        · rw [hp]
          have : k = ps.length := by omega
          rw [this]; rfl
    · exact ⟨0, z4, rfl, Nat.zero_le _, W4.z, fun p => by rw [me_z]; simp⟩
  obtain ⟨r, h1, m, rfl, h2, h3⟩ := key
  exact ⟨m, h1, h2, h3⟩
theorem make_L3 {st : List S4} {k : Nat} {m0 : S4} (hl : f.length ≤ 200) (hf : ∀ x ∈ f, W4 x) (hs : W4 (st.getD k z4)) (h0 : W4 m0) :
    ∃ m : S4, iter (auto_Make_L3 f st (k : Int)) (m0.1, m0.2.1, m0.2.2.1, m0.2.2.2, 0) = some (m.1, m.2.1, m.2.2.1, m.2.2.2) ∧ W4 m ∧ ∀ q, me m q = true ↔ May f (fun q => me m0 q = true) (st.getD k z4) q := by
  have key : ∃ r, iter (auto_Make_L3 f st (k : Int)) (m0.1, m0.2.1, m0.2.2.1, m0.2.2.2, 0) = some r ∧ ∃ m : S4, r = (m.1, m.2.1, m.2.2.1, m.2.2.2) ∧ W4 m ∧ ∀ q, me m q = true ↔ May f (fun q => me m0 q = true) (st.getD k z4) q := by
    refine iter_rule (I := fun q => ∃ (j : Nat) (m : S4), q = (m.1, m.2.1, m.2.2.1, m.2.2.2, (j : Int)) ∧ j ≤ f.length ∧ W4 m ∧ ∀ p, me m p = true ↔ me m0 p = true ∨ ∃ i, i < j ∧ me (st.getD k z4) i = true ∧ me (f.getD i z4) p = true) (μ := fun q => f.length - q.2.2.2.2.toNat) _ ?_ ?_
    · rintro q ⟨j, m, rfl, hj, hm, hp⟩
      by_cases hlt : j < f.length
      · have c1 : 0 ≤ (j : Int) ∧ (j : Int) < (f.length : Int) := by omega
        have hh := has_ok hs (show j < 256 by omega)
        have hor := or_ok m (f.getD j z4)
        cases hb : me (st.getD k z4) j with
        | false =>
          refine .inl ⟨(m.1, m.2.1, m.2.2.1, m.2.2.2, ((j + 1 : Nat) : Int)), ?_, ⟨j + 1, m, rfl, hlt, hm, fun p => ?_⟩, by simp only [Int.toNat_natCast]; omega⟩
          · unfold auto_Make_L3
            dsimp only
            rw [if_pos (by simp; omega), Int.toNat_natCast, hh, hb, wrap_succ (by omega)]
            rfl
          · rw [hp]
            refine or_congr Iff.rfl ⟨fun ⟨i, h1, h2⟩ => ⟨i, by omega, h2⟩, fun ⟨i, h1, h2⟩ => ⟨i, ?_, h2⟩⟩
            by_cases e : i = j
            · rw [e, hb] at h2; cases h2.1
            · omega
        | true =>
          refine .inl ⟨((or4 m (f.getD j z4)).1, (or4 m (f.getD j z4)).2.1, (or4 m (f.getD j z4)).2.2.1, (or4 m (f.getD j z4)).2.2.2, ((j + 1 : Nat) : Int)), ?_, ⟨j + 1, or4 m (f.getD j z4), rfl, hlt, hm.or (W4_getD hf j), fun p => ?_⟩, by simp only [Int.toNat_natCast]; omega⟩
          · unfold auto_Make_L3
            dsimp only
            rw [if_pos (by simp; omega), Int.toNat_natCast, hh, hb, wrap_succ (by omega)]
            simp only [Option.bind_some, if_true, Int.toNat_natCast, if_pos c1, if_pos hlt]
            rw [hor]
            rfl
          · rw [me_or hm (W4_getD hf j), Bool.or_eq_true, hp]
            constructor
            · rintro ((h | ⟨i, h1, h2⟩) | h)
              · exact .inl h
              · exact .inr ⟨i, by omega, h2⟩
              · exact .inr ⟨j, by omega, hb, h⟩
            · rintro (h | ⟨i, h1, h2⟩)
              · exact .inl (.inl h)
              · by_cases e : i = j
                · exact .inr (e ▸ h2.2)
                · exact .inl (.inr ⟨i, by omega, h2⟩)
      · refine .inr ⟨_, ?_, m, rfl, hm, fun p => ?_⟩
        · unfold auto_Make_L3
          dsimp only
          rw [if_neg (by simp; omega)]
        · rw [hp]
          have : j = f.length := by omega
          rw [this]; rfl
    · exact ⟨0, m0, rfl, Nat.zero_le _, h0, fun p => by simp⟩
  obtain ⟨r, h1, m, rfl, h2, h3⟩ := key
  exact ⟨m, h1, h2, h3⟩
theorem make_L4 {st : List S4} {k : Nat} (hl : ps.length ≤ 24) (hw : ∀ i, i < ps.length → W4 (ps.getD i p0).2.2) (hs : W4 (st.getD k z4)) :
    ∃ b, iter (auto_Make_L4 ps st (k : Int)) (0, 0) = some b ∧ U32 b ∧ ∀ r, bt b r = true ↔ Bit ps (st.getD k z4) r := by
  refine iter_rule (I := fun q => ∃ j : Nat, q.2 = (j : Int) ∧ j ≤ ps.length ∧ U32 q.1 ∧ ∀ r, bt q.1 r = true ↔ r < j ∧ ((ps.getD r p0).1 = true ∨ ∃ p, me (st.getD k z4) p = true ∧ me (ps.getD r p0).2.2 p = true)) (μ := fun q => ps.length - q.2.toNat) _ ?_ ?_
  · rintro ⟨b, i⟩ ⟨j, rfl, hj, hb, hr⟩
    dsimp only at hb hr
    by_cases hlt : j < ps.length
    · have c1 : 0 ≤ (j : Int) ∧ (j : Int) < (ps.length : Int) := by omega
      obtain ⟨v, v1, v2⟩ := meets_ok hs (hw j hlt)
      obtain ⟨u, hu1, hu2⟩ : ∃ u : Bool, (if (ps.getD j p0).1 = true then some true else (auto_meets (st.getD k z4).1 (st.getD k z4).2.1 (st.getD k z4).2.2.1 (st.getD k z4).2.2.2 (ps.getD j p0).2.2.1 (ps.getD j p0).2.2.2.1 (ps.getD j p0).2.2.2.2.1 (ps.getD j p0).2.2.2.2.2).bind fun r517 => some r517) = some u ∧ (u = true ↔ ((ps.getD j p0).1 = true ∨ ∃ p, me (st.getD k z4) p = true ∧ me (ps.getD j p0).2.2 p = true)) := by
        cases h1 : (ps.getD j p0).1 with
        | true => exact ⟨true, rfl, by simp⟩
        | false => exact ⟨v, by rw [if_neg (by simp), v1]; rfl, by rw [v2]; simp⟩
      have step : auto_Make_L4 ps st (k : Int) (b, (j : Int)) = some (.inl ((if u = true then bitsOf .or .u32 b (((2 ^ j : Nat) : Int)) else b), ((j + 1 : Nat) : Int))) := by
        unfold auto_Make_L4
        dsimp only
        rw [if_pos (by simp; omega), if_pos c1, Int.toNat_natCast, if_pos hlt, wrap_succ (by omega), Int.toNat_natCast, hu1]
        simp only [Option.bind_some]
        rw [pow_u32 (by omega)]
        cases u
        · rfl
        · rw [if_pos rfl, if_pos (by omega), if_pos rfl]; rfl
      refine .inl ⟨_, step, ⟨j + 1, rfl, hlt, ?_, fun r => ?_⟩, by simp only [Int.toNat_natCast]; omega⟩
      · dsimp only
        split
        · exact hb.or (U32.pow (by omega))
        · exact hb
      · dsimp only
        cases hu : u with
        | true =>
          rw [if_pos rfl, bt_or32 hb (U32.pow (by omega)), Bool.or_eq_true, hr, bt_pow, decide_eq_true_eq]
          constructor
          · rintro (⟨h1, h2⟩ | rfl)
            · exact ⟨by omega, h2⟩
            · exact ⟨by omega, hu2.1 hu⟩
          · rintro ⟨h1, h2⟩
            by_cases e : j = r
            · exact .inr e
            · exact .inl ⟨by omega, h2⟩
        | false =>
          rw [if_neg (by simp), hr]
          constructor
          · rintro ⟨h1, h2⟩; exact ⟨by omega, h2⟩
          · rintro ⟨h1, h2⟩
            by_cases e : r = j
            · subst e
              rw [hu2.2 h2] at hu; cases hu
            · exact ⟨by omega, h2⟩
    · refine .inr ⟨b, ?_, hb, fun r => ?_⟩
      · unfold auto_Make_L4
        dsimp only
        rw [if_neg (by simp; omega)]
      · rw [hr]
        have : j = ps.length := by omega
        rw [this]; rfl
  · exact ⟨0, rfl, Nat.zero_le _, ⟨by decide, by decide⟩, fun r => by rw [bt_zero]; simp⟩
theorem make_L5 {m : S4} {c : Nat} (hc : c < 32) (hl : ss.length ≤ 200) (hu : ∀ y ∈ ss, U32 y) (hm : W4 m) :
    ∃ t : S4, iter (auto_Make_L5 ss m.1 m.2.1 m.2.2.1 m.2.2.2 (c : Int)) (0, 0, 0, 0, 0) = some (t.1, t.2.1, t.2.2.1, t.2.2.2) ∧ Nxt ss m c t := by
  have key : ∃ r, iter (auto_Make_L5 ss m.1 m.2.1 m.2.2.1 m.2.2.2 (c : Int)) (0, 0, 0, 0, 0) = some r ∧ ∃ t : S4, r = (t.1, t.2.1, t.2.2.1, t.2.2.2) ∧ Nxt ss m c t := by
    refine iter_rule (I := fun q => ∃ (j : Nat) (t : S4), q = (t.1, t.2.1, t.2.2.1, t.2.2.2, (j : Int)) ∧ j ≤ ss.length ∧ W4 t ∧ ∀ p, me t p = true ↔ p < j ∧ me m p = true ∧ bt (ss.getD p 0) c = true) (μ := fun q => ss.length - q.2.2.2.2.toNat) _ ?_ ?_
    · rintro q ⟨j, t, rfl, hj, ht, hp⟩
      by_cases hlt : j < ss.length
      · have c1 : 0 ≤ (j : Int) ∧ (j : Int) < (ss.length : Int) := by omega
        have hh := has_ok hm (show j < 256 by omega)
        have hbit := has_u32 (hu _ (getD_mem' (d := 0) hlt)) hc
        have had := add_ok ht (show j < 256 by omega)
        obtain ⟨v, hv1, hv2⟩ : ∃ v : Bool, v = (me m j && bt (ss.getD j 0) c) ∧ True := ⟨_, rfl, trivial⟩
        have step : auto_Make_L5 ss m.1 m.2.1 m.2.2.1 m.2.2.2 (c : Int) (t.1, t.2.1, t.2.2.1, t.2.2.2, (j : Int)) = some (.inl ((if v = true then ad4 j t else t).1, (if v = true then ad4 j t else t).2.1, (if v = true then ad4 j t else t).2.2.1, (if v = true then ad4 j t else t).2.2.2, ((j + 1 : Nat) : Int))) := by
          unfold auto_Make_L5
          dsimp only
          rw [if_pos (by simp; omega), if_pos c1, Int.toNat_natCast, if_pos hlt, hh, wrap_succ (by omega), Int.toNat_natCast, hbit, had]
          simp only [Option.bind_some]
          rw [if_pos (show 0 ≤ (c : Int) by omega)]
          subst hv1
          cases me m j <;> cases bt (ss.getD j 0) c <;> rfl
        refine .inl ⟨_, step, ⟨j + 1, _, rfl, hlt, ?_, fun p => ?_⟩, by simp only [Int.toNat_natCast]; omega⟩
        · split
          · exact ht.ad j
          · exact ht
        · subst hv1
          cases hv : (me m j && bt (ss.getD j 0) c) with
          | true =>
            rw [if_pos rfl, me_ad ht (by omega), Bool.or_eq_true, hp, decide_eq_true_eq]
            constructor
            · rintro (⟨h1, h2⟩ | rfl)
              · exact ⟨by omega, h2⟩
              · exact ⟨by omega, by simpa using hv⟩
            · rintro ⟨h1, h2⟩
              by_cases e : j = p
              · exact .inr e
              · exact .inl ⟨by omega, h2⟩
          | false =>
            rw [if_neg (by simp), hp]
            constructor
            · rintro ⟨h1, h2⟩; exact ⟨by omega, h2⟩
            · rintro ⟨h1, h2⟩
              by_cases e : p = j
              · subst e
                rw [h2.1, h2.2] at hv; cases hv
              · exact ⟨by omega, h2⟩
      · refine .inr ⟨_, ?_, t, rfl, ht, fun p => ?_⟩
        · unfold auto_Make_L5
          dsimp only
          rw [if_neg (by simp; omega)]
        · rw [hp]
          have : j = ss.length := by omega
          rw [this]
    · exact ⟨0, z4, rfl, Nat.zero_le _, W4.z, fun p => by rw [me_z]; simp⟩
  obtain ⟨r, h1, t, rfl, h2⟩ := key
  exact ⟨t, h1, h2⟩
end
end Go.Proofs.Ytnjdmbifjbahdaa.T
