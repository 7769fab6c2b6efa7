/- Any text: the program's Parse answers as the document's. -/
import Derived.Test.YtjfjigknkhgkdaaTv03jm
import Derived.Test.YtjfjigknkhgkdaaTv03vm
import Derived.Test.YtjfjigknkhgkdaaTvUm
namespace Go.Proofs.Ytjfjigknkhgkdaa.T
open Go Go.Tv Go.Proofs
def Dep : Nat → Tree → Prop
  | 0, _ => False
  | n + 1, .node _ _ ks => ks.length ≤ 20000 ∧ ∀ k ∈ ks, Dep n k
theorem Dep.succ : ∀ {n : Nat} {x : Tree}, Dep n x → Dep (n + 1) x
  | 0, _, h => h.elim
  | _ + 1, .node _ _ _, h => ⟨h.1, fun k hk => (h.2 k hk).succ⟩
theorem Dep.le {n : Nat} {x : Tree} (h : Dep n x) : ∀ {m : Nat}, n ≤ m → Dep m x
  | m, hm => by
    induction m with
    | zero => cases Nat.le_zero.mp hm; exact h
    | succ m ih =>
      rcases Nat.lt_or_ge m n with h1 | h1
      · have : n = m + 1 := by omega
        rw [← this]; exact h
      · exact (ih h1).succ
theorem Dep.leaf {o s : Int} {n : Nat} : Dep (n + 1) (.node o s []) := ⟨by simp, fun k hk => by cases hk⟩
theorem Dep.one {o s : Int} {n : Nat} {x : Tree} (h : Dep n x) : Dep (n + 1) (.node o s [x]) := ⟨by simp, fun k hk => by cases List.mem_singleton.mp hk; exact h⟩
theorem same_expr : ∀ (n : Nat) (x : Tree), Dep n x → rr_SameExpr n x.op x.set x.kids x.op x.set x.kids = some true
  | 0, _, h => h.elim
  | n + 1, .node o s ks, ⟨h1, h2⟩ => by
    show rr_SameExpr_F (rr_SameExpr n) o s ks o s ks = some true
    unfold rr_SameExpr_F
    simp only [bne_self_eq_false, Bool.false_eq_true, if_false, Option.bind_some]
    have hi : iter (rr_SameExpr_L1 ks ks (rr_SameExpr n)) ((0 : Nat) : Int) = some (.inl ()) := by
      refine iter_count (fun k : Nat => (k : Int)) ks.length (fun k hk => ?_) ?_
      · have := same_expr n (ks.getD k (Tree.node 0 0 [])) (h2 _ (getD_mem' hk))
        unfold rr_SameExpr_L1
        rw [if_pos (by simp; omega), if_pos ⟨by omega, by omega⟩, if_pos ⟨by omega, by omega⟩, Int.toNat_natCast, this, wrap_i64 (by omega) (by omega)]
        rfl
      · unfold rr_SameExpr_L1
        rw [if_neg (by simp)]
    rw [show iter (rr_SameExpr_L1 ks ks (rr_SameExpr n)) 0 = _ from hi]
    rfl
theorem same_ints (l : List Int) (h : l.length ≤ 20000) : ra_SameInts l l = some true := by
  unfold ra_SameInts
  rw [if_neg (by simp)]
  have hi : iter (ra_SameInts_L1 l l) ((0 : Nat) : Int) = some (.inl ()) := by
    refine iter_count (fun k : Nat => (k : Int)) l.length (fun k hk => ?_) ?_
    · unfold ra_SameInts_L1
      rw [if_pos (by simp; omega), if_pos ⟨by omega, by omega⟩, if_pos ⟨by omega, by omega⟩, if_neg (by simp), wrap_i64 (by omega) (by omega)]
      rfl
    · unfold ra_SameInts_L1
      rw [if_neg (by simp)]
  rw [show iter (ra_SameInts_L1 l l) 0 = _ from hi]
  rfl
theorem same_rules (c : List (List UInt8)) (j a : Int) (tr : List Int) (l : RL) (h1 : c.length ≤ 24) (h2 : tr.length ≤ 24) (h3 : l.length ≤ 24) (h4 : ∀ x ∈ l, Dep 1000 x.2.1 ∧ Dep 1000 x.2.2) : rr_SameRules c j a tr l c j a tr l = some true := by
  unfold rr_SameRules
  simp only [bne_self_eq_false, Bool.false_eq_true, if_false, Option.bind_some, same_ints tr (by omega), Bool.not_true]
  have hi : iter (rr_SameRules_L1 c c) ((0 : Nat) : Int) = some (.inl ()) := by
    refine iter_count (fun k : Nat => (k : Int)) c.length (fun k hk => ?_) ?_
    · unfold rr_SameRules_L1
      rw [if_pos (by simp; omega), if_pos ⟨by omega, by omega⟩, if_pos ⟨by omega, by omega⟩, if_neg (by simp), wrap_i64 (by omega) (by omega)]
      rfl
    · unfold rr_SameRules_L1
      rw [if_neg (by simp)]
  have hj : iter (rr_SameRules_L2 l l) ((0 : Nat) : Int) = some (.inl ()) := by
    refine iter_count (fun k : Nat => (k : Int)) l.length (fun k hk => ?_) ?_
    · have h5 := h4 _ (getD_mem' (d := ((0 : Int), ((Tree.node 0 0 []), (Tree.node 0 0 [])))) hk)
      unfold rr_SameRules_L2
      have c2 : 0 ≤ (k : Int) ∧ (k : Int) < (l.length : Int) := ⟨by omega, by omega⟩
      rw [if_pos (by simp; omega), if_pos c2, if_pos c2, if_neg (by simp), if_pos c2, if_pos c2, Int.toNat_natCast, same_expr 1000 _ h5.1]
      simp only [Option.bind_some, Bool.not_true, Bool.false_eq_true, if_false]
      rw [if_pos c2, if_pos c2, same_expr 1000 _ h5.2, wrap_i64 (by omega) (by omega)]
      rfl
    · unfold rr_SameRules_L2
      rw [if_neg (by simp)]
  rw [show iter (rr_SameRules_L1 c c) 0 = _ from hi]
  simp only [Option.bind_some]
  rw [show iter (rr_SameRules_L2 l l) 0 = _ from hj]
  rfl
def DepE (E : Option (Int → Toks → TR)) (k : Nat) : Prop := ∀ f, E = some f → ∀ pl ts x r pl1, ts.size ≤ 10000 → f pl ts = .inl (x, r, pl1) → Dep k x
section
variable {E : Option (Int → Toks → TR)} {wh : Int} {sets : Sets} {k : Nat}
theorem thingS_dep (hE : DepE E (k + 1)) {pl : Int} {ts : Toks} {x r pl1} (hz : ts.size ≤ 10000) (h : thingS E wh sets pl ts = .inl (x, r, pl1)) : Dep (k + 1) x := by
  cases ts with
  | bad n => cases h
  | eof n => cases h
  | wd w n r' =>
    simp only [thingS] at h
    split at h
    · cases h
    · split at h <;> cases h
      exact Dep.leaf
  | sg d n r' =>
    simp only [Toks.size] at hz
    simp only [thingS] at h
    split at h
    · split at h
      · cases h
      · split at h
        · cases h
        · rename_i h1
          split at h
          · cases h
          · cases h
            exact hE _ rfl _ _ _ _ _ (by omega) h1
    · split at h
      · cases h
      · split at h
        · cases h; exact Dep.leaf
        · split at h
          · cases h
          · split at h
            · cases h
            · cases h; exact Dep.leaf
theorem oftenS_dep (hE : DepE E (k + 1)) {pl : Int} {ts : Toks} {x r pl1} (hz : ts.size ≤ 10000) (h : oftenS E wh sets pl ts = .inl (x, r, pl1)) : Dep (k + 2) x := by
  unfold oftenS at h
  split at h
  · cases h
  · rename_i h1
    have a := thingS_dep hE hz h1
    split at h
    · cases h
    · split at h
      · cases h; exact a.one
      · split at h
        · cases h; exact a.one
        · split at h <;> cases h
          · exact a.one
          · exact a.succ
    · cases h; exact a.succ
    · cases h; exact a.succ
theorem rowS_dep (hL : Less E) (hE : DepE E (k + 1)) : ∀ {f : Nat} {ts : Toks} {pl acc l r pl1}, ts.size ≤ 10000 → (∀ y ∈ acc, Dep (k + 2) y) → rowS E wh sets f ts pl acc = .inl (l, r, pl1) → (∀ y ∈ l, Dep (k + 2) y) ∧ l.length ≤ acc.length + f
  | 0, ts, pl, acc, l, r, pl1, hz, ha, h => by cases h; exact ⟨ha, by omega⟩
  | f + 1, ts, pl, acc, l, r, pl1, hz, ha, h => by
    simp only [rowS] at h
    split at h
    · cases h
    · split at h
      · split at h
        · cases h
        · rename_i h1
          have a := oftenS_dep hE hz h1
          have z := oftenS_size hL h1
          have b := rowS_dep hL hE (by omega) (fun y hy => by
            rcases List.mem_append.mp hy with h2 | h2
            · exact ha y h2
            · cases List.mem_singleton.mp h2; exact a) h
          refine ⟨b.1, ?_⟩
          have := b.2
          simp only [List.length_append, List.length_singleton] at this
          omega
      · cases h; exact ⟨ha, by omega⟩
theorem rowT_dep (hL : Less E) (hE : DepE E (k + 1)) {pl ts x r pl1} (hz : ts.size ≤ 10000) (h : rowT E wh sets pl ts = .inl (x, r, pl1)) : Dep (k + 3) x := by
  unfold rowT at h
  split at h
  · cases h
  · rename_i l r' pl' h1
    cases h
    have a := rowS_dep hL hE hz (fun y hy => by cases hy) h1
    match l, a with
    | [], _ => exact Dep.leaf
    | [y], a => exact (a.1 y (by simp)).succ
    | y :: z :: l, a => exact ⟨by have := a.2; simp only [List.length_nil] at this; omega, a.1⟩
theorem altS_dep (hL : Less E) (hE : DepE E (k + 1)) : ∀ {f : Nat} {ts : Toks} {pl acc l r pl1}, ts.size ≤ 10000 → (∀ y ∈ acc, Dep (k + 3) y) → altS E wh sets f ts pl acc = .inl (l, r, pl1) → (∀ y ∈ l, Dep (k + 3) y) ∧ l.length ≤ acc.length + f
  | 0, ts, pl, acc, l, r, pl1, hz, ha, h => by cases h; exact ⟨ha, by omega⟩
  | f + 1, ts, pl, acc, l, r, pl1, hz, ha, h => by
    simp only [altS] at h
    split at h
    · cases h
    · cases h; exact ⟨ha, by omega⟩
    · rename_i h0
      have z0 := signS_size h0
      simp only [if_true] at z0
      split at h
      · cases h
      · rename_i h1
        have a := rowT_dep hL hE (by omega) h1
        have z := rowT_size hL h1
        have b := altS_dep hL hE (by omega) (fun y hy => by
          rcases List.mem_append.mp hy with h2 | h2
          · exact ha y h2
          · cases List.mem_singleton.mp h2; exact a) h
        refine ⟨b.1, ?_⟩
        have := b.2
        simp only [List.length_append, List.length_singleton] at this
        omega
theorem eithS_dep (hL : Less E) (hE : DepE E (k + 1)) {pl ts x r pl1} (hz : ts.size ≤ 10000) (h : eithS E wh sets pl ts = .inl (x, r, pl1)) : Dep (k + 4) x := by
  unfold eithS at h
  split at h
  · cases h
  · rename_i h0
    have a0 := rowT_dep hL hE hz h0
    have z0 := rowT_size hL h0
    split at h
    · cases h
    · rename_i l r' pl' h1
      cases h
      have a := altS_dep hL hE (by omega) (fun y hy => by cases List.mem_singleton.mp hy; exact a0) h1
      match l, a with
      | [], _ => exact Dep.leaf
      | [y], a => exact (a.1 y (by simp)).succ
      | y :: z :: l, a => exact ⟨by have := a.2; simp only [List.length_singleton] at this; omega, a.1⟩
end
theorem eitherS_dep {wh : Int} {sets : Sets} : ∀ {d : Nat} {pl ts x r pl1}, ts.size ≤ 10000 → eitherS wh sets d pl ts = .inl (x, r, pl1) → Dep (3 * d + 4) x
  | 0, _, _, _, _, _, hz, h => eithS_dep (k := 0) less_none (fun f hf => by cases hf) hz h
  | d + 1, _, _, _, _, _, hz, h => eithS_dep (k := 3 * d + 3) less_some (fun f hf pl ts x r pl1 hz h => by cases hf; exact eitherS_dep hz h) hz h
def DepL (l : RL) : Prop := ∀ x ∈ l, Dep 1000 x.2.1 ∧ Dep 1000 x.2.2
theorem lineS_dep {s s1 : PS} {w n r} (hz : r.size ≤ 10000) (hl : DepL s.list) (h : lineS s w n r = .inl s1) : DepL s1.list := by
  unfold lineS at h
  split at h
  · split at h
    · cases h
    · cases h; exact hl
  · split at h
    · split at h
      · cases h
      · cases h; exact hl
    · split at h
      · split at h
        · cases h
        · cases h; exact hl
      · split at h
        · split at h
          · cases h
          · cases h; exact hl
        · split at h
          · cases h
          · split at h
            · cases h
            · rename_i h1
              cases h
              unfold ruleS at h1
              split at h1
              · cases h1
              · split at h1
                · cases h1
                · rename_i h2
                  split at h1
                  · cases h1
                  · rename_i h3
                    split at h1
                    · cases h1
                    · rename_i h4
                      split at h1
                      · cases h1
                      · cases h1
                        have := eitherS_size h2
                        have := wantS_size h3
                        intro y hy
                        rcases List.mem_append.mp hy with h6 | h6
                        · exact hl y h6
                        · cases List.mem_singleton.mp h6
                          exact ⟨(eitherS_dep hz h2).le (by omega), (eitherS_dep (by omega) h4).le (by omega)⟩
theorem allS_dep : ∀ {f : Nat} {s s1 : PS}, s.ts.size ≤ 10000 → DepL s.list → allS f s = .inl s1 → DepL s1.list
  | 0, s, s1, hz, hl, h => by cases h; exact hl
  | f + 1, s, s1, hz, hl, h => by
    simp only [allS] at h
    cases hts : s.ts with
    | bad n => rw [hts] at h; cases h
    | eof n => rw [hts] at h; cases h; exact hl
    | sg c n r => rw [hts] at h; cases h
    | wd w n r =>
      rw [hts] at h hz
      simp only [Toks.size] at h hz
      cases hls : lineS s w n r with
      | inr e => rw [hls] at h; cases h
      | inl s2 =>
        rw [hls] at h
        have := lineS_size hls
        exact allS_dep (by omega) (lineS_dep (by omega) hl hls) h
theorem parseS_good {t : List UInt8} {x} (h : parseS t = .inl x) : x.1.length ≤ 24 ∧ x.2.2.2.1.length = x.1.length ∧ x.2.2.2.2.length ≤ 24 ∧ DepL x.2.2.2.2 := by
  unfold parseS at h
  split at h
  · cases h
  · rename_i hl
    split at h
    · cases h
    · rename_i s hs
      cases h
      have hz := T_size (t := t) _ 0 (Nat.le_refl _) (by omega)
      have hp := allP_L1 (t := t) (by omega) (t.length + 1) (init (T t 0)) 0 (at0 t) (by show (T t 0).size < _; omega) (inv0 _)
      rw [hs] at hp
      obtain ⟨_, _, _, _, h4⟩ := hp
      exact ⟨h4.hc, h4.htr, h4.hl, allS_dep (by show (T t 0).size ≤ _; omega) (fun x hx => by cases hx) hs⟩
end Go.Proofs.Ytjfjigknkhgkdaa.T
