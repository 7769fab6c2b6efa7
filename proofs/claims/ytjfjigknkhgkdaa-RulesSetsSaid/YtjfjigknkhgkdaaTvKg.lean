/- Rows of rows: to open a row, to put one in. -/
import Derived.Test.YtjfjigknkhgkdaaTvKe
namespace Go.Tv
open Go Go.RowKit
section
variable {P : Program} {Bw : Nat → Prop} {w0 : Base} {ρ : Nat → Option Value} {φ φ1 : Nat → Nat → Prop} {h : Nat → Option Obj} {w : World} {new : Nat}
theorem Post.after' {u1 u2 : Ups} {h1 : Nat → Option Obj} (e : apply u1 h = h1) (hF : ∀ β a v, Fr (own φ h) Bw w β a v → Fr (own φ1 h1) Bw w β a v) {x : AVal} {v : Value} {w' : World}
    (hp : Post Bw w0 ρ φ1 h1 w new x u2 v w') : Post Bw w0 ρ φ h w new x (u1 ++ u2) v w' := by
  subst e
  obtain ⟨ρ', φ', q1, q2, q3, q4, q5⟩ := hp
  rw [← apply_append] at q1 q2 q5
  exact ⟨ρ', φ', q1, fun β a v hh => q2 _ _ _ (hF _ _ _ hh), q3, q4, q5⟩
theorem good_openRow (m : Mem Bw w0 ρ φ h w) (hn : ρ new = none) {o : Oper} {a : Act} {t : TypeId} {ti : TI} (ht : TIok P t ti) (hk : ti.k.agg = false) {xo : Operand} {id i : Nat} (hx : V (Fr (own φ h) Bw w) ρ (.adr id i 1 0) (a.eval xo)) (ho : o.op = .load t xo)
    {e e2 : TypeId} {A : Ty} {xss : List (List A.den)} (hi : h id = some (.mat e e2 A xss none)) (hlt : i < xss.length) :
    Good P o a w (Post Bw w0 ρ φ h w new (.sl new) [(id, some (.mat e e2 A xss (some (i, new)))), (new, some (.arr e2 A (xss.getD i [])))]) := by
  rw [show xss.getD i [] = xss[i] by simp [hlt]]
  obtain ⟨v, cells, u, q1, q2, q3, ⟨ad, n, c, q4⟩, m', hF, hρ⟩ := m.openRow hi hn hlt
  simp only [V] at hx
  obtain ⟨g, hg, he⟩ := hx
  have hob : u.ownBlock = some g := by
    rw [q1] at hg
    rcases q2.2 with ⟨rfl, h0⟩ | ⟨g', cap, cur, rfl, _⟩
    · omega
    · rcases hg with hg | ⟨n, c, hg⟩
      · cases hg
      · simp only [Option.some.injEq, Value.slice.injEq] at hg
        rw [hg.1]; rfl
  have hcell := q2.cells hob _ _ q3
  rw [add_mk, Nat.zero_add] at hcell
  refine Good.of_run (v := v) (w' := w) ?_ ⟨_, _, m', hF, hρ, fun j y hj => ?_, ?_⟩
  · simp only [execOp, ho, Instr.loadAt, he, Instr.sureAddr, Sem.run_bind, Sem.run_pure, Result.andThen_ok, Nat.mul_one, Nat.add_zero]
    unfold loadVar
    rw [Sem.run_bind, run_isAgg ht]
    simp only [Result.andThen_ok, hk]
    rw [if_neg (by simp), run_load, hcell]
    rfl
  · by_cases e : j = new
    · exact .inr ⟨0, by omega, e⟩
    · rw [upd_ne _ _ e] at hj; exact .inl hj
  · simp only [V]
    exact ⟨upd_same _ _ _, ad, n, c, q4⟩
theorem good_putRow (m : Mem Bw w0 ρ φ h w) {o : Oper} {a : Act} {t : TypeId} {ti : TI} (ht : TIok P t ti) (hsz : ti.size = 1) {xo yo : Operand} {id i r : Nat} (hx : V (Fr (own φ h) Bw w) ρ (.adr id i 1 0) (a.eval xo))
    (hy : V (Fr (own φ h) Bw w) ρ (.sl r) (a.eval yo)) (ho : o.op = .store t xo yo) {e e2 : TypeId} {A : Ty} {xss : List (List A.den)} {hole : Option (Nat × Nat)} (hi : h id = some (.mat e e2 A xss hole)) (hlt : i < xss.length)
    (hh : ∀ k j, hole = some (k, j) → k = i) : Good P o a w (Post Bw w0 ρ φ h w new .unk [(id, some (.mat e e2 A xss (some (i, r))))]) := by
  obtain ⟨u, q1, hs, h0, _, cells, c1, c2, c3⟩ := m.ob id _ hi
  simp only [V] at hy
  obtain ⟨hr, ad, vn, vc, hv⟩ := hy
  generalize hvv : a.eval yo = vr at hr hv
  have hone : vr.cells = #[vr] := cells_of_one (by rw [hv]; rfl)
  simp only [V] at hx
  obtain ⟨g, hg, he⟩ := hx
  rcases c1.2 with ⟨rfl, hn⟩ | ⟨g', cap, cur, rfl, _, hheap, hncap, hcapm, hcsz, htake⟩
  · omega
  rw [q1] at hg
  have hgg : g' = g := by
    rcases hg with hg | ⟨n, c, hg⟩
    · cases hg
    · simp only [Option.some.injEq, Value.slice.injEq, Addr.mk.injEq] at hg; exact hg.1.1
  subst hgg
  have hcl : cells.length = xss.length * 1 := c1.1
  have hrun := run_storeVar (P := P) ht hheap (v := vr) (p := i * 1 + 0) (by rw [hone, hsz]; rfl) (by rw [hcsz, hsz]; omega) (fun c hc => by
    rw [hone] at hc
    simp only [List.mem_singleton] at hc
    rw [hc, hv]; rfl)
  have hsplice : (cur.toList.take (i * 1 + 0) ++ vr.cells.toList ++ cur.toList.drop (i * 1 + 0 + ti.size)) = cur.toList.set i vr := by
    rw [hone, hsz, List.set_eq_take_append_cons_drop, if_pos (by simp only [Array.length_toList]; omega)]
    simp
  rw [hsplice] at hrun
  refine Good.of_skip (w' := _) (by simp [execOp, ho, Instr.storeAt, he, Instr.sureAddr, hvv]; simp only [Nat.mul_one, Nat.add_zero] at hrun; rw [hrun]; rfl) ?_
  refine post_putS m (some id) id (.mat e e2 A xss (some (i, r))) (.slice (some ⟨g', 0, none⟩) xss.length cap) (φ id) (some g') (grownBy_setRow w g' _) (fun k e => ⟨id, _, rfl, hi, rfl, by cases e; exact hs g' rfl⟩) (.inr ⟨rfl, q1⟩)
    (fun _ k hk => Nat.lt_of_lt_of_le (m.lt id _ k hi rfl hk) (grownBy_setRow w g' _).size) (fun _ k hk => .inr ⟨id, _, rfl, hi, rfl, hk⟩) (fun F' ρ' hF hρ => ?_) (by rw [upd_self_some]; rfl) (fun e => by rw [q1] at e; cases e) (fun F' ρ' hF hρ hnew => by simp only [V])
  have hshut : ∀ j, j ≠ i → Shut hole j := fun j hj k id' e => by rw [hh k id' e]; exact hj
  have hset : ∀ j, j ≠ i → (cells.set i vr)[j]? = cells[j]? := fun j hj => List.getElem?_set_ne (Ne.symm hj)
  refine ⟨hs, h0, fun k id' e => (by cases e; exact hlt), cells.set i vr, ⟨by rw [List.length_set]; exact hcl, .inr ⟨g', cap, (cur.toList.set i vr).toArray, rfl, Nat.zero_le _, setRow_heap w g' cur _ e _ hheap, hncap, hcapm, by simp only [List.size_toArray, List.length_set, Array.length_toList]; exact hcsz, ?_⟩⟩, fun j hj => ?_, fun j j' vj vj' b hne s1 s2 e1 e2' => ?_⟩
  · show (cur.toList.set i vr).take (xss.length * 1) = _
    rw [← htake, List.take_set]
  · by_cases e : j = i
    · subst e
      refine ⟨vr, by rw [List.getElem?_set_self (by omega)], ⟨ad, vn, vc, hv⟩, fun hsh => absurd rfl (hsh j r rfl), fun id' e => ?_⟩
      cases e
      exact hρ _ _ hr
    · obtain ⟨v, p1, p2, p3, _⟩ := c2 j hj
      refine ⟨v, by rw [hset j e]; exact p1, p2, fun _ => ?_, fun id' e' => by cases e'; exact absurd rfl e⟩
      obtain ⟨b1, rc, b2, b3⟩ := p3 (hshut j e)
      refine ⟨b1, rc, ownsRow_same (fun k hk => ?_) b2, fun q hq => Vcells.mono (hF _) (fun _ _ h => h) (b3 q hq)⟩
      refine (grownBy_setRow w g' _).block k ?_ (fun e' => (b1 k hk).2 (by rw [e']; rfl))
      exact m.lt id _ k hi rfl (b1 k hk).1
  · have n1 : j ≠ i := fun e => s1 i r rfl e
    have n2 : j' ≠ i := fun e => s2 i r rfl e
    rw [hset j n1] at e1
    rw [hset j' n2] at e2'
    exact c3 j j' vj vj' b hne (hshut j n1) (hshut j' n2) e1 e2'
end
end Go.Tv
