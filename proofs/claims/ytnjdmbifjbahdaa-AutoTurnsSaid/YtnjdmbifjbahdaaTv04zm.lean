/- AutoTurns holds. -/
import Derived.Test.YtnjdmbifjbahdaaTvYm
import Derived.Test.YtnjdmbifjbahdaaTv04rdm
import Derived.Test.YtnjdmbifjbahdaaTv04nm
import Derived.Test.YtnjdmbifjbahdaaTvT04yAutoTurns
import Derived.Test.YtnjdmbifjbahdaaTvUm
namespace Go.Proofs.Ytnjdmbifjbahdaa.T
open Go Go.Tv Go.Proofs
theorem wrap_suc {k : Nat} (h : k < 10000000) : IntKind.i64.wrap ((k : Int) + 1) = ((k + 1 : Nat) : Int) := by rw [wrap_i64 (by omega) (by omega)]; omega
theorem Tok_turn : ∀ (d : Nat) (t : Tree), Tok d t → Tok d (turnT t)
  | 0, _, h => h.elim
  | d + 1, .node o s ks, h => by
    obtain ⟨h1, h2, h3⟩ := h
    have hm : ∀ k ∈ turnTs ks, Tok d k := fun k hk => by
      rw [turnTs_map] at hk
      obtain ⟨k', q1, rfl⟩ := List.mem_map.1 hk
      exact Tok_turn d k' (h3 k' q1)
    simp only [turnT]
    refine ⟨h1, ?_, fun k hk => ?_⟩
    · simp only [Tree.kids] at h2 ⊢
      split <;> simpa [turnTs_map] using h2
    · simp only [Tree.kids] at hk
      split at hk
      · exact hm k (List.mem_reverse.1 hk)
      · exact hm k hk
def resK (o : Int) (ks : List Tree) : List Tree := if o = 2 then (turnTs ks).reverse else turnTs ks
theorem resK_len (o : Int) (ks : List Tree) : (resK o ks).length = ks.length := by
  unfold resK; split <;> simp [turnTs_map]
theorem resK_get {o : Int} {ks : List Tree} {k : Nat} (h : k < ks.length) : (resK o ks).getD k (Tree.node 0 0 []) = turnT (ks.getD (if o = 2 then ks.length - 1 - k else k) (Tree.node 0 0 [])) := by
  have hl := resK_len o ks
  rw [getD_lt (by omega)]
  unfold resK
  split
  · rw [getD_lt (by omega)]
    simp only [turnTs_map, List.getElem_reverse, List.getElem_map, List.length_map]
  · rw [getD_lt (by omega)]
    simp only [turnTs_map, List.getElem_map]
theorem turn_node (o s : Int) (ks : List Tree) : turnT (.node o s ks) = .node o s (resK o ks) := by simp only [turnT, resK]
abbrev RTn := Int → Int → (List Tree) → Option Tree
theorem turnA_L1 {R : RTn} {o : Int} {ks : List Tree} (hk : ks.length ≤ 1000) (hR : ∀ k ∈ ks, R k.op k.set k.kids = some (turnT k)) : iter (auto_Turn_L1 o ks R) ([], 0) = some (resK o ks) := by
  have hl := resK_len o ks
  refine iter_count (fun k => ((resK o ks).take k, (k : Int))) ks.length (fun k hlt => ?_) ?_
  · have hg := resK_get (o := o) hlt
    have c5 := wrap_suc (k := k) (by omega)
    have hle : ((resK o ks).take k).length ≤ 1000 := by simp; omega
    unfold auto_Turn_L1
    dsimp only
    rw [if_pos (by simp; omega), if_pos (by omega), c5, take_succ' (d := Tree.node 0 0 []) (by omega), hg]
    by_cases h2 : o = 2
    · subst h2
      have e : IntKind.i64.wrap (IntKind.i64.wrap ((ks.length : Int) - 1) - (k : Int)) = ((ks.length - 1 - k : Nat) : Int) := by
        rw [wrap_i64 (x := (ks.length : Int) - 1) (by omega) (by omega), wrap_i64 (by omega) (by omega)]; omega
      rw [if_pos (show ((2 : Int) == 2) = true from rfl), if_pos rfl, e, if_pos (by omega), Int.toNat_natCast]
      simp only [Option.bind_some]
      rw [hR _ (getD_mem' (by omega))]
      simp only [Option.bind_some, tree_eta]
      rw [if_pos (by simp only [List.length_cons, List.length_nil]; omega)]
    · rw [if_neg (by simpa using h2), if_neg h2, Int.toNat_natCast]
      simp only [Option.bind_some]
      rw [hR _ (getD_mem' (by omega))]
      simp only [Option.bind_some, tree_eta]
      rw [if_pos (by simp only [List.length_cons, List.length_nil]; omega)]
  · unfold auto_Turn_L1
    dsimp only
    rw [if_neg (by simp), List.take_of_length_le (by omega)]
theorem turnR_L1 {R : RTn} {o : Int} {ks : List Tree} (hk : ks.length ≤ 1000) (hR : ∀ k ∈ ks, R k.op k.set k.kids = some (turnT k)) : iter (stanzaref04_Turn_L1 o ks R) ([], 0) = some (resK o ks) := by
  have hl := resK_len o ks
  refine iter_count (fun k => ((resK o ks).take k, (k : Int))) ks.length (fun k hlt => ?_) ?_
  · have hg := resK_get (o := o) hlt
    have c5 := wrap_suc (k := k) (by omega)
    have hle : ((resK o ks).take k).length ≤ 1000 := by simp; omega
    unfold stanzaref04_Turn_L1
    dsimp only
    rw [if_pos (by simp; omega), c5, take_succ' (d := Tree.node 0 0 []) (by omega), hg]
    by_cases h2 : o = 2
    · subst h2
      have e : IntKind.i64.wrap (IntKind.i64.wrap ((ks.length : Int) - 1) - (k : Int)) = ((ks.length - 1 - k : Nat) : Int) := by
        rw [wrap_i64 (x := (ks.length : Int) - 1) (by omega) (by omega), wrap_i64 (by omega) (by omega)]; omega
      rw [if_pos (show ((2 : Int) == 2) = true from rfl), if_pos rfl, e]
      simp only [Option.bind_some]
      rw [if_pos (by omega), Int.toNat_natCast, hR _ (getD_mem' (by omega))]
      simp only [Option.bind_some, tree_eta]
      rw [if_pos (by simp only [List.length_cons, List.length_nil]; omega)]
    · rw [if_neg (by simpa using h2), if_neg h2]
      simp only [Option.bind_some]
      rw [if_pos (by omega), Int.toNat_natCast, hR _ (getD_mem' (by omega))]
      simp only [Option.bind_some, tree_eta]
      rw [if_pos (by simp only [List.length_cons, List.length_nil]; omega)]
  · unfold stanzaref04_Turn_L1
    dsimp only
    rw [if_neg (by simp), List.take_of_length_le (by omega)]
theorem turnA_ok : ∀ (d : Nat) (t : Tree), Tok d t → ∀ f, d ≤ f → auto_Turn f t.op t.set t.kids = some (turnT t)
  | 0, _, h, _, _ => h.elim
  | d + 1, .node o s ks, h, 0, hf => absurd hf (by omega)
  | d + 1, .node o s ks, h, f + 1, hf => by
    show auto_Turn_F (auto_Turn f) o s ks = _
    unfold auto_Turn_F
    rw [turnA_L1 (ks := ks) h.2.1 (fun k hk => turnA_ok d k (h.2.2 k hk) f (by omega)), turn_node]
    rfl
theorem turnR_ok : ∀ (d : Nat) (t : Tree), Tok d t → ∀ f, d ≤ f → stanzaref04_Turn f t.op t.set t.kids = some (turnT t)
  | 0, _, h, _, _ => h.elim
  | d + 1, .node o s ks, h, 0, hf => absurd hf (by omega)
  | d + 1, .node o s ks, h, f + 1, hf => by
    show stanzaref04_Turn_F (stanzaref04_Turn f) o s ks = _
    unfold stanzaref04_Turn_F
    rw [turnR_L1 (ks := ks) h.2.1 (fun k hk => turnR_ok d k (h.2.2 k hk) f (by omega)), turn_node]
    rfl
theorem same_ok : ∀ (d : Nat) (t : Tree), Tok d t → ∀ f, d ≤ f → rr_SameExpr f t.op t.set t.kids t.op t.set t.kids = some true
  | 0, _, h, _, _ => h.elim
  | d + 1, .node o s ks, h, 0, hf => absurd hf (by omega)
  | d + 1, .node o s ks, h, f + 1, hf => by
    have hk : ks.length ≤ 1000 := h.2.1
    have L1 : iter (rr_SameExpr_L1 ks ks (rr_SameExpr f)) 0 = some (.inl ()) := by
      refine iter_count (fun k => (k : Int)) ks.length (fun k hlt => ?_) ?_
      · unfold rr_SameExpr_L1
        rw [if_pos (by simp; omega), if_pos (by omega), if_pos (by omega), Int.toNat_natCast, same_ok d (ks.getD k (Tree.node 0 0 [])) (h.2.2 _ (getD_mem' hlt)) f (by omega)]
        simp only [Option.bind_some]
        rw [if_neg (by simp), wrap_suc (by omega)]
      · unfold rr_SameExpr_L1
        rw [if_neg (by simp)]
    show rr_SameExpr_F (rr_SameExpr f) o s ks o s ks = _
    unfold rr_SameExpr_F
    rw [if_neg (by simp), if_neg (by simp)]
    simp only [Option.bind_some]
    rw [if_neg (by simp), L1]
    rfl
theorem says_ok {w : Wd} (hw : w.length ≤ 800000) {t : Tree} (ht : Tok 1000 t) : ∃ r, stanzaref04_Says t.op t.set t.kids w = some r ∧ (r = true ↔ Lg t w) := by
  have e0 : IntKind.i64.wrap ((w.length : Int) + 1) = ((w.length + 1 : Nat) : Int) := wrap_suc (by omega)
  obtain ⟨y, e1, e2, e3⟩ := ends_ok (w := w) (by omega) 1000 t ht 1000 (Nat.le_refl _) ((List.replicate (w.length + 1) false).set 0 true) (by simp)
  refine ⟨y.getD w.length false, ?_, ?_⟩
  · unfold stanzaref04_Says
    rw [e0, if_pos (by omega), Int.toNat_natCast, if_pos (by simp), if_pos (by simp)]
    have ez : (0 : Int).toNat = 0 := rfl
    rw [ez, e1]
    simp only [Option.bind_some]
    rw [if_pos (by omega), Int.toNat_natCast]
  · have := e3 w.length
    simp only [TX] at this
    rw [this]
    have hx : ∀ i, TX ((List.replicate (w.length + 1) false).set 0 true) i ↔ i = 0 := fun i => by
      simp only [TX]
      rw [getD_set (by simp)]
      by_cases e : (0 : Nat) = i
      · simp [e.symm]
      · rw [if_neg e]
        exact ⟨fun h => (zeros _ _ h).elim, fun h => (e h.symm).elim⟩
    constructor
    · rintro ⟨i, q1, q2, q3, q4⟩
      rw [(hx i).1 q3, seg_full, List.drop_zero] at q4
      exact q4
    · intro q4
      exact ⟨0, Nat.zero_le _, Nat.le_refl _, (hx 0).2 rfl, by rw [seg_full, List.drop_zero]; exact q4⟩
theorem turns_L1 {i1 : List Int} (hl : i1.length ≤ 12) {n : Nat} (h1 : 1 ≤ n) (h2 : n ≤ 24) : ∃ w, iter (stanzalaw04_AutoTurns_L1 i1 (n : Int)) ([], 0) = some w ∧ w.length = i1.length := by
  refine iter_rule (I := fun q => ∃ k : Nat, q.2 = (k : Int) ∧ k ≤ i1.length ∧ q.1.length = k) (μ := fun q => i1.length - q.2.toNat) _ ?_ ⟨0, rfl, Nat.zero_le _, rfl⟩
  rintro ⟨w, i⟩ ⟨k, rfl, hk, hw⟩
  dsimp only at hw
  by_cases hlt : k < i1.length
  · have m0 : ¬ (IntKind.u64.wrap (n : Int)) = 0 := by rw [wrap_u64 (by omega) (by omega)]; omega
    refine .inl ⟨(w ++ [IntKind.i64.wrap (Int.tmod (IntKind.u64.wrap (i1.getD k 0)) (IntKind.u64.wrap (n : Int)))], ((k + 1 : Nat) : Int)), ?_, ⟨k + 1, rfl, hlt, by simp [hw]⟩, by simp only [Int.toNat_natCast]; omega⟩
    unfold stanzalaw04_AutoTurns_L1
    dsimp only
    rw [if_pos (by simp; omega), if_pos (by omega), if_pos m0, Int.toNat_natCast, if_pos (by simp; omega), wrap_suc (by omega)]
  · refine .inr ⟨w, ?_, by omega⟩
    unfold stanzalaw04_AutoTurns_L1
    dsimp only
    rw [if_neg (by simp; omega)]
theorem turns_L2 {w : List Int} (hl : w.length ≤ 12) : iter (stanzalaw04_AutoTurns_L2 w) ([], 0) = some w.reverse := by
  refine iter_count (fun k => (w.reverse.take k, (k : Int))) w.length (fun k hlt => ?_) ?_
  · have hle : (w.reverse.take k).length ≤ 12 := by simp; omega
    have e : IntKind.i64.wrap (IntKind.i64.wrap ((w.length : Int) - 1) - (k : Int)) = ((w.length - 1 - k : Nat) : Int) := by
      rw [wrap_i64 (x := (w.length : Int) - 1) (by omega) (by omega), wrap_i64 (by omega) (by omega)]; omega
    unfold stanzalaw04_AutoTurns_L2
    dsimp only
    rw [if_pos (by simp; omega), e, if_pos (by omega), Int.toNat_natCast, if_pos (by omega), if_pos (by simp only [List.length_cons, List.length_nil]; omega), wrap_suc (by omega), take_succ' (d := 0) (by simpa using hlt)]
    have : w.reverse.getD k 0 = w.getD (w.length - 1 - k) 0 := by
      rw [getD_lt (by simpa using hlt), getD_lt (by omega), List.getElem_reverse]
    rw [this]
  · unfold stanzalaw04_AutoTurns_L2
    dsimp only
    rw [if_neg (by simp), List.take_of_length_le (by simp)]
theorem turns_ok {c j a : Int} {tr : List Int} {l : List PR} (h : Pl c j a tr l) (i1 : List Int) : stanzalaw04_AutoTurns c j a tr l i1 = some true := by
  obtain ⟨hF, hT, h20⟩ := exV_fit c l
  have hn1 := cntP_pos c
  have hn6 := cntP_le c
  unfold stanzalaw04_AutoTurns
  rw [awake04]
  simp only [Option.bind_some, Bool.not_true, Bool.false_eq_true, if_false]
  rw [exprs_ok h]
  simp only [Option.bind_some]
  by_cases h12 : i1.length ≤ 12
  · rw [if_neg (by simp; omega)]
    obtain ⟨w, w1, w2⟩ := turns_L1 h12 hn1 (show cntP c ≤ 24 by omega)
    rw [w1]
    simp only [Option.bind_some]
    rw [turns_L2 (by omega)]
    simp only [Option.bind_some]
    have L3 : iter (stanzalaw04_AutoTurns_L3 (exV c l) w w.reverse) 0 = some (.inl ()) := by
      refine iter_count (fun k => (k : Int)) (exV c l).length (fun k hlt => ?_) ?_
      · have ht : Tok 1000 ((exV c l).getD k (.node 0 0 [])) := (hT _ (getD_mem' hlt)).mono (by omega)
        have ht2 := Tok_turn _ _ ht
        obtain ⟨r, r1, r2⟩ := says_ok (w := w) (by omega) ht
        obtain ⟨r', r1', r2'⟩ := says_ok (w := w.reverse) (by simp; omega) ht2
        have hrr : r = r' := bool_eq (r2.trans ((Lg_turn _ w).symm.trans r2'.symm))
        unfold stanzalaw04_AutoTurns_L3
        rw [if_pos (by simp; omega), if_pos (by omega), Int.toNat_natCast, turnA_ok 1000 _ ht 1000 (Nat.le_refl _)]
        simp only [Option.bind_some]
        rw [turnR_ok 1000 _ ht 1000 (Nat.le_refl _)]
        simp only [Option.bind_some]
        rw [same_ok 1000 _ ht2 1000 (Nat.le_refl _)]
        simp only [Option.bind_some]
        rw [if_neg (by simp), turnA_ok 1000 _ ht2 1000 (Nat.le_refl _), turn_turn]
        simp only [Option.bind_some]
        rw [same_ok 1000 _ ht 1000 (Nat.le_refl _)]
        simp only [Option.bind_some]
        rw [if_neg (by simp), r1]
        simp only [Option.bind_some]
        rw [r1']
        simp only [Option.bind_some]
        rw [hrr, if_neg (by simp), wrap_suc (by omega)]
      · unfold stanzalaw04_AutoTurns_L3
        rw [if_neg (by simp)]
    rw [show iter (stanzalaw04_AutoTurns_L3 (exV c l) w w.reverse) 0 = _ from L3]
    rfl
  · rw [if_pos (by simp; omega)]
end Go.Proofs.Ytnjdmbifjbahdaa.T
namespace Go.Proofs.Ytnjdmbifjbahdaa.T
open Go Go.Tv Go.Proofs
abbrev autoTurns_Ts : List Ty := [(.prod (.int .u8) (.prod (.int .u8) (.prod (.int .u8) (.prod (.slice (.int .u8)) (.slice (.prod (.int .u8) (.prod (.slice (.int .u8)) (.slice (.int .u8))))))))), (.slice (.int .i64))]
theorem autoTurns_all (x : Tup autoTurns_Ts) (hx : WfT autoTurns_Ts x) : stanzalaw04_AutoTurns x.1.1 x.1.2.1 x.1.2.2.1 x.1.2.2.2.1 x.1.2.2.2.2 x.2.1 = some true := by
  obtain ⟨⟨c, j, a, tr, l⟩, i1, u⟩ := x
  exact turns_ok (pl_wf hx.1) i1
end Go.Proofs.Ytnjdmbifjbahdaa.T
