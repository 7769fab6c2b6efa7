/- Functions of the program as functions on data, and that the program's own come to them. -/
import Derived.Test.YtnjdmbifjbahdaaTvT04y0
import Derived.Test.YtnjdmbifjbahdaaTvT04ya
import Derived.Test.YtnjdmbifjbahdaaTvT04ya1
import Derived.Test.YtnjdmbifjbahdaaTvT04yb
import Derived.Test.YtnjdmbifjbahdaaTv04rfm
import Derived.Test.YtnjdmbifjbahdaaTvYm
import Derived.Test.YtnjdmbifjbahdaaTv04rdm
import Derived.Test.YtnjdmbifjbahdaaTv04nm
import Derived.Test.YtnjdmbifjbahdaaTvUm
namespace Go.Proofs.Ytnjdmbifjbahdaa.T
open Go Go.Tv Go.Proofs
noncomputable section
set_option maxRecDepth 100000
set_option maxHeartbeats 4000000
def stanzaref04_EndsSo_L1  : ((List Bool) × Int) → Option (((List Bool) × Int) ⊕ (List Bool)) := fun (from2, i2) =>
  (if (decide (i2 < (from2.length : Int))) = true then (if 0 ≤ i2 ∧ i2 < (from2.length : Int) then (if i2.toNat < from2.length then some (Sum.inl ((from2.set i2.toNat true), (IntKind.i64.wrap (i2 + (1 : Int))))) else none) else none)
  else some (Sum.inr from2))
def stanzaref04_EndsSo (e1 e2 : Int) (e3 : List Tree) (classes1 : List Int) : Option (Bool) :=
  (if 0 ≤ (IntKind.i64.wrap ((classes1.length : Int) + (1 : Int))) ∧ (IntKind.i64.wrap ((classes1.length : Int) + (1 : Int))) ≤ (IntKind.i64.wrap ((classes1.length : Int) + (1 : Int))) ∧ (1 : Int) * (IntKind.i64.wrap ((classes1.length : Int) + (1 : Int))) ≤ 281474976710656 ∧ (IntKind.i64.wrap ((classes1.length : Int) + (1 : Int))) ≤ 9223372036854775807 then ((iter (stanzaref04_EndsSo_L1) ((List.replicate (IntKind.i64.wrap ((classes1.length : Int) + (1 : Int))).toNat false), (0 : Int))).bind fun from3 => ((stanzaref04_Ends 1000 e1 e2 e3 classes1 from3).bind fun r2 =>
  (if 0 ≤ (classes1.length : Int) ∧ (classes1.length : Int) < (r2.length : Int) then some (r2.getD ((classes1.length : Int).toNat) false) else none))) else none)
theorem stanzaref04_EndsSo_ok (β2 β3 : Bool) {e1 : Int} {e2 : Int} {e3 : List Tree} {classes1 : List Int} {res : Bool} (h : stanzaref04_EndsSo e1 e2 e3 classes1 = some res) :
    Pure Try.prog 18 [.agg [.u8 e1, .u32 e2, .p β2 (.slice (.tree .u8 .u32)) e3], .p β3 (.slice (.int .i64)) classes1] (wrapR (encs false [⟨.bool, res⟩])) := by
  refine Pure.of_body tbok Try.func18 (by kernel_rfl) rfl (nl rfl) (fun Bw w0 => ?_) rfl
  unfold stanzaref04_EndsSo at h
  refine G (GC 3 h (fun h => W_seq (G (W_block (W_lx h (fun (from2, i2) => mkSt [(1, .p β3 (.slice (.int .i64)) classes1), (2, .adr 0 0 3 0), (5, .sl 1), (6, .i64 i2)] (ob70 e1 e2 β2 e3 from2) 2) 0 (fun from3 => mkSt [(1, .p β3 (.slice (.int .i64)) classes1), (2, .adr 0 0 3 0), (5, .sl 1)] (ob70 e1 e2 β2 e3 from3) 2) (gg [] [0, 40]) (fun y o h => ?_) (fun from3 h => ?_))))))
  · obtain ⟨from2, i2⟩ := y
    unfold stanzaref04_EndsSo_L1 at h
    refine W_seq (G (W_if h (fun hb3 h => ?_) (fun hb3 h => ?_)))
    · refine W_skip_to (to_thenG (W_seq (W_block ?_)))
      obtain ⟨c13, c14, h⟩ := g2 h
      refine GNe a0 [(2, 2, oc c13), (3, 3, oc c14)] (to_block (to_thenG (Ge ?_)))
      exact eB h (gg [] [0, 1])
    refine W_exit_to (thenE ?_)
    exact eX h (gg [] [0, 1])
  refine blockE_eq (to_thenG ?_)
  obtain ⟨r2, q2, h⟩ := h_bind h
  obtain ⟨c16, h⟩ := h_guard h
  have u_1 := (stanzaref04_Ends_ok 1000 β2 β3 true q2)
  refine GN ⟨[], [(3, (oP u_1))]⟩ [(3, 3, oc u_1), (6, 6, oc c16)] (W_ret ?_)
  obtain rfl := sI h
  exact Ret_intro [.bool] (by kernel_rfl)
def stanzalaw04_AutoMatches_L1 (i1 : List Int) (r6 : Int) : ((List Int) × Int) → Option (((List Int) × Int) ⊕ (List Int)) := fun (i3, v4) =>
  (if (decide (v4 < (i1.length : Int))) = true then (if 0 ≤ (0 : Int) ∧ (0 : Int) ≤ v4 ∧ v4 ≤ (i3.length : Int) then (if (([] : List Int).length + ((i3.take v4.toNat).drop (0 : Int).toNat).length) * 8 ≤ 140737488355328 ∧ ([] : List Int).length + ((i3.take v4.toNat).drop (0 : Int).toNat).length ≤ 9223372036854775807 then (if 0 ≤ v4 ∧ v4 < (i3.length : Int) then (if ¬ (IntKind.u64.wrap r6) = 0 then (if 0 ≤ (IntKind.i64.wrap (v4 + (1 : Int))) ∧ (IntKind.i64.wrap (v4 + (1 : Int))) ≤ (i3.length : Int) ∧ (i3.length : Int) ≤ (i3.length : Int) then (if (([(IntKind.i64.wrap (Int.tmod (IntKind.u64.wrap (i3.getD v4.toNat (0 : Int))) (IntKind.u64.wrap r6)))] : List Int).length + ((i3.take (i3.length : Int).toNat).drop (IntKind.i64.wrap (v4 + (1 : Int))).toNat).length) * 8 ≤ 140737488355328 ∧ ([(IntKind.i64.wrap (Int.tmod (IntKind.u64.wrap (i3.getD v4.toNat (0 : Int))) (IntKind.u64.wrap r6)))] : List Int).length + ((i3.take (i3.length : Int).toNat).drop (IntKind.i64.wrap (v4 + (1 : Int))).toNat).length ≤ 9223372036854775807 then (if ((([] : List Int) ++ ((i3.take v4.toNat).drop (0 : Int).toNat)).length + (([(IntKind.i64.wrap (Int.tmod (IntKind.u64.wrap (i3.getD v4.toNat (0 : Int))) (IntKind.u64.wrap r6)))] : List Int) ++ ((i3.take (i3.length : Int).toNat).drop (IntKind.i64.wrap (v4 + (1 : Int))).toNat)).length) * 8 ≤ 140737488355328 ∧ (([] : List Int) ++ ((i3.take v4.toNat).drop (0 : Int).toNat)).length + (([(IntKind.i64.wrap (Int.tmod (IntKind.u64.wrap (i3.getD v4.toNat (0 : Int))) (IntKind.u64.wrap r6)))] : List Int) ++ ((i3.take (i3.length : Int).toNat).drop (IntKind.i64.wrap (v4 + (1 : Int))).toNat)).length ≤ 9223372036854775807 then some (Sum.inl (((([] : List Int) ++ ((i3.take v4.toNat).drop (0 : Int).toNat)) ++ (([(IntKind.i64.wrap (Int.tmod (IntKind.u64.wrap (i3.getD v4.toNat (0 : Int))) (IntKind.u64.wrap r6)))] : List Int) ++ ((i3.take (i3.length : Int).toNat).drop (IntKind.i64.wrap (v4 + (1 : Int))).toNat))), (IntKind.i64.wrap (v4 + (1 : Int))))) else none) else none) else none) else none) else none) else none) else none)
  else some (Sum.inr i3))
def stanzalaw04_AutoMatches_L2 (r5 : List Tree) (r9 : (List (List Int)) × List Int) (i4 r12 : List Int) (v10 : Int) : (Int) → Option ((Int) ⊕ ((Unit) ⊕ (Bool))) := fun v12 =>
  (if (decide (v12 < (r5.length : Int))) = true then (if 0 ≤ v12 ∧ v12 < (r5.length : Int) then (if 0 ≤ (r12.getD v10.toNat (0 : Int)) ∧ (r12.getD v10.toNat (0 : Int)) < (r9.2.length : Int) then (if 0 ≤ v12 then (if 0 ≤ (0 : Int) ∧ (0 : Int) ≤ v10 ∧ v10 ≤ (i4.length : Int) then ((stanzaref04_EndsSo ((r5.getD v12.toNat (Tree.node 0 0 [])).op) ((r5.getD v12.toNat (Tree.node 0 0 [])).set) ((r5.getD v12.toNat (Tree.node 0 0 [])).kids) ((i4.take v10.toNat).drop (0 : Int).toNat)).bind fun r36 =>
  (if (!(((bitsOf .and .u32 (Int.fdiv (r9.2.getD ((r12.getD v10.toNat (0 : Int)).toNat) (0 : Int)) (2 ^ (min v12.toNat IntKind.u32.bits))) (1 : Int)) == (1 : Int)) == r36)) = true then some (Sum.inr (Sum.inr false))
  else some (Sum.inl (IntKind.i64.wrap (v12 + (1 : Int)))))) else none) else none) else none) else none)
  else some (Sum.inr (Sum.inl ())))
def stanzalaw04_AutoMatches_L3 (r5 : List Tree) (r9 : (List (List Int)) × List Int) (i4 r12 : List Int) : (Int) → Option ((Int) ⊕ ((Unit) ⊕ (Bool))) := fun v10 =>
  (if (decide (v10 < (r12.length : Int))) = true then (if 0 ≤ v10 ∧ v10 < (r12.length : Int) then ((iter (stanzalaw04_AutoMatches_L2 r5 r9 i4 r12 v10) (0 : Int)).bind fun (r37 : ((Unit) ⊕ (Bool))) => match r37 with
  | .inl _ => some (Sum.inl (IntKind.i64.wrap (v10 + (1 : Int))))
  | .inr (r34) => some (Sum.inr (Sum.inr r34))) else none)
  else some (Sum.inr (Sum.inl ())))
def stanzalaw04_AutoMatches (d1 d2 d3 : Int) (d4 : List Int) (d5 : List (Int × (List Int) × List Int)) (i1 : List Int) : Option (Bool) :=
  ((stanzalaw04_Awake).bind fun r2 =>
  (if (!r2) = true then some false
  else ((stanzalaw04_exprs d1 d2 d3 d4 d5).bind fun (r5, r6) =>
  ((auto_Make r5 r6).bind fun (r9, r10) =>
  (((if (r10 != (0 : Int)) = true then some (true)
  else some ((decide ((i1.length : Int) > (40 : Int)))))).bind fun v1 => (if v1 = true then (((if (r10 == (0 : Int)) = true then some (true)
  else (if (r10 == (27 : Int)) = true then some (true)
  else some ((r10 == (26 : Int)))))).bind fun v2 => some v2)
  else ((iter (stanzalaw04_AutoMatches_L1 i1 r6) (i1, (0 : Int))).bind fun i4 => ((auto_Run r9.1 r9.2 i4).bind fun r12 =>
  (if ((r12.length : Int) != (IntKind.i64.wrap ((i4.length : Int) + (1 : Int)))) = true then some false
  else ((iter (stanzalaw04_AutoMatches_L3 r5 r9 i4 r12) (0 : Int)).bind fun (r38 : ((Unit) ⊕ (Bool))) => match r38 with
  | .inl _ => some true
  | .inr (r29) => some r29))))))))))
theorem stanzalaw04_AutoMatches_ok (β3 : Bool) {d1 : Int} {d2 : Int} {d3 : Int} {d4 : List Int} {d5 : List (Int × (List Int) × List Int)} {i1 : List Int} {res : Bool} (h : stanzalaw04_AutoMatches d1 d2 d3 d4 d5 i1 = some res) :
    Pure Try.prog 6 [.agg [.u8 d1, .u8 d2, .u8 d3, .p β3 (.slice (.int .u8)) d4, .p false (.slice (.prod (.int .u8) Y5)) d5], .p false (.slice (.int .i64)) i1] (wrapR (encs false [⟨.bool, res⟩])) := by
  refine Pure.of_body tbok Try.func6 (by kernel_rfl) rfl (nl rfl) (fun Bw w0 => ?_) rfl
  unfold stanzalaw04_AutoMatches at h
  refine G (W_seq ?_)
  obtain ⟨r2, q2, h⟩ := h_bind h
  refine GP 0 (stanzalaw04_Awake_ok q2) (W_if h (fun hb1 h => ?_) (fun hb1 h => ?_))
  · refine G (W_ret (thenQ_ret ?_))
    obtain rfl := sI h
    exact Ret_intro [.bool] (by kernel_rfl)
  refine W_skip_to (to_thenG ?_)
  obtain ⟨⟨r5, r6⟩, q4, h⟩ := h_bind h
  refine GP 1 (stanzalaw04_exprs_ok β3 q4) ?_
  obtain ⟨⟨r9, r10⟩, q6, h⟩ := h_bind h
  refine GP 2 (auto_Make_ok false q6) (W_seq (W_seq (W_pn h (fun v1 => mkSt [(1, .p false (.slice (.int .i64)) i1), (5, .p false (.slice (.tree .u8 .u32)) r5), (6, .i64 r6), (7, .adr 0 0 2 0), (8, .i64 r10), (34, .bo v1)] (ob73 r9.1 r9.2) 1) (fun v1 h => ?_) (fun v1 h => ?_))))
  · rcases h_ite h with ⟨hb4, h⟩ | ⟨hb4, h⟩
    · refine GNe ⟨[(2, true), (6, true)], []⟩ [(3, 6, oc hb4)] ?_
      exact eN h (gg [] [136])
    refine GNe ⟨[(2, false), (6, false)], []⟩ [(3, 5, an hb4), (6, 6, oc hb4)] ?_
    exact eN h (gg [] [136])
  refine to_thenG (W_if h (fun hb5 h => ?_) (fun hb5 h => ?_))
  · refine W_seq (W_pn h (fun v2 => mkSt [(4, .bo v2)] [] 0) (fun v2 h => ?_) (fun v2 h => ?_))
    · rcases h_ite h with ⟨hb10, h⟩ | ⟨hb10, h⟩
      · refine GNe ⟨[(2, true), (5, true)], []⟩ [(3, 5, oc hb10)] ?_
        exact eN h (gg [] [])
      rcases h_ite h with ⟨hb11, h⟩ | ⟨hb11, h⟩
      · refine GNe ⟨[(2, false), (5, false), (6, true), (9, true)], []⟩ [(3, 4, an hb10), (5, 5, oc hb10), (7, 9, oc hb11)] ?_
        exact eN h (gg [] [])
      refine GNe ⟨[(2, false), (5, false), (6, false), (9, false)], []⟩ [(3, 4, an hb10), (5, 5, oc hb10), (7, 8, an hb11), (9, 9, oc hb11)] ?_
      exact eN h (gg [] [])
    refine to_thenG (W_ret (thenQ_ret ?_))
    obtain rfl := sI h
    exact Ret_intro [.bool] (by kernel_rfl)
  refine W_skip_to (to_thenG (W_seq (G (W_block (W_lx h (fun (i3, v4) => mkSt [(1, .p false (.slice (.int .i64)) i3), (5, .p false (.slice (.tree .u8 .u32)) r5), (6, .i64 r6), (7, .adr 0 0 2 0), (46, .i64 (i1.length : Int)), (47, .i64 v4)] (ob73 r9.1 r9.2) 1) 0 (fun i4 => mkSt [(1, .p false (.slice (.int .i64)) i4), (5, .p false (.slice (.tree .u8 .u32)) r5), (7, .adr 0 0 2 0)] (ob73 r9.1 r9.2) 1) (gg [] [0]) (fun y o h => ?_) (fun i4 h => ?_))))))
  · obtain ⟨i3, v4⟩ := y
    unfold stanzalaw04_AutoMatches_L1 at h
    refine G (W_seq (W_if h (fun hb14 h => ?_) (fun hb14 h => ?_)))
    · refine W_skip_to (to_thenG (W_seq (W_block (G ?_))))
      obtain ⟨c36, c37, c38, c39, h⟩ := g4 h
      obtain ⟨c40, c41, c42, h⟩ := g3 h
      refine GDe a0 [(3, 3, oc c36), (4, 4, oc c37), (7, 7, oc c38), (12, 12, oc c39), (18, 18, oc c40), (19, 19, oc c41), (20, 20, oc c42)] (to_block (to_thenG (Ge ?_)))
      exact eB h (gg [.frzS 1] [0])
    refine W_exit_to (thenE ?_)
    exact eX h (gg [] [0])
  refine blockE_eq (to_thenG ?_)
  obtain ⟨r12, q8, h⟩ := h_bind h
  refine GP 2 (auto_Run_ok false false false q8) (W_seq (G (W_if h (fun hb15 h => ?_) (fun hb15 h => ?_))))
  · refine G (W_ret (thenQ_ret ?_))
    obtain rfl := sI h
    exact Ret_intro [.bool] (by kernel_rfl)
  refine W_skip_to (to_thenG (W_seq (G (W_block (W_lp h (fun v10 => mkSt [(1, .p false (.slice (.int .i64)) i4), (5, .p false (.slice (.tree .u8 .u32)) r5), (7, .adr 0 0 2 0), (81, .p false (.slice (.int .i64)) r12), (82, .i64 (r12.length : Int)), (83, .i64 v10)] (ob73 r9.1 r9.2) 1) (postS (postX Try.f6.ntmps 2 (fun _ => mkSt [] [] 0)) (postR tb Try.f6.results.toList (fun r29 => [⟨.bool, r29⟩]))) (gg [] [0]) (fun v10 o h => ?_) (fun r38 h e σ' hq => ?_))))))
  · unfold stanzalaw04_AutoMatches_L3 at h
    refine G (W_seq (W_if h (fun hb30 h => ?_) (fun hb30 h => ?_)))
    · refine W_skip_to (to_thenG (W_seq (W_block (GC 1 h (fun h => G (W_block (W_lp h (fun v12 => mkSt [(1, .p false (.slice (.int .i64)) i4), (5, .p false (.slice (.tree .u8 .u32)) r5), (7, .adr 0 0 2 0), (11, .i64 v10), (12, .i64 (r12.getD v10.toNat (0 : Int))), (81, .p false (.slice (.int .i64)) r12), (82, .i64 (r12.length : Int)), (83, .i64 v10), (88, .p false (.slice (.tree .u8 .u32)) r5), (89, .i64 (r5.length : Int)), (90, .i64 v12)] (ob73 r9.1 r9.2) 1) (postS (postX Try.f6.ntmps 4 (fun _ => mkSt [(1, .p false (.slice (.int .i64)) i4), (5, .p false (.slice (.tree .u8 .u32)) r5), (7, .adr 0 0 2 0), (81, .p false (.slice (.int .i64)) r12), (82, .i64 (r12.length : Int)), (83, .i64 v10)] (ob73 r9.1 r9.2) 1)) (postR tb Try.f6.results.toList (fun r34 => [⟨.bool, r34⟩]))) (gg [] [0]) (fun v12 o h => ?_) (fun r37 h e σ' hq => ?_))))))))
      · unfold stanzalaw04_AutoMatches_L2 at h
        refine G (W_seq (W_if h (fun hb35 h => ?_) (fun hb35 h => ?_)))
        · refine W_skip_to (to_thenG (W_seq (W_block (GC 1 h (fun h => ?_)))))
          obtain ⟨c118, c119, c120, h⟩ := g3 h
          obtain ⟨r36, q26, h⟩ := h_bind h
          have u_1 := (stanzaref04_EndsSo_ok false false q26)
          refine GD ⟨[], [(13, (oP u_1))]⟩ [(3, 3, oc c118), (6, 6, oc c119), (12, 12, oc c120), (13, 13, oc u_1)] (W_if h (fun hb36 h => ?_) (fun hb36 h => ?_))
          · refine G (W_ret ?_)
            obtain rfl := sI h
            refine blockQ_ret (thenQ_ret (round_ret (postS_rr ?_)))
            exact postR_mk (Ret_intro [.bool] (by kernel_rfl))
          refine W_skip_to (to_block (to_thenG (Ge ?_)))
          exact eB h (gg [] [0])
        refine W_exit_to (thenE ?_)
        obtain rfl := sI h
        refine roundE (postS_l ?_)
        exact postX_to (gg [] [0])
      rcases r37 with _ | r34
      · obtain ⟨rfl, hle⟩ := hq
        refine use_to ?_ hle
        refine blockE_eq (to_block (to_thenG (Ge ?_)))
        exact eB h (gg [] [0])
      obtain ⟨rfl, hr⟩ := hq
      obtain rfl := sI h
      refine blockQ_ret (blockQ_ret (thenQ_ret (round_ret (postS_rr ?_))))
      exact postR_mk hr
    refine W_exit_to (thenE ?_)
    obtain rfl := sI h
    refine roundE (postS_l ?_)
    exact postX_to (gg [] [])
  rcases r38 with _ | r29
  · obtain ⟨rfl, hle⟩ := hq
    refine use_to ?_ hle
    refine blockE_eq (to_thenG (G (W_ret ?_)))
    obtain rfl := sI h
    exact Ret_intro [.bool] (by kernel_rfl)
  obtain ⟨rfl, hr⟩ := hq
  refine blockQ_ret (thenQ_ret ?_)
  obtain rfl := sI h
  exact hr
end
end Go.Proofs.Ytnjdmbifjbahdaa.T
namespace Go.Proofs.Ytnjdmbifjbahdaa.T
open Go Go.Tv Go.Proofs
theorem endsSo_ok {w : Wd} (hw : w.length ≤ 800000) {t : Tree} (ht : Tok 1000 t) : ∃ r, stanzaref04_EndsSo t.op t.set t.kids w = some r ∧ (r = true ↔ ∃ k, k ≤ w.length ∧ Lg t (w.drop k)) := by
  have e0 : IntKind.i64.wrap ((w.length : Int) + 1) = ((w.length + 1 : Nat) : Int) := wrap_succ' (by omega)
  have key : ∃ r, iter stanzaref04_EndsSo_L1 (List.replicate (w.length + 1) false, 0) = some r ∧ r.length = w.length + 1 ∧ ∀ j, j < w.length + 1 → TX r j := by
    refine iter_rule (I := fun q => ∃ k : Nat, q.2 = (k : Int) ∧ k ≤ w.length + 1 ∧ q.1.length = w.length + 1 ∧ ∀ j, j < k → TX q.1 j) (μ := fun q => w.length + 1 - q.2.toNat) _ ?_ ⟨0, rfl, Nat.zero_le _, by simp, fun j h => absurd h (by omega)⟩
    rintro ⟨x, i⟩ ⟨k, rfl, hk, hx, hj⟩
    dsimp only at hx hj
    by_cases hlt : k < w.length + 1
    · have c1 : 0 ≤ (k : Int) ∧ (k : Int) < (x.length : Int) := by omega
      refine .inl ⟨(x.set k true, ((k + 1 : Nat) : Int)), ?_, ⟨k + 1, rfl, hlt, by simp [hx], fun j h => ?_⟩, by simp only [Int.toNat_natCast]; omega⟩
      · unfold stanzaref04_EndsSo_L1
        dsimp only
        rw [if_pos (by simp; omega), if_pos c1, Int.toNat_natCast, if_pos (by omega), wrap_succ' (by omega)]
      · simp only [TX]
        rw [getD_set (by omega)]
        by_cases e : k = j
        · rw [if_pos e]
        · rw [if_neg e]; exact hj j (by omega)
    · refine .inr ⟨x, ?_, hx, fun j h => hj j (by omega)⟩
      unfold stanzaref04_EndsSo_L1
      dsimp only
      rw [if_neg (by simp; omega)]
  obtain ⟨x, h1, h2, h3⟩ := key
  obtain ⟨y, e1, e2, e3⟩ := ends_ok (w := w) (by omega) 1000 t ht 1000 (Nat.le_refl _) x h2
  refine ⟨y.getD w.length false, ?_, ?_⟩
  · unfold stanzaref04_EndsSo
    rw [e0, if_pos (by omega), Int.toNat_natCast, h1]
    simp only [Option.bind_some]
    rw [e1]
    simp only [Option.bind_some]
    rw [if_pos (by omega), Int.toNat_natCast]
  · have := e3 w.length
    simp only [TX] at this
    rw [this]
    constructor
    · rintro ⟨i, q1, q2, q3, q4⟩; exact ⟨i, q1, by rw [← seg_full]; exact q4⟩
    · rintro ⟨i, q1, q4⟩; exact ⟨i, q1, Nat.le_refl _, h3 i (by omega), by rw [seg_full]; exact q4⟩
where wrap_succ' {k : Nat} (h : k < 10000000) : IntKind.i64.wrap ((k : Int) + 1) = ((k + 1 : Nat) : Int) := by rw [wrap_i64 (by omega) (by omega)]; omega
theorem cls_mod (x : Int) {n : Nat} (h1 : 1 ≤ n) (h2 : n ≤ 24) : ¬ (IntKind.u64.wrap (n : Int)) = 0 ∧ 0 ≤ IntKind.i64.wrap (Int.tmod (IntKind.u64.wrap x) (IntKind.u64.wrap (n : Int))) ∧ IntKind.i64.wrap (Int.tmod (IntKind.u64.wrap x) (IntKind.u64.wrap (n : Int))) < (n : Int) := by
  have e1 : IntKind.u64.wrap (n : Int) = n := wrap_u64 (by omega) (by omega)
  have e2 : 0 ≤ IntKind.u64.wrap x := by rw [wrap_u64']; omega
  rw [e1]
  have e3 : Int.tmod (IntKind.u64.wrap x) (n : Int) = IntKind.u64.wrap x % (n : Int) := Int.tmod_eq_emod_of_nonneg e2
  have h3 := Int.emod_nonneg (IntKind.u64.wrap x) (show (n : Int) ≠ 0 by omega)
  have h4 := Int.emod_lt_of_pos (IntKind.u64.wrap x) (show (0 : Int) < n by omega)
  rw [e3, wrap_i64 (by omega) (by omega)]
  exact ⟨by omega, h3, h4⟩
theorem matches_L1 {i1 : List Int} (hl : i1.length ≤ 40) {n : Nat} (h1 : 1 ≤ n) (h2 : n ≤ 24) : ∃ w, iter (stanzalaw04_AutoMatches_L1 i1 (n : Int)) (i1, 0) = some w ∧ w.length = i1.length ∧ Cls n w := by
  have key : ∃ w, iter (stanzalaw04_AutoMatches_L1 i1 (n : Int)) (i1, 0) = some w ∧ w.length = i1.length ∧ ∀ i, i < i1.length → 0 ≤ w.getD i 0 ∧ w.getD i 0 < (n : Int) := by
    refine iter_rule (I := fun q => ∃ k : Nat, q.2 = (k : Int) ∧ k ≤ i1.length ∧ q.1.length = i1.length ∧ ∀ i, i < k → 0 ≤ q.1.getD i 0 ∧ q.1.getD i 0 < (n : Int)) (μ := fun q => i1.length - q.2.toNat) _ ?_ ⟨0, rfl, Nat.zero_le _, rfl, fun j h => absurd h (by omega)⟩
    rintro ⟨w, i⟩ ⟨k, rfl, hk, hw, hj⟩
    dsimp only at hw hj
    by_cases hlt : k < i1.length
    · obtain ⟨m0, m1, m2⟩ := cls_mod (w.getD k 0) h1 h2
      refine .inl ⟨(([] ++ (w.take k).drop 0) ++ ([IntKind.i64.wrap (Int.tmod (IntKind.u64.wrap (w.getD k 0)) (IntKind.u64.wrap (n : Int)))] ++ (w.take w.length).drop (k + 1)), ((k + 1 : Nat) : Int)), ?_, ⟨k + 1, rfl, hlt, ?_, fun i hi => ?_⟩, by simp only [Int.toNat_natCast]; omega⟩
      · unfold stanzalaw04_AutoMatches_L1
        dsimp only
        have c5 : IntKind.i64.wrap ((k : Int) + 1) = ((k + 1 : Nat) : Int) := wrap_succ (by omega)
        simp only [c5, Int.toNat_natCast, Int.toNat_zero]
        rw [if_pos (by simp; omega), if_pos (by omega), if_pos (by simp; omega), if_pos (by omega), if_pos m0, if_pos (by omega), if_pos (by simp; omega), if_pos (by simp; omega)]
      · simp; omega
      · dsimp only
        by_cases e : i = k
        · subst e
          have : (([] ++ (w.take i).drop 0) ++ ([IntKind.i64.wrap (Int.tmod (IntKind.u64.wrap (w.getD i 0)) (IntKind.u64.wrap (n : Int)))] ++ (w.take w.length).drop (i + 1))).getD i 0 = IntKind.i64.wrap (Int.tmod (IntKind.u64.wrap (w.getD i 0)) (IntKind.u64.wrap (n : Int))) := by
            rw [List.getD_eq_getElem?_getD, List.getElem?_append_right (by simp; omega)]
            simp [show i - min i w.length = 0 by omega]
          rw [this]
          exact ⟨m1, m2⟩
        · have : (([] ++ (w.take k).drop 0) ++ ([IntKind.i64.wrap (Int.tmod (IntKind.u64.wrap (w.getD k 0)) (IntKind.u64.wrap (n : Int)))] ++ (w.take w.length).drop (k + 1))).getD i 0 = w.getD i 0 := by
            rw [getD_app (by simp; omega)]
            simp only [List.nil_append, List.drop_zero, List.getD_eq_getElem?_getD, List.getElem?_take]
            rw [if_pos (by omega)]
          rw [this]
          exact hj i (by omega)
    · refine .inr ⟨w, ?_, hw, fun j h => hj j (by omega)⟩
      unfold stanzalaw04_AutoMatches_L1
      dsimp only
      rw [if_neg (by simp; omega)]
  obtain ⟨w, q1, q2, q3⟩ := key
  refine ⟨w, q1, q2, fun c hc => ?_⟩
  obtain ⟨i, hi, rfl⟩ := List.getElem_of_mem hc
  have := q3 i (by omega)
  rwa [getD_lt hi] at this
theorem matches_ok {c j a : Int} {tr : List Int} {l : List PR} (h : Pl c j a tr l) (i1 : List Int) : stanzalaw04_AutoMatches c j a tr l i1 = some true := by
  obtain ⟨hF, hT, h20⟩ := exV_fit c l
  have hn1 := cntP_pos c
  have hn6 := cntP_le c
  obtain ⟨x, hx, hP, hM⟩ := make_ok hF hn1 (show cntP c ≤ 24 by omega)
  unfold stanzalaw04_AutoMatches
  rw [awake04]
  simp only [Option.bind_some, Bool.not_true, Bool.false_eq_true, if_false]
  rw [exprs_ok h]
  simp only [Option.bind_some]
  rcases hM with hM | ⟨nx, ou, st, hM, hD⟩
  · rw [hM]; rfl
  rw [hM]
  simp only [Option.bind_some]
  by_cases h40 : i1.length ≤ 40
  · obtain ⟨w, w1, w2, w3⟩ := matches_L1 h40 hn1 (show cntP c ≤ 24 by omega)
    have e1 : ((0 : Int) != 0) = false := rfl
    have e2 : decide ((i1.length : Int) > 40) = false := by simp; omega
    simp only [e1, e2, Bool.false_eq_true, if_false, Option.bind_some, w1]
    obtain ⟨r, r1, r2, r3⟩ := run_ok (show cntP c ≤ 24 by omega) hD w3 (by omega)
    rw [r1]
    simp only [Option.bind_some]
    rw [if_neg (by rw [wrap_succ (by omega), r2]; simp)]
    have L3 : iter (stanzalaw04_AutoMatches_L3 (exV c l) (nx, ou) w r) 0 = some (.inl ()) := by
      have key : ∃ q, iter (stanzalaw04_AutoMatches_L3 (exV c l) (nx, ou) w r) 0 = some q ∧ q = .inl () := by
        refine iter_rule (I := fun s => ∃ k : Nat, s = (k : Int) ∧ k ≤ r.length) (μ := fun s => r.length - s.toNat) _ ?_ ⟨0, rfl, Nat.zero_le _⟩
        rintro s ⟨k, rfl, hk⟩
        by_cases hlt : k < r.length
        · obtain ⟨j', j1, j2, j3⟩ := r3 k (by omega)
          have L2 : iter (stanzalaw04_AutoMatches_L2 (exV c l) (nx, ou) w r (k : Int)) 0 = some (.inl ()) := by
            have key : ∃ q, iter (stanzalaw04_AutoMatches_L2 (exV c l) (nx, ou) w r (k : Int)) 0 = some q ∧ q = .inl () := by
              refine iter_rule (I := fun s => ∃ m : Nat, s = (m : Int) ∧ m ≤ (exV c l).length) (μ := fun s => (exV c l).length - s.toNat) _ ?_ ⟨0, rfl, Nat.zero_le _⟩
              rintro s ⟨m, rfl, hm⟩
              by_cases hlt2 : m < (exV c l).length
              · refine .inl ⟨((m + 1 : Nat) : Int), ?_, ⟨m + 1, rfl, hlt2⟩, by simp only [Int.toNat_natCast]; omega⟩
                have hl2 := hD.l2
                obtain ⟨b, b1, b2⟩ := endsSo_ok (w := (w.take k).drop 0) (by simp; omega) ((hT _ (getD_mem' (d := Tree.node 0 0 []) hlt2)).mono (by omega))
                obtain ⟨o1, o2⟩ := hD.ob j' j1
                have hbit : bt (ou.getD j' 0) m = b := by
                  have h1 := (o2 m).trans (out_ok hP j3 hlt2)
                  rw [List.drop_zero] at b2
                  have h2 := h1.trans b2.symm
                  cases hb : bt (ou.getD j' 0) m <;> cases b <;> simp_all
                unfold stanzalaw04_AutoMatches_L2
                dsimp only
                simp only [Int.toNat_natCast, Int.toNat_zero, j2]
                rw [if_pos (by simp; omega), if_pos (by omega), if_pos (by omega), if_pos (by omega), if_pos (by omega), b1]
                simp only [Option.bind_some]
                rw [has_u32 o1 (by omega), hbit, if_neg (by simp), wrap_succ (by omega)]
              · refine .inr ⟨_, ?_, rfl⟩
                unfold stanzalaw04_AutoMatches_L2
                rw [if_neg (by simp; omega)]
            obtain ⟨q, q1, rfl⟩ := key
            exact q1
          refine .inl ⟨((k + 1 : Nat) : Int), ?_, ⟨k + 1, rfl, hlt⟩, by simp only [Int.toNat_natCast]; omega⟩
          unfold stanzalaw04_AutoMatches_L3
          rw [if_pos (by simp; omega), if_pos (by omega), L2]
          simp only [Option.bind_some]
          rw [wrap_succ (by omega)]
        · refine .inr ⟨_, ?_, rfl⟩
          unfold stanzalaw04_AutoMatches_L3
          rw [if_neg (by simp; omega)]
      obtain ⟨q, q1, rfl⟩ := key
      exact q1
    rw [L3]
    rfl
  · have e1 : ((0 : Int) != 0) = false := rfl
    have e2 : decide ((i1.length : Int) > 40) = true := by simp; omega
    simp only [e1, e2, Bool.false_eq_true, if_false, Option.bind_some, if_true]
    rfl
end Go.Proofs.Ytnjdmbifjbahdaa.T
namespace Go.Proofs.Ytnjdmbifjbahdaa.T
open Go Go.Tv Go.Proofs
abbrev autoMatches_Ts : List Ty := [(.prod (.int .u8) (.prod (.int .u8) (.prod (.int .u8) (.prod (.slice (.int .u8)) (.slice (.prod (.int .u8) (.prod (.slice (.int .u8)) (.slice (.int .u8))))))))), (.slice (.int .i64))]
theorem autoMatches_all (x : Tup autoMatches_Ts) (hx : WfT autoMatches_Ts x) : stanzalaw04_AutoMatches x.1.1 x.1.2.1 x.1.2.2.1 x.1.2.2.2.1 x.1.2.2.2.2 x.2.1 = some true := by
  obtain ⟨⟨c, j, a, tr, l⟩, i1, u⟩ := x
  exact matches_ok (pl_wf hx.1) i1
end Go.Proofs.Ytnjdmbifjbahdaa.T
