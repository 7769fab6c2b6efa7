/- Functions of the program as functions on data, and that the program's own come to them. -/
import Derived.Test.YtnnbofkcfooljaaTvT05x0
namespace Go.Proofs.Ytnnbofkcfooljaa.T
open Go Go.Tv Go.Proofs
noncomputable section

/-- a loop of 'stanza/least.Check': one round -/
def least_Check_L1 (a1 : List (List Int)) (v13 : Int) : (Int) → Option ((Int) ⊕ ((Unit) ⊕ (Bool))) := fun (v17 : Int) =>
  (if (decide (v17 < ((a1.getD v13.toNat ([] : List Int)).length : Int))) = true then (if 0 ≤ v17 ∧ v17 < ((a1.getD v13.toNat ([] : List Int)).length : Int) then (((if (decide (((a1.getD v13.toNat ([] : List Int)).getD v17.toNat (0 : Int)) < (0 : Int))) = true then some (true)
  else some ((decide (((a1.getD v13.toNat ([] : List Int)).getD v17.toNat (0 : Int)) ≥ (a1.length : Int)))))).bind fun (v18 : Bool) => (if v18 = true then some (Sum.inr (Sum.inr false))
  else some (Sum.inl (IntKind.i64.wrap (v17 + (1 : Int)))))) else none)
  else some (Sum.inr (Sum.inl ())))

/-- a loop of 'stanza/least.Check': one round -/
def least_Check_L2 (a1 : List (List Int)) : (Int) → Option ((Int) ⊕ ((Unit) ⊕ (Bool))) := fun (v13 : Int) =>
  (if (decide (v13 < (a1.length : Int))) = true then (if 0 ≤ v13 ∧ v13 < (a1.length : Int) then (if 0 ≤ (0 : Int) ∧ (0 : Int) < (a1.length : Int) then (if (((a1.getD v13.toNat ([] : List Int)).length : Int) != ((a1.getD ((0 : Int).toNat) ([] : List Int)).length : Int)) = true then some (Sum.inr (Sum.inr false))
  else ((iter (least_Check_L1 a1 v13) (0 : Int)).bind fun (r7 : ((Unit) ⊕ (Bool))) => match r7 with
  | .inl _ => some (Sum.inl (IntKind.i64.wrap (v13 + (1 : Int))))
  | .inr (r6) => some (Sum.inr (Sum.inr r6)))) else none) else none)
  else some (Sum.inr (Sum.inl ())))

/-- 'stanza/least.Check' -/
def least_Check (a1 : List (List Int)) (a2 : List Int) : Option (Bool) :=
  (((if ((a1.length : Int) == (0 : Int)) = true then some (true)
  else some (((a1.length : Int) != (a2.length : Int))))).bind fun (v1 : Bool) => (if v1 = true then some false
  else ((iter (least_Check_L2 a1) (0 : Int)).bind fun (r8 : ((Unit) ⊕ (Bool))) => match r8 with
  | .inl _ => some true
  | .inr (r5) => some r5)))

set_option maxRecDepth 100000 in
set_option maxHeartbeats 4000000 in
theorem least_Check_ok (β0 β1 : Bool) (a1 : List (List Int)) (a2 : List Int) (res : Bool) (h : least_Check a1 a2 = some res) :
    Pure Try.prog 10 [.agg [.p β0 (.slice (.slice (.int .i64))) a1, .p β1 (.slice (.int .u32)) a2]] (wrapR (encs false [⟨.bool, res⟩])) := by
  refine Pure.of_body tbok Try.func10 (by kernel_rfl) rfl (Nat.le_of_ble_eq_true rfl) (fun Bw w0 => ?_) rfl
  unfold least_Check at h
  refine W_seq ?_
  refine W_reg tbok ⟨[], []⟩ [] [0] [(1, .adr 0 0 2 0)] [(0, .box [.p β0 (.slice (.slice (.int .i64))) a1, .p β1 (.slice (.int .u32)) a2])] 1 0 [True, True] (by kernel_rfl) (by kernel_rfl) ⟨trivial, trivial, trivial⟩ ?_
  refine to_then ?_
  refine W_seq ?_
  refine W_seq ?_
  obtain ⟨v1, hp1, h⟩ := h_bind h
  refine W.mono (Q := (postN Try.f10.ntmps (fun (v1 : Bool) => mkSt [(1, .adr 0 0 2 0), (19, .p false .bool v1)] [(0, .box [.p β0 (.slice (.slice (.int .i64))) a1, .p β1 (.slice (.int .u32)) a2])] 1)) v1) ?_ (fun e σ' hq => ?_)
  · replace h := hp1
    clear hp1
    rcases Bool.eq_false_or_eq_true ((a1.length : Int) == (0 : Int)) with hb3 | hb3
    · replace h := h_if hb3 h
      refine W_reg tbok ⟨[(4, true), (12, true)], []⟩ [] [0] [(1, .adr 0 0 2 0), (19, .p false .bool true)] [(0, .box [.p β0 (.slice (.slice (.int .i64))) a1, .p β1 (.slice (.int .u32)) a2])] 1 0 [True, True, True, True, True, ((a1.length : Int) == (0 : Int)) = true, ((a1.length : Int) == (0 : Int)) = true, ((a1.length : Int) == (0 : Int)) = true, ((a1.length : Int) == (0 : Int)) = true, ((a1.length : Int) == (0 : Int)) = true, ((a1.length : Int) == (0 : Int)) = true, ((a1.length : Int) == (0 : Int)) = true, ((a1.length : Int) == (0 : Int)) = true] (by kernel_rfl) (by kernel_rfl) ⟨trivial, trivial, trivial, trivial, trivial, hb3, hb3, hb3, hb3, hb3, hb3, hb3, hb3, trivial⟩ ?_
      obtain rfl := Option.some.inj h
      exact postN_to (goal_le (gs := []) (f := [0]) (by kernel_rfl) (by kernel_rfl))
    · replace h := h_else hb3 h
      refine W_reg tbok ⟨[(4, false), (12, false)], []⟩ [] [0] [(1, .adr 0 0 2 0), (19, .p false .bool ((a1.length : Int) != (a2.length : Int)))] [(0, .box [.p β0 (.slice (.slice (.int .i64))) a1, .p β1 (.slice (.int .u32)) a2])] 1 0 [True, True, True, True, True, ((a1.length : Int) == (0 : Int)) = false ∧ True, ((a1.length : Int) == (0 : Int)) = false ∧ True, ((a1.length : Int) == (0 : Int)) = false ∧ True, ((a1.length : Int) == (0 : Int)) = false ∧ True, ((a1.length : Int) == (0 : Int)) = false ∧ True, ((a1.length : Int) == (0 : Int)) = false ∧ True, ((a1.length : Int) == (0 : Int)) = false ∧ True, ((a1.length : Int) == (0 : Int)) = false] (by kernel_rfl) (by kernel_rfl) ⟨trivial, trivial, trivial, trivial, trivial, ⟨hb3, trivial⟩, ⟨hb3, trivial⟩, ⟨hb3, trivial⟩, ⟨hb3, trivial⟩, ⟨hb3, trivial⟩, ⟨hb3, trivial⟩, ⟨hb3, trivial⟩, hb3, trivial⟩ ?_
      obtain rfl := Option.some.inj h
      exact postN_to (goal_le (gs := []) (f := [0]) (by kernel_rfl) (by kernel_rfl))
  · clear hp1
    obtain ⟨rfl, hle⟩ := hq
    refine use_to ?_ hle
    refine to_then ?_
    refine W_cond (b := v1) (β := false) (by kernel_rfl) (fun hb4 => ?_) (fun hb4 => ?_)
    · replace h := h_if hb4 h
      refine W_seq ?_
      refine W_reg tbok ⟨[], []⟩ [] [] [(2, .p false .bool false)] [] 0 0 [True] (by kernel_rfl) (by kernel_rfl) ⟨trivial, trivial⟩ ?_
      refine to_then ?_
      refine W_ret ?_
      refine thenQ_ret ?_
      obtain rfl := Option.some.inj h
      exact Ret_intro [.bool] (by kernel_rfl)
    · replace h := h_else hb4 h
      refine W_skip_to ?_
      refine to_then ?_
      refine W_seq ?_
      refine W_seq ?_
      refine W_reg tbok ⟨[], []⟩ [] [0] [(1, .adr 0 0 2 0), (21, .p β0 (.slice (.slice (.int .i64))) a1), (22, .p false (.int .i64) (a1.length : Int)), (23, .p false (.int .i64) (0 : Int))] [(0, .box [.p β0 (.slice (.slice (.int .i64))) a1, .p β1 (.slice (.int .u32)) a2])] 1 0 [True, True, True, True] (by kernel_rfl) (by kernel_rfl) ⟨trivial, trivial, trivial, trivial, trivial⟩ ?_
      refine to_then ?_
      refine W_block ?_
      obtain ⟨r8, hp14, h⟩ := h_bind h
      refine W.mono (Q := (postS (postX Try.f10.ntmps 0 (fun (_ : Unit) => mkSt [] [] 0)) (postR tb Try.f10.results.toList (fun (r5 : Bool) => [⟨.bool, r5⟩]))) r8) (W_iter (f := fun (v13 : Int) => mkSt [(1, .adr 0 0 2 0), (21, .p β0 (.slice (.slice (.int .i64))) a1), (22, .p false (.int .i64) (a1.length : Int)), (23, .p false (.int .i64) v13)] [(0, .box [.p β0 (.slice (.slice (.int .i64))) a1, .p β1 (.slice (.int .u32)) a2])] 1) (Q := (postS (postX Try.f10.ntmps 0 (fun (_ : Unit) => mkSt [] [] 0)) (postR tb Try.f10.results.toList (fun (r5 : Bool) => [⟨.bool, r5⟩])))) hp14 (goal_le (gs := []) (f := [0]) (by kernel_rfl) (by kernel_rfl)) (fun v13 o ho => ?_)) (fun e σ' hq => ?_)
      · replace h := ho
        clear ho hp14
        unfold least_Check_L2 at h
        refine W_seq ?_
        refine W_reg tbok ⟨[], []⟩ [] [0] [(1, .adr 0 0 2 0), (21, .p β0 (.slice (.slice (.int .i64))) a1), (22, .p false (.int .i64) (a1.length : Int)), (23, .p false (.int .i64) v13), (24, .p false .bool (decide (v13 < (a1.length : Int))))] [(0, .box [.p β0 (.slice (.slice (.int .i64))) a1, .p β1 (.slice (.int .u32)) a2])] 1 0 [True] (by kernel_rfl) (by kernel_rfl) ⟨trivial, trivial⟩ ?_
        refine to_then ?_
        refine W_seq ?_
        refine W_cond (b := (decide (v13 < (a1.length : Int)))) (β := false) (by kernel_rfl) (fun hb39 => ?_) (fun hb39 => ?_)
        · replace h := h_if hb39 h
          refine W_skip_to ?_
          refine to_then ?_
          refine W_seq ?_
          refine W_block ?_
          refine W_seq ?_
          obtain ⟨c22, h⟩ := h_guard h
          refine W_reg tbok ⟨[], []⟩ [] [0] [(1, .adr 0 0 2 0), (4, .p β0 (.slice (.int .i64)) (a1.getD v13.toNat ([] : List Int))), (21, .p β0 (.slice (.slice (.int .i64))) a1), (22, .p false (.int .i64) (a1.length : Int)), (23, .p false (.int .i64) v13)] [(0, .box [.p β0 (.slice (.slice (.int .i64))) a1, .p β1 (.slice (.int .u32)) a2])] 1 0 [0 ≤ v13 ∧ v13 < (a1.length : Int), True, True] (by kernel_rfl) (by kernel_rfl) ⟨c22, trivial, trivial, trivial⟩ ?_
          refine to_then ?_
          refine W_seq ?_
          refine W_seq ?_
          obtain ⟨c24, h⟩ := h_guard h
          refine W_reg tbok ⟨[], []⟩ [] [0] [(1, .adr 0 0 2 0), (4, .p β0 (.slice (.int .i64)) (a1.getD v13.toNat ([] : List Int))), (21, .p β0 (.slice (.slice (.int .i64))) a1), (22, .p false (.int .i64) (a1.length : Int)), (23, .p false (.int .i64) v13), (34, .p false .bool (((a1.getD v13.toNat ([] : List Int)).length : Int) != ((a1.getD ((0 : Int).toNat) ([] : List Int)).length : Int)))] [(0, .box [.p β0 (.slice (.slice (.int .i64))) a1, .p β1 (.slice (.int .u32)) a2])] 1 0 [True, True, True, True, 0 ≤ (0 : Int) ∧ (0 : Int) < (a1.length : Int), True, True, True] (by kernel_rfl) (by kernel_rfl) ⟨trivial, trivial, trivial, trivial, c24, trivial, trivial, trivial, trivial⟩ ?_
          refine to_then ?_
          refine W_cond (b := (((a1.getD v13.toNat ([] : List Int)).length : Int) != ((a1.getD ((0 : Int).toNat) ([] : List Int)).length : Int))) (β := false) (by kernel_rfl) (fun hb40 => ?_) (fun hb40 => ?_)
          · replace h := h_if hb40 h
            refine W_seq ?_
            refine W_reg tbok ⟨[], []⟩ [] [] [(2, .p false .bool false)] [] 0 0 [True] (by kernel_rfl) (by kernel_rfl) ⟨trivial, trivial⟩ ?_
            refine to_then ?_
            refine W_ret ?_
            obtain rfl := Option.some.inj h
            refine thenQ_ret ?_
            refine blockQ_ret ?_
            refine thenQ_ret ?_
            refine round_ret ?_
            refine postS_rr ?_
            exact postR_mk (Ret_intro [.bool] (by kernel_rfl))
          · replace h := h_else hb40 h
            refine W_skip_to ?_
            refine to_then ?_
            refine W_seq ?_
            refine W_reg tbok ⟨[], []⟩ [] [0] [(1, .adr 0 0 2 0), (21, .p β0 (.slice (.slice (.int .i64))) a1), (22, .p false (.int .i64) (a1.length : Int)), (23, .p false (.int .i64) v13), (35, .p β0 (.slice (.int .i64)) (a1.getD v13.toNat ([] : List Int))), (36, .p false (.int .i64) ((a1.getD v13.toNat ([] : List Int)).length : Int)), (37, .p false (.int .i64) (0 : Int))] [(0, .box [.p β0 (.slice (.slice (.int .i64))) a1, .p β1 (.slice (.int .u32)) a2])] 1 0 [True, True, True] (by kernel_rfl) (by kernel_rfl) ⟨trivial, trivial, trivial, trivial⟩ ?_
            refine to_then ?_
            refine W_block ?_
            obtain ⟨r7, hp13, h⟩ := h_bind h
            refine W.mono (Q := (postS (postX Try.f10.ntmps 2 (fun (_ : Unit) => mkSt [(1, .adr 0 0 2 0), (21, .p β0 (.slice (.slice (.int .i64))) a1), (22, .p false (.int .i64) (a1.length : Int)), (23, .p false (.int .i64) v13)] [(0, .box [.p β0 (.slice (.slice (.int .i64))) a1, .p β1 (.slice (.int .u32)) a2])] 1)) (postR tb Try.f10.results.toList (fun (r6 : Bool) => [⟨.bool, r6⟩]))) r7) (W_iter (f := fun (v17 : Int) => mkSt [(1, .adr 0 0 2 0), (21, .p β0 (.slice (.slice (.int .i64))) a1), (22, .p false (.int .i64) (a1.length : Int)), (23, .p false (.int .i64) v13), (35, .p β0 (.slice (.int .i64)) (a1.getD v13.toNat ([] : List Int))), (36, .p false (.int .i64) ((a1.getD v13.toNat ([] : List Int)).length : Int)), (37, .p false (.int .i64) v17)] [(0, .box [.p β0 (.slice (.slice (.int .i64))) a1, .p β1 (.slice (.int .u32)) a2])] 1) (Q := (postS (postX Try.f10.ntmps 2 (fun (_ : Unit) => mkSt [(1, .adr 0 0 2 0), (21, .p β0 (.slice (.slice (.int .i64))) a1), (22, .p false (.int .i64) (a1.length : Int)), (23, .p false (.int .i64) v13)] [(0, .box [.p β0 (.slice (.slice (.int .i64))) a1, .p β1 (.slice (.int .u32)) a2])] 1)) (postR tb Try.f10.results.toList (fun (r6 : Bool) => [⟨.bool, r6⟩])))) hp13 (goal_le (gs := []) (f := [0]) (by kernel_rfl) (by kernel_rfl)) (fun v17 o ho => ?_)) (fun e σ' hq => ?_)
            · replace h := ho
              clear ho hp13
              unfold least_Check_L1 at h
              refine W_seq ?_
              refine W_reg tbok ⟨[], []⟩ [] [0] [(1, .adr 0 0 2 0), (21, .p β0 (.slice (.slice (.int .i64))) a1), (22, .p false (.int .i64) (a1.length : Int)), (23, .p false (.int .i64) v13), (35, .p β0 (.slice (.int .i64)) (a1.getD v13.toNat ([] : List Int))), (36, .p false (.int .i64) ((a1.getD v13.toNat ([] : List Int)).length : Int)), (37, .p false (.int .i64) v17), (38, .p false .bool (decide (v17 < ((a1.getD v13.toNat ([] : List Int)).length : Int))))] [(0, .box [.p β0 (.slice (.slice (.int .i64))) a1, .p β1 (.slice (.int .u32)) a2])] 1 0 [True] (by kernel_rfl) (by kernel_rfl) ⟨trivial, trivial⟩ ?_
              refine to_then ?_
              refine W_seq ?_
              refine W_cond (b := (decide (v17 < ((a1.getD v13.toNat ([] : List Int)).length : Int)))) (β := false) (by kernel_rfl) (fun hb51 => ?_) (fun hb51 => ?_)
              · replace h := h_if hb51 h
                refine W_skip_to ?_
                refine to_then ?_
                refine W_seq ?_
                refine W_block ?_
                refine W_seq ?_
                obtain ⟨c30, h⟩ := h_guard h
                refine W_reg tbok ⟨[], []⟩ [] [0] [(1, .adr 0 0 2 0), (6, .p false (.int .i64) ((a1.getD v13.toNat ([] : List Int)).getD v17.toNat (0 : Int))), (21, .p β0 (.slice (.slice (.int .i64))) a1), (22, .p false (.int .i64) (a1.length : Int)), (23, .p false (.int .i64) v13), (35, .p β0 (.slice (.int .i64)) (a1.getD v13.toNat ([] : List Int))), (36, .p false (.int .i64) ((a1.getD v13.toNat ([] : List Int)).length : Int)), (37, .p false (.int .i64) v17)] [(0, .box [.p β0 (.slice (.slice (.int .i64))) a1, .p β1 (.slice (.int .u32)) a2])] 1 0 [0 ≤ v17 ∧ v17 < ((a1.getD v13.toNat ([] : List Int)).length : Int), True, True] (by kernel_rfl) (by kernel_rfl) ⟨c30, trivial, trivial, trivial⟩ ?_
                refine to_then ?_
                refine W_seq ?_
                obtain ⟨v18, hp12, h⟩ := h_bind h
                refine W.mono (Q := (postN Try.f10.ntmps (fun (v18 : Bool) => mkSt [(1, .adr 0 0 2 0), (21, .p β0 (.slice (.slice (.int .i64))) a1), (22, .p false (.int .i64) (a1.length : Int)), (23, .p false (.int .i64) v13), (35, .p β0 (.slice (.int .i64)) (a1.getD v13.toNat ([] : List Int))), (36, .p false (.int .i64) ((a1.getD v13.toNat ([] : List Int)).length : Int)), (37, .p false (.int .i64) v17), (49, .p false .bool v18)] [(0, .box [.p β0 (.slice (.slice (.int .i64))) a1, .p β1 (.slice (.int .u32)) a2])] 1)) v18) ?_ (fun e σ' hq => ?_)
                · replace h := hp12
                  clear hp12
                  rcases Bool.eq_false_or_eq_true (decide (((a1.getD v13.toNat ([] : List Int)).getD v17.toNat (0 : Int)) < (0 : Int))) with hb54 | hb54
                  · replace h := h_if hb54 h
                    refine W_reg tbok ⟨[(2, true), (8, true)], []⟩ [] [0] [(1, .adr 0 0 2 0), (21, .p β0 (.slice (.slice (.int .i64))) a1), (22, .p false (.int .i64) (a1.length : Int)), (23, .p false (.int .i64) v13), (35, .p β0 (.slice (.int .i64)) (a1.getD v13.toNat ([] : List Int))), (36, .p false (.int .i64) ((a1.getD v13.toNat ([] : List Int)).length : Int)), (37, .p false (.int .i64) v17), (49, .p false .bool true)] [(0, .box [.p β0 (.slice (.slice (.int .i64))) a1, .p β1 (.slice (.int .u32)) a2])] 1 0 [True, True, True, (decide (((a1.getD v13.toNat ([] : List Int)).getD v17.toNat (0 : Int)) < (0 : Int))) = true, (decide (((a1.getD v13.toNat ([] : List Int)).getD v17.toNat (0 : Int)) < (0 : Int))) = true, (decide (((a1.getD v13.toNat ([] : List Int)).getD v17.toNat (0 : Int)) < (0 : Int))) = true, (decide (((a1.getD v13.toNat ([] : List Int)).getD v17.toNat (0 : Int)) < (0 : Int))) = true, (decide (((a1.getD v13.toNat ([] : List Int)).getD v17.toNat (0 : Int)) < (0 : Int))) = true, (decide (((a1.getD v13.toNat ([] : List Int)).getD v17.toNat (0 : Int)) < (0 : Int))) = true] (by kernel_rfl) (by kernel_rfl) ⟨trivial, trivial, trivial, hb54, hb54, hb54, hb54, hb54, hb54, trivial⟩ ?_
                    obtain rfl := Option.some.inj h
                    exact postN_to (goal_le (gs := []) (f := [0]) (by kernel_rfl) (by kernel_rfl))
                  · replace h := h_else hb54 h
                    refine W_reg tbok ⟨[(2, false), (8, false)], []⟩ [] [0] [(1, .adr 0 0 2 0), (21, .p β0 (.slice (.slice (.int .i64))) a1), (22, .p false (.int .i64) (a1.length : Int)), (23, .p false (.int .i64) v13), (35, .p β0 (.slice (.int .i64)) (a1.getD v13.toNat ([] : List Int))), (36, .p false (.int .i64) ((a1.getD v13.toNat ([] : List Int)).length : Int)), (37, .p false (.int .i64) v17), (49, .p false .bool (decide (((a1.getD v13.toNat ([] : List Int)).getD v17.toNat (0 : Int)) ≥ (a1.length : Int))))] [(0, .box [.p β0 (.slice (.slice (.int .i64))) a1, .p β1 (.slice (.int .u32)) a2])] 1 0 [True, True, True, (decide (((a1.getD v13.toNat ([] : List Int)).getD v17.toNat (0 : Int)) < (0 : Int))) = false ∧ True, (decide (((a1.getD v13.toNat ([] : List Int)).getD v17.toNat (0 : Int)) < (0 : Int))) = false ∧ True, (decide (((a1.getD v13.toNat ([] : List Int)).getD v17.toNat (0 : Int)) < (0 : Int))) = false ∧ True, (decide (((a1.getD v13.toNat ([] : List Int)).getD v17.toNat (0 : Int)) < (0 : Int))) = false ∧ True, (decide (((a1.getD v13.toNat ([] : List Int)).getD v17.toNat (0 : Int)) < (0 : Int))) = false ∧ True, (decide (((a1.getD v13.toNat ([] : List Int)).getD v17.toNat (0 : Int)) < (0 : Int))) = false] (by kernel_rfl) (by kernel_rfl) ⟨trivial, trivial, trivial, ⟨hb54, trivial⟩, ⟨hb54, trivial⟩, ⟨hb54, trivial⟩, ⟨hb54, trivial⟩, ⟨hb54, trivial⟩, hb54, trivial⟩ ?_
                    obtain rfl := Option.some.inj h
                    exact postN_to (goal_le (gs := []) (f := [0]) (by kernel_rfl) (by kernel_rfl))
                · clear hp12
                  obtain ⟨rfl, hle⟩ := hq
                  refine use_to ?_ hle
                  refine to_then ?_
                  refine W_cond (b := v18) (β := false) (by kernel_rfl) (fun hb55 => ?_) (fun hb55 => ?_)
                  · replace h := h_if hb55 h
                    refine W_seq ?_
                    refine W_reg tbok ⟨[], []⟩ [] [] [(2, .p false .bool false)] [] 0 0 [True] (by kernel_rfl) (by kernel_rfl) ⟨trivial, trivial⟩ ?_
                    refine to_then ?_
                    refine W_ret ?_
                    obtain rfl := Option.some.inj h
                    refine blockQ_ret ?_
                    refine thenQ_ret ?_
                    refine round_ret ?_
                    refine postS_rr ?_
                    exact postR_mk (Ret_intro [.bool] (by kernel_rfl))
                  · replace h := h_else hb55 h
                    refine W_skip_to ?_
                    refine to_block ?_
                    refine to_then ?_
                    refine W_reg tbok ⟨[], []⟩ [] [0] [(1, .adr 0 0 2 0), (21, .p β0 (.slice (.slice (.int .i64))) a1), (22, .p false (.int .i64) (a1.length : Int)), (23, .p false (.int .i64) v13), (35, .p β0 (.slice (.int .i64)) (a1.getD v13.toNat ([] : List Int))), (36, .p false (.int .i64) ((a1.getD v13.toNat ([] : List Int)).length : Int)), (37, .p false (.int .i64) (IntKind.i64.wrap (v17 + (1 : Int))))] [(0, .box [.p β0 (.slice (.slice (.int .i64))) a1, .p β1 (.slice (.int .u32)) a2])] 1 0 [True, True] (by kernel_rfl) (by kernel_rfl) ⟨trivial, trivial, trivial⟩ ?_
                    obtain rfl := Option.some.inj h
                    exact roundB (goal_le (gs := []) (f := [0]) (by kernel_rfl) (by kernel_rfl))
              · replace h := h_else hb51 h
                refine W_exit_to ?_
                refine thenE ?_
                obtain rfl := Option.some.inj h
                refine roundE ?_
                refine postS_l ?_
                exact postX_to (goal_le (gs := []) (f := [0]) (by kernel_rfl) (by kernel_rfl))
            · clear hp13
              rcases r7 with _ | r6
              · obtain ⟨rfl, hle⟩ := hq
                refine use_to ?_ hle
                refine blockE_eq ?_
                refine to_block ?_
                refine to_then ?_
                refine W_reg tbok ⟨[], []⟩ [] [0] [(1, .adr 0 0 2 0), (21, .p β0 (.slice (.slice (.int .i64))) a1), (22, .p false (.int .i64) (a1.length : Int)), (23, .p false (.int .i64) (IntKind.i64.wrap (v13 + (1 : Int))))] [(0, .box [.p β0 (.slice (.slice (.int .i64))) a1, .p β1 (.slice (.int .u32)) a2])] 1 0 [True, True] (by kernel_rfl) (by kernel_rfl) ⟨trivial, trivial, trivial⟩ ?_
                obtain rfl := Option.some.inj h
                exact roundB (goal_le (gs := []) (f := [0]) (by kernel_rfl) (by kernel_rfl))
              · obtain ⟨rfl, hr⟩ := hq
                obtain rfl := Option.some.inj h
                refine blockQ_ret ?_
                refine blockQ_ret ?_
                refine thenQ_ret ?_
                refine round_ret ?_
                refine postS_rr ?_
                exact postR_mk hr
        · replace h := h_else hb39 h
          refine W_exit_to ?_
          refine thenE ?_
          obtain rfl := Option.some.inj h
          refine roundE ?_
          refine postS_l ?_
          exact postX_to (goal_le (gs := []) (f := []) (by kernel_rfl) (by kernel_rfl))
      · clear hp14
        rcases r8 with _ | r5
        · obtain ⟨rfl, hle⟩ := hq
          refine use_to ?_ hle
          refine blockE_eq ?_
          refine to_then ?_
          refine W_seq ?_
          refine W_reg tbok ⟨[], []⟩ [] [] [(2, .p false .bool true)] [] 0 0 [True] (by kernel_rfl) (by kernel_rfl) ⟨trivial, trivial⟩ ?_
          refine to_then ?_
          refine W_ret ?_
          obtain rfl := Option.some.inj h
          exact Ret_intro [.bool] (by kernel_rfl)
        · obtain ⟨rfl, hr⟩ := hq
          refine blockQ_ret ?_
          refine thenQ_ret ?_
          obtain rfl := Option.some.inj h
          exact hr

/-- 'stanza/least.Make$1' -/
def least_Make_1_v2 (s1 : Int) (x1 : List (List Int)) (x2 : List Int) (key1 : List Int) : Option (List Int) :=
  (if 0 ≤ s1 ∧ s1 < (x2.length : Int) then (if (key1.length + ([(IntKind.i64.wrap (x2.getD s1.toNat (0 : Int)))] : List Int).length) * 8 ≤ 140737488355328 ∧ key1.length + ([(IntKind.i64.wrap (x2.getD s1.toNat (0 : Int)))] : List Int).length ≤ 9223372036854775807 then some (key1 ++ ([(IntKind.i64.wrap (x2.getD s1.toNat (0 : Int)))] : List Int)) else none) else none)

set_option maxRecDepth 100000 in
set_option maxHeartbeats 4000000 in
theorem least_Make_1_v2_ok (β1 β2 : Bool) (s1 : Int) (x1 : List (List Int)) (x2 : List Int) (key1 : List Int) (res : List Int) (h : least_Make_1_v2 s1 x1 x2 key1 = some res) :
    Owns Try.prog 20 [.p false (.int .i64) s1, .sl 0, .fad true [.p β1 (.slice (.slice (.int .i64))) x1, .p β2 (.slice (.int .u32)) x2] 0] [(0, .arr 3 (.int .i64) key1)] (.sl 1) [(1, .arr 3 (.int .i64) res)] := by
  refine Owns.of_body tbok Try.func20 (by kernel_rfl) rfl (Nat.le_of_ble_eq_true rfl) (fun Bw w0 => ?_)
  unfold least_Make_1_v2 at h
  refine W_seq ?_
  refine W_reg tbok ⟨[], []⟩ [] [0] [(0, .p false (.int .i64) s1), (1, .sl 0), (2, .fad true [.p β1 (.slice (.slice (.int .i64))) x1, .p β2 (.slice (.int .u32)) x2] 0)] [(0, .arr 3 (.int .i64) key1)] 1 1 [True] (by kernel_rfl) (by kernel_rfl) ⟨trivial, trivial⟩ ?_
  refine to_then ?_
  refine W_seq ?_
  obtain ⟨c7, h⟩ := h_guard h
  obtain ⟨c8, h⟩ := h_guard h
  refine W_reg tbok ⟨[], []⟩ [] [0, 65] [(5, .sl 1)] [(1, .arr 3 (.int .i64) (key1 ++ ([(IntKind.i64.wrap (x2.getD s1.toNat (0 : Int)))] : List Int)))] 2 1 [True, True, True, True, 0 ≤ s1 ∧ s1 < (x2.length : Int), True, True, True, (key1.length + ([(IntKind.i64.wrap (x2.getD s1.toNat (0 : Int)))] : List Int).length) * 8 ≤ 140737488355328 ∧ key1.length + ([(IntKind.i64.wrap (x2.getD s1.toNat (0 : Int)))] : List Int).length ≤ 9223372036854775807, True] (by kernel_rfl) (by kernel_rfl) ⟨trivial, trivial, trivial, trivial, c7, trivial, trivial, trivial, c8, trivial, trivial⟩ ?_
  refine to_then ?_
  refine W_ret ?_
  obtain rfl := Option.some.inj h
  exact RetO_intro [none] [] [0, 1] [(5, .sl 1)] [(1, .arr 3 (.int .i64) (key1 ++ ([(IntKind.i64.wrap (x2.getD s1.toNat (0 : Int)))] : List Int)))] 2 1 (by kernel_rfl) (by kernel_rfl) (by kernel_rfl)

/-- a loop of 'stanza/least.split': one round -/
def least_split_L1 (r8 : List Int) : ((List Int) × Int) → Option (((List Int) × Int) ⊕ (List Int)) := fun ((v26, v27) : (List Int) × Int) =>
  (if (decide (v27 < (r8.length : Int))) = true then (if 0 ≤ v27 ∧ v27 < (r8.length : Int) then (if v27.toNat < r8.length then (if 0 ≤ (8 : Int) then (if 0 ≤ (16 : Int) then (if 0 ≤ (24 : Int) then (if (v26.length + ([(IntKind.u8.wrap (r8.getD v27.toNat (0 : Int))), (IntKind.u8.wrap (Int.fdiv (r8.getD v27.toNat (0 : Int)) (2 ^ (min (8 : Int).toNat IntKind.i64.bits)))), (IntKind.u8.wrap (Int.fdiv (r8.getD v27.toNat (0 : Int)) (2 ^ (min (16 : Int).toNat IntKind.i64.bits)))), (IntKind.u8.wrap (Int.fdiv (r8.getD v27.toNat (0 : Int)) (2 ^ (min (24 : Int).toNat IntKind.i64.bits))))] : List Int).length) * 1 ≤ 140737488355328 ∧ v26.length + ([(IntKind.u8.wrap (r8.getD v27.toNat (0 : Int))), (IntKind.u8.wrap (Int.fdiv (r8.getD v27.toNat (0 : Int)) (2 ^ (min (8 : Int).toNat IntKind.i64.bits)))), (IntKind.u8.wrap (Int.fdiv (r8.getD v27.toNat (0 : Int)) (2 ^ (min (16 : Int).toNat IntKind.i64.bits)))), (IntKind.u8.wrap (Int.fdiv (r8.getD v27.toNat (0 : Int)) (2 ^ (min (24 : Int).toNat IntKind.i64.bits))))] : List Int).length ≤ 9223372036854775807 then some (Sum.inl ((v26 ++ ([(IntKind.u8.wrap (r8.getD v27.toNat (0 : Int))), (IntKind.u8.wrap (Int.fdiv (r8.getD v27.toNat (0 : Int)) (2 ^ (min (8 : Int).toNat IntKind.i64.bits)))), (IntKind.u8.wrap (Int.fdiv (r8.getD v27.toNat (0 : Int)) (2 ^ (min (16 : Int).toNat IntKind.i64.bits)))), (IntKind.u8.wrap (Int.fdiv (r8.getD v27.toNat (0 : Int)) (2 ^ (min (24 : Int).toNat IntKind.i64.bits))))] : List Int)), (IntKind.i64.wrap (v27 + (1 : Int))))) else none) else none) else none) else none) else none) else none)
  else some (Sum.inr v26))

/-- a loop of 'stanza/least.split': one round -/
def least_split_L2 (d1 : Int) (i1 : List (List Int)) (i2 : List Int) : ((List ((List UInt8) × Int)) × (List Int) × (List Int) × Int) → Option (((List ((List UInt8) × Int)) × (List Int) × (List Int) × Int) ⊕ (List Int)) := fun ((v19, v20, v21, v22) : (List ((List UInt8) × Int)) × (List Int) × (List Int) × Int) =>
  (if (decide (v22 < d1)) = true then (if 0 ≤ (0 : Int) ∧ (0 : Int) ≤ (v21.length : Int) then ((least_Make_1_v2 v22 i1 i2 (v21.take (0 : Int).toNat)).bind fun (r8 : List Int) =>
  ((iter (least_split_L1 r8) (([] : List Int), (0 : Int))).bind fun (v28 : List Int) => (((if (!((mfind .str v19 (bytesOf v28)).isSome)) = true then some (((mset .str v19 (bytesOf v28) (v19.length : Int)), (v19.length : Int)))
  else some ((v19, ((mfind .str v19 (bytesOf v28)).getD (0 : Int)))))).bind fun ((v29, v30) : (List ((List UInt8) × Int)) × Int) => (if 0 ≤ v22 ∧ v22 < (v20.length : Int) then (if v22.toNat < v20.length then some (Sum.inl (v29, (v20.set v22.toNat v30), r8, (IntKind.i64.wrap (v22 + (1 : Int))))) else none) else none)))) else none)
  else some (Sum.inr v20))

/-- 'stanza/least.split' -/
def least_split (d1 : Int) (i1 : List (List Int)) (i2 : List Int) : Option (List Int) :=
  (if 0 ≤ d1 ∧ d1 ≤ d1 ∧ (8 : Int) * d1 ≤ 281474976710656 ∧ d1 ≤ 9223372036854775807 then ((iter (least_split_L2 d1 i1 i2) (([] : List ((List UInt8) × Int)), (List.replicate d1.toNat (0 : Int)), ([] : List Int), (0 : Int))).bind fun (v23 : List Int) => some v23) else none)

set_option maxRecDepth 100000 in
set_option maxHeartbeats 4000000 in
theorem least_split_ok (β1 β2 : Bool) (d1 : Int) (i1 : List (List Int)) (i2 : List Int) (res : List Int) (h : least_split d1 i1 i2 = some res) :
    Pure Try.prog 19 [.p false (.int .i64) d1, .fn 20 [.fad true [.p β1 (.slice (.slice (.int .i64))) i1, .p β2 (.slice (.int .u32)) i2] 0]] (wrapR (encs false [⟨(.slice (.int .i64)), res⟩])) := by
  refine Pure.of_body tbok Try.func19 (by kernel_rfl) rfl (Nat.le_of_ble_eq_true rfl) (fun Bw w0 => ?_) rfl
  unfold least_split at h
  refine W_seq ?_
  refine W_reg tbok ⟨[], []⟩ [] [] [(0, .p false (.int .i64) d1), (1, .fn 20 [.fad true [.p β1 (.slice (.slice (.int .i64))) i1, .p β2 (.slice (.int .u32)) i2] 0])] [] 0 0 [True] (by kernel_rfl) (by kernel_rfl) ⟨trivial, trivial⟩ ?_
  refine to_then ?_
  refine W_seq ?_
  refine W_reg tbok ⟨[], []⟩ [] [0] [(0, .p false (.int .i64) d1), (1, .fn 20 [.fad true [.p β1 (.slice (.slice (.int .i64))) i1, .p β2 (.slice (.int .u32)) i2] 0]), (5, .mp 0)] [(0, .mpo .str (.int .i64) ([] : List ((List UInt8) × Int)))] 1 0 [True, True] (by kernel_rfl) (by kernel_rfl) ⟨trivial, trivial, trivial⟩ ?_
  refine to_then ?_
  refine W_seq ?_
  obtain ⟨c2, h⟩ := h_guard h
  refine W_reg tbok ⟨[], []⟩ [] [0, 9] [(0, .p false (.int .i64) d1), (1, .fn 20 [.fad true [.p β1 (.slice (.slice (.int .i64))) i1, .p β2 (.slice (.int .u32)) i2] 0]), (5, .mp 0), (6, .sl 1)] [(0, .mpo .str (.int .i64) ([] : List ((List UInt8) × Int))), (1, .arr 3 (.int .i64) (List.replicate d1.toNat (0 : Int)))] 2 0 [True, 0 ≤ d1 ∧ d1 ≤ d1 ∧ (8 : Int) * d1 ≤ 281474976710656 ∧ d1 ≤ 9223372036854775807, True] (by kernel_rfl) (by kernel_rfl) ⟨trivial, c2, trivial, trivial⟩ ?_
  refine to_then ?_
  refine W_seq ?_
  refine W_reg tbok ⟨[], []⟩ [] [0, 1] [(0, .p false (.int .i64) d1), (1, .fn 20 [.fad true [.p β1 (.slice (.slice (.int .i64))) i1, .p β2 (.slice (.int .u32)) i2] 0]), (5, .mp 0), (6, .sl 1), (7, .nils)] [(0, .mpo .str (.int .i64) ([] : List ((List UInt8) × Int))), (1, .arr 3 (.int .i64) (List.replicate d1.toNat (0 : Int)))] 2 0 [True] (by kernel_rfl) (by kernel_rfl) ⟨trivial, trivial⟩ ?_
  refine to_then ?_
  refine W_seq ?_
  refine W_seq ?_
  refine W_reg tbok ⟨[], []⟩ [] [0, 1] [(1, .fn 20 [.fad true [.p β1 (.slice (.slice (.int .i64))) i1, .p β2 (.slice (.int .u32)) i2] 0]), (5, .mp 0), (6, .sl 1), (7, .nils), (17, .p false (.int .i64) d1), (18, .p false (.int .i64) (0 : Int))] [(0, .mpo .str (.int .i64) ([] : List ((List UInt8) × Int))), (1, .arr 3 (.int .i64) (List.replicate d1.toNat (0 : Int)))] 2 0 [True, True] (by kernel_rfl) (by kernel_rfl) ⟨trivial, trivial, trivial⟩ ?_
  refine to_then ?_
  refine W_block ?_
  obtain ⟨v23, hp7, h⟩ := h_bind h
  refine W.mono (Q := (postX Try.f19.ntmps 0 (fun (v23 : List Int) => mkSt [(6, .sl 0)] [(0, .arr 3 (.int .i64) v23)] 1)) v23) (W_iter (f := fun ((v19, v20, v21, v22) : (List ((List UInt8) × Int)) × (List Int) × (List Int) × Int) => mkSt [(1, .fn 20 [.fad true [.p β1 (.slice (.slice (.int .i64))) i1, .p β2 (.slice (.int .u32)) i2] 0]), (5, .mp 0), (6, .sl 1), (7, .sl 2), (17, .p false (.int .i64) d1), (18, .p false (.int .i64) v22)] [(0, .mpo .str (.int .i64) v19), (1, .arr 3 (.int .i64) v20), (2, .arr 3 (.int .i64) v21)] 3) (Q := (postX Try.f19.ntmps 0 (fun (v23 : List Int) => mkSt [(6, .sl 0)] [(0, .arr 3 (.int .i64) v23)] 1))) hp7 (goal_le (gs := [.nilS 7 2 3 (.int .i64)]) (f := [0, 1, 2]) (by kernel_rfl) (by kernel_rfl)) (fun y o ho => ?_)) (fun e σ' hq => ?_)
  · obtain ⟨v19, v20, v21, v22⟩ := y
    replace h := ho
    clear ho hp7
    unfold least_split_L2 at h
    refine W_seq ?_
    refine W_reg tbok ⟨[], []⟩ [] [0, 1, 2] [(1, .fn 20 [.fad true [.p β1 (.slice (.slice (.int .i64))) i1, .p β2 (.slice (.int .u32)) i2] 0]), (5, .mp 0), (6, .sl 1), (7, .sl 2), (17, .p false (.int .i64) d1), (18, .p false (.int .i64) v22), (19, .p false .bool (decide (v22 < d1)))] [(0, .mpo .str (.int .i64) v19), (1, .arr 3 (.int .i64) v20), (2, .arr 3 (.int .i64) v21)] 3 0 [True] (by kernel_rfl) (by kernel_rfl) ⟨trivial, trivial⟩ ?_
    refine to_then ?_
    refine W_seq ?_
    refine W_cond (b := (decide (v22 < d1))) (β := false) (by kernel_rfl) (fun hb13 => ?_) (fun hb13 => ?_)
    · replace h := h_if hb13 h
      refine W_skip_to ?_
      refine to_then ?_
      refine W_seq ?_
      refine W_block ?_
      refine W_seq ?_
      refine W_reg tbok ⟨[], []⟩ [] [0, 1, 2] [(1, .fn 20 [.fad true [.p β1 (.slice (.slice (.int .i64))) i1, .p β2 (.slice (.int .u32)) i2] 0]), (5, .mp 0), (6, .sl 1), (7, .sl 2), (8, .p false (.int .i64) v22), (17, .p false (.int .i64) d1), (18, .p false (.int .i64) v22)] [(0, .mpo .str (.int .i64) v19), (1, .arr 3 (.int .i64) v20), (2, .arr 3 (.int .i64) v21)] 3 0 [True, True] (by kernel_rfl) (by kernel_rfl) ⟨trivial, trivial, trivial⟩ ?_
      refine to_then ?_
      refine W_seq ?_
      obtain ⟨c88, h⟩ := h_guard h
      obtain ⟨r8, q6, h⟩ := h_bind h
      refine W_reg tbok ⟨[], [(4, ⟨.sl 1, [false, false], true, [true, true], [27], [(1, .arr 3 (.int .i64) r8)]⟩)]⟩ [] [0, 1, 35] [(1, .fn 20 [.fad true [.p β1 (.slice (.slice (.int .i64))) i1, .p β2 (.slice (.int .u32)) i2] 0]), (5, .mp 0), (6, .sl 1), (7, .sl 2), (8, .p false (.int .i64) v22), (17, .p false (.int .i64) d1), (18, .p false (.int .i64) v22)] [(0, .mpo .str (.int .i64) v19), (1, .arr 3 (.int .i64) v20), (2, .arr 3 (.int .i64) r8)] 3 0 [True, True, True, 0 ≤ (0 : Int) ∧ (0 : Int) ≤ (v21.length : Int), Owns Try.prog 20 [.p false (.int .i64) v22, .sl 0, .fad true [.p β1 (.slice (.slice (.int .i64))) i1, .p β2 (.slice (.int .u32)) i2] 0] [(0, .arr 3 (.int .i64) (v21.take (0 : Int).toNat))] (.sl 1) [(1, .arr 3 (.int .i64) r8)], True] (by kernel_rfl) (by kernel_rfl) ⟨trivial, trivial, trivial, c88, (least_Make_1_v2_ok β1 β2 v22 i1 i2 (v21.take (0 : Int).toNat) _ q6), trivial, trivial⟩ ?_
      refine to_then ?_
      refine W_seq ?_
      refine W_reg tbok ⟨[], []⟩ [] [0, 1, 2] [(1, .fn 20 [.fad true [.p β1 (.slice (.slice (.int .i64))) i1, .p β2 (.slice (.int .u32)) i2] 0]), (5, .mp 0), (6, .sl 1), (7, .sl 2), (8, .p false (.int .i64) v22), (9, .nils), (17, .p false (.int .i64) d1), (18, .p false (.int .i64) v22)] [(0, .mpo .str (.int .i64) v19), (1, .arr 3 (.int .i64) v20), (2, .arr 3 (.int .i64) r8)] 3 0 [True] (by kernel_rfl) (by kernel_rfl) ⟨trivial, trivial⟩ ?_
      refine to_then ?_
      refine W_seq ?_
      refine W_seq ?_
      refine W_reg tbok ⟨[], []⟩ [] [0, 1, 2] [(1, .fn 20 [.fad true [.p β1 (.slice (.slice (.int .i64))) i1, .p β2 (.slice (.int .u32)) i2] 0]), (5, .mp 0), (6, .sl 1), (7, .sl 2), (8, .p false (.int .i64) v22), (9, .nils), (17, .p false (.int .i64) d1), (18, .p false (.int .i64) v22), (26, .sl 2), (27, .p false (.int .i64) (r8.length : Int)), (28, .p false (.int .i64) (0 : Int))] [(0, .mpo .str (.int .i64) v19), (1, .arr 3 (.int .i64) v20), (2, .arr 3 (.int .i64) r8)] 3 0 [True, True, True] (by kernel_rfl) (by kernel_rfl) ⟨trivial, trivial, trivial, trivial⟩ ?_
      refine to_then ?_
      refine W_block ?_
      obtain ⟨v28, hp5, h⟩ := h_bind h
      refine W.mono (Q := (postX Try.f19.ntmps 2 (fun (v28 : List Int) => mkSt [(1, .fn 20 [.fad true [.p β1 (.slice (.slice (.int .i64))) i1, .p β2 (.slice (.int .u32)) i2] 0]), (5, .mp 0), (6, .sl 1), (7, .sl 2), (8, .p false (.int .i64) v22), (9, .sl 3), (17, .p false (.int .i64) d1), (18, .p false (.int .i64) v22)] [(0, .mpo .str (.int .i64) v19), (1, .arr 3 (.int .i64) v20), (2, .arr 3 (.int .i64) r8), (3, .arr 5 (.int .u8) v28)] 4)) v28) (W_iter (f := fun ((v26, v27) : (List Int) × Int) => mkSt [(1, .fn 20 [.fad true [.p β1 (.slice (.slice (.int .i64))) i1, .p β2 (.slice (.int .u32)) i2] 0]), (5, .mp 0), (6, .sl 1), (7, .sl 2), (8, .p false (.int .i64) v22), (9, .sl 3), (17, .p false (.int .i64) d1), (18, .p false (.int .i64) v22), (26, .sl 2), (27, .p false (.int .i64) (r8.length : Int)), (28, .p false (.int .i64) v27)] [(0, .mpo .str (.int .i64) v19), (1, .arr 3 (.int .i64) v20), (2, .arr 3 (.int .i64) r8), (3, .arr 5 (.int .u8) v26)] 4) (Q := (postX Try.f19.ntmps 2 (fun (v28 : List Int) => mkSt [(1, .fn 20 [.fad true [.p β1 (.slice (.slice (.int .i64))) i1, .p β2 (.slice (.int .u32)) i2] 0]), (5, .mp 0), (6, .sl 1), (7, .sl 2), (8, .p false (.int .i64) v22), (9, .sl 3), (17, .p false (.int .i64) d1), (18, .p false (.int .i64) v22)] [(0, .mpo .str (.int .i64) v19), (1, .arr 3 (.int .i64) v20), (2, .arr 3 (.int .i64) r8), (3, .arr 5 (.int .u8) v28)] 4))) hp5 (goal_le (gs := [.nilS 9 3 5 (.int .u8)]) (f := [0, 1, 2, 3]) (by kernel_rfl) (by kernel_rfl)) (fun y o ho => ?_)) (fun e σ' hq => ?_)
      · obtain ⟨v26, v27⟩ := y
        replace h := ho
        clear ho hp5
        unfold least_split_L1 at h
        refine W_seq ?_
        refine W_reg tbok ⟨[], []⟩ [] [0, 1, 2, 3] [(1, .fn 20 [.fad true [.p β1 (.slice (.slice (.int .i64))) i1, .p β2 (.slice (.int .u32)) i2] 0]), (5, .mp 0), (6, .sl 1), (7, .sl 2), (8, .p false (.int .i64) v22), (9, .sl 3), (17, .p false (.int .i64) d1), (18, .p false (.int .i64) v22), (26, .sl 2), (27, .p false (.int .i64) (r8.length : Int)), (28, .p false (.int .i64) v27), (29, .p false .bool (decide (v27 < (r8.length : Int))))] [(0, .mpo .str (.int .i64) v19), (1, .arr 3 (.int .i64) v20), (2, .arr 3 (.int .i64) r8), (3, .arr 5 (.int .u8) v26)] 4 0 [True] (by kernel_rfl) (by kernel_rfl) ⟨trivial, trivial⟩ ?_
        refine to_then ?_
        refine W_seq ?_
        refine W_cond (b := (decide (v27 < (r8.length : Int)))) (β := false) (by kernel_rfl) (fun hb16 => ?_) (fun hb16 => ?_)
        · replace h := h_if hb16 h
          refine W_skip_to ?_
          refine to_then ?_
          refine W_seq ?_
          refine W_block ?_
          refine W_seq ?_
          obtain ⟨c115, h⟩ := h_guard h
          obtain ⟨c116, h⟩ := h_guard h
          refine W_reg tbok ⟨[], []⟩ [] [0, 1, 2, 3] [(1, .fn 20 [.fad true [.p β1 (.slice (.slice (.int .i64))) i1, .p β2 (.slice (.int .u32)) i2] 0]), (5, .mp 0), (6, .sl 1), (7, .sl 2), (8, .p false (.int .i64) v22), (9, .sl 3), (11, .p false (.int .i64) (r8.getD v27.toNat (0 : Int))), (17, .p false (.int .i64) d1), (18, .p false (.int .i64) v22), (26, .sl 2), (27, .p false (.int .i64) (r8.length : Int)), (28, .p false (.int .i64) v27)] [(0, .mpo .str (.int .i64) v19), (1, .arr 3 (.int .i64) v20), (2, .arr 3 (.int .i64) r8), (3, .arr 5 (.int .u8) v26)] 4 0 [0 ≤ v27 ∧ v27 < (r8.length : Int), v27.toNat < r8.length, True] (by kernel_rfl) (by kernel_rfl) ⟨c115, c116, trivial, trivial⟩ ?_
          refine to_then ?_
          obtain ⟨c121, h⟩ := h_guard h
          obtain ⟨c122, h⟩ := h_guard h
          obtain ⟨c123, h⟩ := h_guard h
          obtain ⟨c124, h⟩ := h_guard h
          refine W_reg tbok ⟨[], []⟩ [] [0, 1, 2, 108] [(1, .fn 20 [.fad true [.p β1 (.slice (.slice (.int .i64))) i1, .p β2 (.slice (.int .u32)) i2] 0]), (5, .mp 0), (6, .sl 1), (7, .sl 2), (8, .p false (.int .i64) v22), (9, .sl 3), (17, .p false (.int .i64) d1), (18, .p false (.int .i64) v22), (26, .sl 2), (27, .p false (.int .i64) (r8.length : Int)), (28, .p false (.int .i64) v27)] [(0, .mpo .str (.int .i64) v19), (1, .arr 3 (.int .i64) v20), (2, .arr 3 (.int .i64) r8), (3, .arr 5 (.int .u8) (v26 ++ ([(IntKind.u8.wrap (r8.getD v27.toNat (0 : Int))), (IntKind.u8.wrap (Int.fdiv (r8.getD v27.toNat (0 : Int)) (2 ^ (min (8 : Int).toNat IntKind.i64.bits)))), (IntKind.u8.wrap (Int.fdiv (r8.getD v27.toNat (0 : Int)) (2 ^ (min (16 : Int).toNat IntKind.i64.bits)))), (IntKind.u8.wrap (Int.fdiv (r8.getD v27.toNat (0 : Int)) (2 ^ (min (24 : Int).toNat IntKind.i64.bits))))] : List Int)))] 4 0 [True, True, True, True, 0 ≤ (8 : Int), True, True, 0 ≤ (16 : Int), True, True, 0 ≤ (24 : Int), True, True, (v26.length + ([(IntKind.u8.wrap (r8.getD v27.toNat (0 : Int))), (IntKind.u8.wrap (Int.fdiv (r8.getD v27.toNat (0 : Int)) (2 ^ (min (8 : Int).toNat IntKind.i64.bits)))), (IntKind.u8.wrap (Int.fdiv (r8.getD v27.toNat (0 : Int)) (2 ^ (min (16 : Int).toNat IntKind.i64.bits)))), (IntKind.u8.wrap (Int.fdiv (r8.getD v27.toNat (0 : Int)) (2 ^ (min (24 : Int).toNat IntKind.i64.bits))))] : List Int).length) * 1 ≤ 140737488355328 ∧ v26.length + ([(IntKind.u8.wrap (r8.getD v27.toNat (0 : Int))), (IntKind.u8.wrap (Int.fdiv (r8.getD v27.toNat (0 : Int)) (2 ^ (min (8 : Int).toNat IntKind.i64.bits)))), (IntKind.u8.wrap (Int.fdiv (r8.getD v27.toNat (0 : Int)) (2 ^ (min (16 : Int).toNat IntKind.i64.bits)))), (IntKind.u8.wrap (Int.fdiv (r8.getD v27.toNat (0 : Int)) (2 ^ (min (24 : Int).toNat IntKind.i64.bits))))] : List Int).length ≤ 9223372036854775807, True] (by kernel_rfl) (by kernel_rfl) ⟨trivial, trivial, trivial, trivial, c121, trivial, trivial, c122, trivial, trivial, c123, trivial, trivial, c124, trivial, trivial⟩ ?_
          refine to_block ?_
          refine to_then ?_
          refine W_reg tbok ⟨[], []⟩ [] [0, 1, 2, 3] [(1, .fn 20 [.fad true [.p β1 (.slice (.slice (.int .i64))) i1, .p β2 (.slice (.int .u32)) i2] 0]), (5, .mp 0), (6, .sl 1), (7, .sl 2), (8, .p false (.int .i64) v22), (9, .sl 3), (17, .p false (.int .i64) d1), (18, .p false (.int .i64) v22), (26, .sl 2), (27, .p false (.int .i64) (r8.length : Int)), (28, .p false (.int .i64) (IntKind.i64.wrap (v27 + (1 : Int))))] [(0, .mpo .str (.int .i64) v19), (1, .arr 3 (.int .i64) v20), (2, .arr 3 (.int .i64) r8), (3, .arr 5 (.int .u8) (v26 ++ ([(IntKind.u8.wrap (r8.getD v27.toNat (0 : Int))), (IntKind.u8.wrap (Int.fdiv (r8.getD v27.toNat (0 : Int)) (2 ^ (min (8 : Int).toNat IntKind.i64.bits)))), (IntKind.u8.wrap (Int.fdiv (r8.getD v27.toNat (0 : Int)) (2 ^ (min (16 : Int).toNat IntKind.i64.bits)))), (IntKind.u8.wrap (Int.fdiv (r8.getD v27.toNat (0 : Int)) (2 ^ (min (24 : Int).toNat IntKind.i64.bits))))] : List Int)))] 4 0 [True, True] (by kernel_rfl) (by kernel_rfl) ⟨trivial, trivial, trivial⟩ ?_
          obtain rfl := Option.some.inj h
          exact roundB (goal_le (gs := []) (f := [0, 1, 2, 3]) (by kernel_rfl) (by kernel_rfl))
        · replace h := h_else hb16 h
          refine W_exit_to ?_
          refine thenE ?_
          obtain rfl := Option.some.inj h
          refine roundE ?_
          exact postX_to (goal_le (gs := []) (f := [0, 1, 2, 3]) (by kernel_rfl) (by kernel_rfl))
      · clear hp5
        obtain ⟨rfl, hle⟩ := hq
        refine use_to ?_ hle
        refine blockE_eq ?_
        refine to_then ?_
        refine W_seq ?_
        refine W_reg tbok ⟨[], []⟩ [] [0, 1, 2, 3] [(1, .fn 20 [.fad true [.p β1 (.slice (.slice (.int .i64))) i1, .p β2 (.slice (.int .u32)) i2] 0]), (5, .mp 0), (6, .sl 1), (7, .sl 2), (8, .p false (.int .i64) v22), (9, .sl 3), (12, .p false (.int .i64) ((mfind .str v19 (bytesOf v28)).getD (0 : Int))), (13, .p false .bool ((mfind .str v19 (bytesOf v28)).isSome)), (17, .p false (.int .i64) d1), (18, .p false (.int .i64) v22)] [(0, .mpo .str (.int .i64) v19), (1, .arr 3 (.int .i64) v20), (2, .arr 3 (.int .i64) r8), (3, .arr 5 (.int .u8) v28)] 4 0 [True, True, True, True, True, True, True, True, True] (by kernel_rfl) (by kernel_rfl) ⟨trivial, trivial, trivial, trivial, trivial, trivial, trivial, trivial, trivial, trivial⟩ ?_
        refine to_then ?_
        refine W_seq ?_
        refine W_seq ?_
        refine W_reg tbok ⟨[], []⟩ [] [0, 1, 2, 3] [(1, .fn 20 [.fad true [.p β1 (.slice (.slice (.int .i64))) i1, .p β2 (.slice (.int .u32)) i2] 0]), (5, .mp 0), (6, .sl 1), (7, .sl 2), (8, .p false (.int .i64) v22), (9, .sl 3), (12, .p false (.int .i64) ((mfind .str v19 (bytesOf v28)).getD (0 : Int))), (17, .p false (.int .i64) d1), (18, .p false (.int .i64) v22), (55, .p false .bool (!((mfind .str v19 (bytesOf v28)).isSome)))] [(0, .mpo .str (.int .i64) v19), (1, .arr 3 (.int .i64) v20), (2, .arr 3 (.int .i64) r8), (3, .arr 5 (.int .u8) v28)] 4 0 [True, True] (by kernel_rfl) (by kernel_rfl) ⟨trivial, trivial, trivial⟩ ?_
        refine to_then ?_
        obtain ⟨r9, hp6, h⟩ := h_bind h
        refine W.mono (Q := (postN Try.f19.ntmps (fun ((v29, v30) : (List ((List UInt8) × Int)) × Int) => mkSt [(1, .fn 20 [.fad true [.p β1 (.slice (.slice (.int .i64))) i1, .p β2 (.slice (.int .u32)) i2] 0]), (5, .mp 0), (6, .sl 1), (7, .sl 2), (8, .p false (.int .i64) v22), (12, .p false (.int .i64) v30), (17, .p false (.int .i64) d1), (18, .p false (.int .i64) v22)] [(0, .mpo .str (.int .i64) v29), (1, .arr 3 (.int .i64) v20), (2, .arr 3 (.int .i64) r8)] 3)) r9) ?_ (fun e σ' hq => ?_)
        · replace h := hp6
          clear hp6
          refine W_cond (b := (!((mfind .str v19 (bytesOf v28)).isSome))) (β := false) (by kernel_rfl) (fun hb18 => ?_) (fun hb18 => ?_)
          · replace h := h_if hb18 h
            refine W_seq ?_
            refine W_reg tbok ⟨[], []⟩ [] [0, 1, 2, 3] [(1, .fn 20 [.fad true [.p β1 (.slice (.slice (.int .i64))) i1, .p β2 (.slice (.int .u32)) i2] 0]), (5, .mp 0), (6, .sl 1), (7, .sl 2), (8, .p false (.int .i64) v22), (9, .sl 3), (12, .p false (.int .i64) (v19.length : Int)), (17, .p false (.int .i64) d1), (18, .p false (.int .i64) v22)] [(0, .mpo .str (.int .i64) v19), (1, .arr 3 (.int .i64) v20), (2, .arr 3 (.int .i64) r8), (3, .arr 5 (.int .u8) v28)] 4 0 [True, True, True] (by kernel_rfl) (by kernel_rfl) ⟨trivial, trivial, trivial, trivial⟩ ?_
            refine to_then ?_
            refine W_reg tbok ⟨[], []⟩ [] [0, 1, 2] [(1, .fn 20 [.fad true [.p β1 (.slice (.slice (.int .i64))) i1, .p β2 (.slice (.int .u32)) i2] 0]), (5, .mp 0), (6, .sl 1), (7, .sl 2), (8, .p false (.int .i64) v22), (12, .p false (.int .i64) (v19.length : Int)), (17, .p false (.int .i64) d1), (18, .p false (.int .i64) v22)] [(0, .mpo .str (.int .i64) (mset .str v19 (bytesOf v28) (v19.length : Int))), (1, .arr 3 (.int .i64) v20), (2, .arr 3 (.int .i64) r8)] 3 0 [True, True, True, True, True] (by kernel_rfl) (by kernel_rfl) ⟨trivial, trivial, trivial, trivial, trivial, trivial⟩ ?_
            obtain rfl := Option.some.inj h
            exact postN_to (goal_le (gs := []) (f := [0, 1, 2]) (by kernel_rfl) (by kernel_rfl))
          · replace h := h_else hb18 h
            refine W_skip_to ?_
            obtain rfl := Option.some.inj h
            exact postN_to (goal_le (gs := []) (f := [0, 1, 2]) (by kernel_rfl) (by kernel_rfl))
        · clear hp6
          obtain ⟨v29, v30⟩ := r9
          obtain ⟨rfl, hle⟩ := hq
          refine use_to ?_ hle
          refine to_then ?_
          obtain ⟨c127, h⟩ := h_guard h
          obtain ⟨c128, h⟩ := h_guard h
          refine W_reg tbok ⟨[], []⟩ [] [0, 1, 2] [(1, .fn 20 [.fad true [.p β1 (.slice (.slice (.int .i64))) i1, .p β2 (.slice (.int .u32)) i2] 0]), (5, .mp 0), (6, .sl 1), (7, .sl 2), (17, .p false (.int .i64) d1), (18, .p false (.int .i64) v22)] [(0, .mpo .str (.int .i64) v29), (1, .arr 3 (.int .i64) (v20.set v22.toNat v30)), (2, .arr 3 (.int .i64) r8)] 3 0 [True, True, True, 0 ≤ v22 ∧ v22 < (v20.length : Int), v22.toNat < v20.length] (by kernel_rfl) (by kernel_rfl) ⟨trivial, trivial, trivial, c127, c128, trivial⟩ ?_
          refine to_block ?_
          refine to_then ?_
          refine W_reg tbok ⟨[], []⟩ [] [0, 1, 2] [(1, .fn 20 [.fad true [.p β1 (.slice (.slice (.int .i64))) i1, .p β2 (.slice (.int .u32)) i2] 0]), (5, .mp 0), (6, .sl 1), (7, .sl 2), (17, .p false (.int .i64) d1), (18, .p false (.int .i64) (IntKind.i64.wrap (v22 + (1 : Int))))] [(0, .mpo .str (.int .i64) v29), (1, .arr 3 (.int .i64) (v20.set v22.toNat v30)), (2, .arr 3 (.int .i64) r8)] 3 0 [True, True] (by kernel_rfl) (by kernel_rfl) ⟨trivial, trivial, trivial⟩ ?_
          obtain rfl := Option.some.inj h
          exact roundB (goal_le (gs := []) (f := [0, 1, 2]) (by kernel_rfl) (by kernel_rfl))
    · replace h := h_else hb13 h
      refine W_exit_to ?_
      refine thenE ?_
      obtain rfl := Option.some.inj h
      refine roundE ?_
      exact postX_to (goal_le (gs := []) (f := [1]) (by kernel_rfl) (by kernel_rfl))
  · clear hp7
    obtain ⟨rfl, hle⟩ := hq
    refine use_to ?_ hle
    refine blockE_eq ?_
    refine to_then ?_
    refine W_seq ?_
    refine W_reg tbok ⟨[], []⟩ [] [0] [(4, .sl 0)] [(0, .arr 3 (.int .i64) v23)] 1 0 [True, True] (by kernel_rfl) (by kernel_rfl) ⟨trivial, trivial, trivial⟩ ?_
    refine to_then ?_
    refine W_ret ?_
    obtain rfl := Option.some.inj h
    exact Ret_intro [(.slice (.int .i64))] (by kernel_rfl)

/-- a loop of 'stanza/least.Make$2': one round -/
def least_Make_2_v2_L1 (s1 : Int) (x1 : List Int) (x2 : List (List Int)) : ((List Int) × Int) → Option (((List Int) × Int) ⊕ (List Int)) := fun ((key6, v4) : (List Int) × Int) =>
  (if (decide (v4 < ((x2.getD s1.toNat ([] : List Int)).length : Int))) = true then (if 0 ≤ v4 ∧ v4 < ((x2.getD s1.toNat ([] : List Int)).length : Int) then (if 0 ≤ ((x2.getD s1.toNat ([] : List Int)).getD v4.toNat (0 : Int)) ∧ ((x2.getD s1.toNat ([] : List Int)).getD v4.toNat (0 : Int)) < (x1.length : Int) then (if (key6.length + ([(x1.getD (((x2.getD s1.toNat ([] : List Int)).getD v4.toNat (0 : Int)).toNat) (0 : Int))] : List Int).length) * 8 ≤ 140737488355328 ∧ key6.length + ([(x1.getD (((x2.getD s1.toNat ([] : List Int)).getD v4.toNat (0 : Int)).toNat) (0 : Int))] : List Int).length ≤ 9223372036854775807 then some (Sum.inl ((key6 ++ ([(x1.getD (((x2.getD s1.toNat ([] : List Int)).getD v4.toNat (0 : Int)).toNat) (0 : Int))] : List Int)), (IntKind.i64.wrap (v4 + (1 : Int))))) else none) else none) else none)
  else some (Sum.inr key6))

/-- 'stanza/least.Make$2' -/
def least_Make_2_v2 (s1 : Int) (x1 : List Int) (x2 : List (List Int)) (x3 : List Int) (key1 : List Int) : Option (List Int) :=
  (if 0 ≤ s1 ∧ s1 < (x1.length : Int) then (if (key1.length + ([(x1.getD s1.toNat (0 : Int))] : List Int).length) * 8 ≤ 140737488355328 ∧ key1.length + ([(x1.getD s1.toNat (0 : Int))] : List Int).length ≤ 9223372036854775807 then (if 0 ≤ s1 ∧ s1 < (x2.length : Int) then ((iter (least_Make_2_v2_L1 s1 x1 x2) ((key1 ++ ([(x1.getD s1.toNat (0 : Int))] : List Int)), (0 : Int))).bind fun (key7 : List Int) => some key7) else none) else none) else none)

set_option maxRecDepth 100000 in
set_option maxHeartbeats 4000000 in
theorem least_Make_2_v2_ok (β1 β2 β3 : Bool) (s1 : Int) (x1 : List Int) (x2 : List (List Int)) (x3 : List Int) (key1 : List Int) (res : List Int) (h : least_Make_2_v2 s1 x1 x2 x3 key1 = some res) :
    Owns Try.prog 21 [.p false (.int .i64) s1, .sl 0, .fad true [.p β1 (.slice (.int .i64)) x1] 0, .fad true [.p β2 (.slice (.slice (.int .i64))) x2, .p β3 (.slice (.int .u32)) x3] 0] [(0, .arr 3 (.int .i64) key1)] (.sl 1) [(1, .arr 3 (.int .i64) res)] := by
  refine Owns.of_body tbok Try.func21 (by kernel_rfl) rfl (Nat.le_of_ble_eq_true rfl) (fun Bw w0 => ?_)
  unfold least_Make_2_v2 at h
  refine W_seq ?_
  refine W_reg tbok ⟨[], []⟩ [] [0] [(0, .p false (.int .i64) s1), (1, .sl 0), (2, .fad true [.p β1 (.slice (.int .i64)) x1] 0), (3, .fad true [.p β2 (.slice (.slice (.int .i64))) x2, .p β3 (.slice (.int .u32)) x3] 0)] [(0, .arr 3 (.int .i64) key1)] 1 1 [True] (by kernel_rfl) (by kernel_rfl) ⟨trivial, trivial⟩ ?_
  refine to_then ?_
  refine W_seq ?_
  obtain ⟨c27, h⟩ := h_guard h
  obtain ⟨c28, h⟩ := h_guard h
  refine W_reg tbok ⟨[], []⟩ [] [0, 49] [(0, .p false (.int .i64) s1), (1, .sl 1), (2, .fad true [.p β1 (.slice (.int .i64)) x1] 0), (3, .fad true [.p β2 (.slice (.slice (.int .i64))) x2, .p β3 (.slice (.int .u32)) x3] 0)] [(1, .arr 3 (.int .i64) (key1 ++ ([(x1.getD s1.toNat (0 : Int))] : List Int)))] 2 1 [True, True, True, 0 ≤ s1 ∧ s1 < (x1.length : Int), True, True, (key1.length + ([(x1.getD s1.toNat (0 : Int))] : List Int).length) * 8 ≤ 140737488355328 ∧ key1.length + ([(x1.getD s1.toNat (0 : Int))] : List Int).length ≤ 9223372036854775807, True] (by kernel_rfl) (by kernel_rfl) ⟨trivial, trivial, trivial, c27, trivial, trivial, c28, trivial, trivial⟩ ?_
  refine to_then ?_
  refine W_seq ?_
  refine W_seq ?_
  obtain ⟨c30, h⟩ := h_guard h
  refine W_reg tbok ⟨[], []⟩ [] [0, 1] [(1, .sl 1), (2, .fad true [.p β1 (.slice (.int .i64)) x1] 0), (20, .p β2 (.slice (.int .i64)) (x2.getD s1.toNat ([] : List Int))), (21, .p false (.int .i64) ((x2.getD s1.toNat ([] : List Int)).length : Int)), (22, .p false (.int .i64) (0 : Int))] [(1, .arr 3 (.int .i64) (key1 ++ ([(x1.getD s1.toNat (0 : Int))] : List Int)))] 2 1 [True, True, True, 0 ≤ s1 ∧ s1 < (x2.length : Int), True, True, True] (by kernel_rfl) (by kernel_rfl) ⟨trivial, trivial, trivial, c30, trivial, trivial, trivial, trivial⟩ ?_
  refine to_then ?_
  refine W_block ?_
  obtain ⟨key7, hp2, h⟩ := h_bind h
  refine W.mono (Q := (postX Try.f21.ntmps 0 (fun (key7 : List Int) => mkSt [(1, .sl 1)] [(1, .arr 3 (.int .i64) key7)] 2 1)) key7) (W_iter (f := fun ((key6, v4) : (List Int) × Int) => mkSt [(1, .sl 1), (2, .fad true [.p β1 (.slice (.int .i64)) x1] 0), (20, .p β2 (.slice (.int .i64)) (x2.getD s1.toNat ([] : List Int))), (21, .p false (.int .i64) ((x2.getD s1.toNat ([] : List Int)).length : Int)), (22, .p false (.int .i64) v4)] [(1, .arr 3 (.int .i64) key6)] 2 1) (Q := (postX Try.f21.ntmps 0 (fun (key7 : List Int) => mkSt [(1, .sl 1)] [(1, .arr 3 (.int .i64) key7)] 2 1))) hp2 (goal_le (gs := []) (f := [0, 1]) (by kernel_rfl) (by kernel_rfl)) (fun y o ho => ?_)) (fun e σ' hq => ?_)
  · obtain ⟨key6, v4⟩ := y
    replace h := ho
    clear ho hp2
    unfold least_Make_2_v2_L1 at h
    refine W_seq ?_
    refine W_reg tbok ⟨[], []⟩ [] [0, 1] [(1, .sl 1), (2, .fad true [.p β1 (.slice (.int .i64)) x1] 0), (20, .p β2 (.slice (.int .i64)) (x2.getD s1.toNat ([] : List Int))), (21, .p false (.int .i64) ((x2.getD s1.toNat ([] : List Int)).length : Int)), (22, .p false (.int .i64) v4), (23, .p false .bool (decide (v4 < ((x2.getD s1.toNat ([] : List Int)).length : Int))))] [(1, .arr 3 (.int .i64) key6)] 2 1 [True] (by kernel_rfl) (by kernel_rfl) ⟨trivial, trivial⟩ ?_
    refine to_then ?_
    refine W_seq ?_
    refine W_cond (b := (decide (v4 < ((x2.getD s1.toNat ([] : List Int)).length : Int)))) (β := false) (by kernel_rfl) (fun hb6 => ?_) (fun hb6 => ?_)
    · replace h := h_if hb6 h
      refine W_skip_to ?_
      refine to_then ?_
      refine W_seq ?_
      refine W_block ?_
      refine W_seq ?_
      obtain ⟨c44, h⟩ := h_guard h
      refine W_reg tbok ⟨[], []⟩ [] [0, 1] [(1, .sl 1), (2, .fad true [.p β1 (.slice (.int .i64)) x1] 0), (8, .p false (.int .i64) ((x2.getD s1.toNat ([] : List Int)).getD v4.toNat (0 : Int))), (20, .p β2 (.slice (.int .i64)) (x2.getD s1.toNat ([] : List Int))), (21, .p false (.int .i64) ((x2.getD s1.toNat ([] : List Int)).length : Int)), (22, .p false (.int .i64) v4)] [(1, .arr 3 (.int .i64) key6)] 2 1 [0 ≤ v4 ∧ v4 < ((x2.getD s1.toNat ([] : List Int)).length : Int), True, True] (by kernel_rfl) (by kernel_rfl) ⟨c44, trivial, trivial, trivial⟩ ?_
      refine to_then ?_
      obtain ⟨c47, h⟩ := h_guard h
      obtain ⟨c48, h⟩ := h_guard h
      refine W_reg tbok ⟨[], []⟩ [] [0, 50] [(1, .sl 1), (2, .fad true [.p β1 (.slice (.int .i64)) x1] 0), (20, .p β2 (.slice (.int .i64)) (x2.getD s1.toNat ([] : List Int))), (21, .p false (.int .i64) ((x2.getD s1.toNat ([] : List Int)).length : Int)), (22, .p false (.int .i64) v4)] [(1, .arr 3 (.int .i64) (key6 ++ ([(x1.getD (((x2.getD s1.toNat ([] : List Int)).getD v4.toNat (0 : Int)).toNat) (0 : Int))] : List Int)))] 2 1 [True, True, True, 0 ≤ ((x2.getD s1.toNat ([] : List Int)).getD v4.toNat (0 : Int)) ∧ ((x2.getD s1.toNat ([] : List Int)).getD v4.toNat (0 : Int)) < (x1.length : Int), True, True, (key6.length + ([(x1.getD (((x2.getD s1.toNat ([] : List Int)).getD v4.toNat (0 : Int)).toNat) (0 : Int))] : List Int).length) * 8 ≤ 140737488355328 ∧ key6.length + ([(x1.getD (((x2.getD s1.toNat ([] : List Int)).getD v4.toNat (0 : Int)).toNat) (0 : Int))] : List Int).length ≤ 9223372036854775807, True] (by kernel_rfl) (by kernel_rfl) ⟨trivial, trivial, trivial, c47, trivial, trivial, c48, trivial, trivial⟩ ?_
      refine to_block ?_
      refine to_then ?_
      refine W_reg tbok ⟨[], []⟩ [] [0, 1] [(1, .sl 1), (2, .fad true [.p β1 (.slice (.int .i64)) x1] 0), (20, .p β2 (.slice (.int .i64)) (x2.getD s1.toNat ([] : List Int))), (21, .p false (.int .i64) ((x2.getD s1.toNat ([] : List Int)).length : Int)), (22, .p false (.int .i64) (IntKind.i64.wrap (v4 + (1 : Int))))] [(1, .arr 3 (.int .i64) (key6 ++ ([(x1.getD (((x2.getD s1.toNat ([] : List Int)).getD v4.toNat (0 : Int)).toNat) (0 : Int))] : List Int)))] 2 1 [True, True] (by kernel_rfl) (by kernel_rfl) ⟨trivial, trivial, trivial⟩ ?_
      obtain rfl := Option.some.inj h
      exact roundB (goal_le (gs := []) (f := [0, 1]) (by kernel_rfl) (by kernel_rfl))
    · replace h := h_else hb6 h
      refine W_exit_to ?_
      refine thenE ?_
      obtain rfl := Option.some.inj h
      refine roundE ?_
      exact postX_to (goal_le (gs := []) (f := [0, 1]) (by kernel_rfl) (by kernel_rfl))
  · clear hp2
    obtain ⟨rfl, hle⟩ := hq
    refine use_to ?_ hle
    refine blockE_eq ?_
    refine to_then ?_
    refine W_seq ?_
    refine W_reg tbok ⟨[], []⟩ [] [0, 1] [(6, .sl 1)] [(1, .arr 3 (.int .i64) key7)] 2 1 [True, True] (by kernel_rfl) (by kernel_rfl) ⟨trivial, trivial, trivial⟩ ?_
    refine to_then ?_
    refine W_ret ?_
    obtain rfl := Option.some.inj h
    exact RetO_intro [none] [] [0, 1] [(6, .sl 1)] [(1, .arr 3 (.int .i64) key7)] 2 1 (by kernel_rfl) (by kernel_rfl) (by kernel_rfl)

/-- a loop of 'stanza/least.split': one round -/
def least_split_v1_L1 (r8 : List Int) : ((List Int) × Int) → Option (((List Int) × Int) ⊕ (List Int)) := fun ((v26, v27) : (List Int) × Int) =>
  (if (decide (v27 < (r8.length : Int))) = true then (if 0 ≤ v27 ∧ v27 < (r8.length : Int) then (if v27.toNat < r8.length then (if 0 ≤ (8 : Int) then (if 0 ≤ (16 : Int) then (if 0 ≤ (24 : Int) then (if (v26.length + ([(IntKind.u8.wrap (r8.getD v27.toNat (0 : Int))), (IntKind.u8.wrap (Int.fdiv (r8.getD v27.toNat (0 : Int)) (2 ^ (min (8 : Int).toNat IntKind.i64.bits)))), (IntKind.u8.wrap (Int.fdiv (r8.getD v27.toNat (0 : Int)) (2 ^ (min (16 : Int).toNat IntKind.i64.bits)))), (IntKind.u8.wrap (Int.fdiv (r8.getD v27.toNat (0 : Int)) (2 ^ (min (24 : Int).toNat IntKind.i64.bits))))] : List Int).length) * 1 ≤ 140737488355328 ∧ v26.length + ([(IntKind.u8.wrap (r8.getD v27.toNat (0 : Int))), (IntKind.u8.wrap (Int.fdiv (r8.getD v27.toNat (0 : Int)) (2 ^ (min (8 : Int).toNat IntKind.i64.bits)))), (IntKind.u8.wrap (Int.fdiv (r8.getD v27.toNat (0 : Int)) (2 ^ (min (16 : Int).toNat IntKind.i64.bits)))), (IntKind.u8.wrap (Int.fdiv (r8.getD v27.toNat (0 : Int)) (2 ^ (min (24 : Int).toNat IntKind.i64.bits))))] : List Int).length ≤ 9223372036854775807 then some (Sum.inl ((v26 ++ ([(IntKind.u8.wrap (r8.getD v27.toNat (0 : Int))), (IntKind.u8.wrap (Int.fdiv (r8.getD v27.toNat (0 : Int)) (2 ^ (min (8 : Int).toNat IntKind.i64.bits)))), (IntKind.u8.wrap (Int.fdiv (r8.getD v27.toNat (0 : Int)) (2 ^ (min (16 : Int).toNat IntKind.i64.bits)))), (IntKind.u8.wrap (Int.fdiv (r8.getD v27.toNat (0 : Int)) (2 ^ (min (24 : Int).toNat IntKind.i64.bits))))] : List Int)), (IntKind.i64.wrap (v27 + (1 : Int))))) else none) else none) else none) else none) else none) else none)
  else some (Sum.inr v26))

/-- a loop of 'stanza/least.split': one round -/
def least_split_v1_L2 (d1 : Int) (i1 : List Int) (i2 : List (List Int)) (i3 : List Int) : ((List ((List UInt8) × Int)) × (List Int) × (List Int) × Int) → Option (((List ((List UInt8) × Int)) × (List Int) × (List Int) × Int) ⊕ (List Int)) := fun ((v19, v20, v21, v22) : (List ((List UInt8) × Int)) × (List Int) × (List Int) × Int) =>
  (if (decide (v22 < d1)) = true then (if 0 ≤ (0 : Int) ∧ (0 : Int) ≤ (v21.length : Int) then ((least_Make_2_v2 v22 i1 i2 i3 (v21.take (0 : Int).toNat)).bind fun (r8 : List Int) =>
  ((iter (least_split_v1_L1 r8) (([] : List Int), (0 : Int))).bind fun (v28 : List Int) => (((if (!((mfind .str v19 (bytesOf v28)).isSome)) = true then some (((mset .str v19 (bytesOf v28) (v19.length : Int)), (v19.length : Int)))
  else some ((v19, ((mfind .str v19 (bytesOf v28)).getD (0 : Int)))))).bind fun ((v29, v30) : (List ((List UInt8) × Int)) × Int) => (if 0 ≤ v22 ∧ v22 < (v20.length : Int) then (if v22.toNat < v20.length then some (Sum.inl (v29, (v20.set v22.toNat v30), r8, (IntKind.i64.wrap (v22 + (1 : Int))))) else none) else none)))) else none)
  else some (Sum.inr v20))

/-- 'stanza/least.split' -/
def least_split_v1 (d1 : Int) (i1 : List Int) (i2 : List (List Int)) (i3 : List Int) : Option (List Int) :=
  (if 0 ≤ d1 ∧ d1 ≤ d1 ∧ (8 : Int) * d1 ≤ 281474976710656 ∧ d1 ≤ 9223372036854775807 then ((iter (least_split_v1_L2 d1 i1 i2 i3) (([] : List ((List UInt8) × Int)), (List.replicate d1.toNat (0 : Int)), ([] : List Int), (0 : Int))).bind fun (v23 : List Int) => some v23) else none)

set_option maxRecDepth 100000 in
set_option maxHeartbeats 4000000 in
theorem least_split_v1_ok (β1 β2 β3 : Bool) (d1 : Int) (i1 : List Int) (i2 : List (List Int)) (i3 : List Int) (res : List Int) (h : least_split_v1 d1 i1 i2 i3 = some res) :
    Pure Try.prog 19 [.p false (.int .i64) d1, .fn 21 [.fad true [.p β1 (.slice (.int .i64)) i1] 0, .fad true [.p β2 (.slice (.slice (.int .i64))) i2, .p β3 (.slice (.int .u32)) i3] 0]] (wrapR (encs false [⟨(.slice (.int .i64)), res⟩])) := by
  refine Pure.of_body tbok Try.func19 (by kernel_rfl) rfl (Nat.le_of_ble_eq_true rfl) (fun Bw w0 => ?_) rfl
  unfold least_split_v1 at h
  refine W_seq ?_
  refine W_reg tbok ⟨[], []⟩ [] [] [(0, .p false (.int .i64) d1), (1, .fn 21 [.fad true [.p β1 (.slice (.int .i64)) i1] 0, .fad true [.p β2 (.slice (.slice (.int .i64))) i2, .p β3 (.slice (.int .u32)) i3] 0])] [] 0 0 [True] (by kernel_rfl) (by kernel_rfl) ⟨trivial, trivial⟩ ?_
  refine to_then ?_
  refine W_seq ?_
  refine W_reg tbok ⟨[], []⟩ [] [0] [(0, .p false (.int .i64) d1), (1, .fn 21 [.fad true [.p β1 (.slice (.int .i64)) i1] 0, .fad true [.p β2 (.slice (.slice (.int .i64))) i2, .p β3 (.slice (.int .u32)) i3] 0]), (5, .mp 0)] [(0, .mpo .str (.int .i64) ([] : List ((List UInt8) × Int)))] 1 0 [True, True] (by kernel_rfl) (by kernel_rfl) ⟨trivial, trivial, trivial⟩ ?_
  refine to_then ?_
  refine W_seq ?_
  obtain ⟨c2, h⟩ := h_guard h
  refine W_reg tbok ⟨[], []⟩ [] [0, 9] [(0, .p false (.int .i64) d1), (1, .fn 21 [.fad true [.p β1 (.slice (.int .i64)) i1] 0, .fad true [.p β2 (.slice (.slice (.int .i64))) i2, .p β3 (.slice (.int .u32)) i3] 0]), (5, .mp 0), (6, .sl 1)] [(0, .mpo .str (.int .i64) ([] : List ((List UInt8) × Int))), (1, .arr 3 (.int .i64) (List.replicate d1.toNat (0 : Int)))] 2 0 [True, 0 ≤ d1 ∧ d1 ≤ d1 ∧ (8 : Int) * d1 ≤ 281474976710656 ∧ d1 ≤ 9223372036854775807, True] (by kernel_rfl) (by kernel_rfl) ⟨trivial, c2, trivial, trivial⟩ ?_
  refine to_then ?_
  refine W_seq ?_
  refine W_reg tbok ⟨[], []⟩ [] [0, 1] [(0, .p false (.int .i64) d1), (1, .fn 21 [.fad true [.p β1 (.slice (.int .i64)) i1] 0, .fad true [.p β2 (.slice (.slice (.int .i64))) i2, .p β3 (.slice (.int .u32)) i3] 0]), (5, .mp 0), (6, .sl 1), (7, .nils)] [(0, .mpo .str (.int .i64) ([] : List ((List UInt8) × Int))), (1, .arr 3 (.int .i64) (List.replicate d1.toNat (0 : Int)))] 2 0 [True] (by kernel_rfl) (by kernel_rfl) ⟨trivial, trivial⟩ ?_
  refine to_then ?_
  refine W_seq ?_
  refine W_seq ?_
  refine W_reg tbok ⟨[], []⟩ [] [0, 1] [(1, .fn 21 [.fad true [.p β1 (.slice (.int .i64)) i1] 0, .fad true [.p β2 (.slice (.slice (.int .i64))) i2, .p β3 (.slice (.int .u32)) i3] 0]), (5, .mp 0), (6, .sl 1), (7, .nils), (17, .p false (.int .i64) d1), (18, .p false (.int .i64) (0 : Int))] [(0, .mpo .str (.int .i64) ([] : List ((List UInt8) × Int))), (1, .arr 3 (.int .i64) (List.replicate d1.toNat (0 : Int)))] 2 0 [True, True] (by kernel_rfl) (by kernel_rfl) ⟨trivial, trivial, trivial⟩ ?_
  refine to_then ?_
  refine W_block ?_
  obtain ⟨v23, hp7, h⟩ := h_bind h
  refine W.mono (Q := (postX Try.f19.ntmps 0 (fun (v23 : List Int) => mkSt [(6, .sl 0)] [(0, .arr 3 (.int .i64) v23)] 1)) v23) (W_iter (f := fun ((v19, v20, v21, v22) : (List ((List UInt8) × Int)) × (List Int) × (List Int) × Int) => mkSt [(1, .fn 21 [.fad true [.p β1 (.slice (.int .i64)) i1] 0, .fad true [.p β2 (.slice (.slice (.int .i64))) i2, .p β3 (.slice (.int .u32)) i3] 0]), (5, .mp 0), (6, .sl 1), (7, .sl 2), (17, .p false (.int .i64) d1), (18, .p false (.int .i64) v22)] [(0, .mpo .str (.int .i64) v19), (1, .arr 3 (.int .i64) v20), (2, .arr 3 (.int .i64) v21)] 3) (Q := (postX Try.f19.ntmps 0 (fun (v23 : List Int) => mkSt [(6, .sl 0)] [(0, .arr 3 (.int .i64) v23)] 1))) hp7 (goal_le (gs := [.nilS 7 2 3 (.int .i64)]) (f := [0, 1, 2]) (by kernel_rfl) (by kernel_rfl)) (fun y o ho => ?_)) (fun e σ' hq => ?_)
  · obtain ⟨v19, v20, v21, v22⟩ := y
    replace h := ho
    clear ho hp7
    unfold least_split_v1_L2 at h
    refine W_seq ?_
    refine W_reg tbok ⟨[], []⟩ [] [0, 1, 2] [(1, .fn 21 [.fad true [.p β1 (.slice (.int .i64)) i1] 0, .fad true [.p β2 (.slice (.slice (.int .i64))) i2, .p β3 (.slice (.int .u32)) i3] 0]), (5, .mp 0), (6, .sl 1), (7, .sl 2), (17, .p false (.int .i64) d1), (18, .p false (.int .i64) v22), (19, .p false .bool (decide (v22 < d1)))] [(0, .mpo .str (.int .i64) v19), (1, .arr 3 (.int .i64) v20), (2, .arr 3 (.int .i64) v21)] 3 0 [True] (by kernel_rfl) (by kernel_rfl) ⟨trivial, trivial⟩ ?_
    refine to_then ?_
    refine W_seq ?_
    refine W_cond (b := (decide (v22 < d1))) (β := false) (by kernel_rfl) (fun hb13 => ?_) (fun hb13 => ?_)
    · replace h := h_if hb13 h
      refine W_skip_to ?_
      refine to_then ?_
      refine W_seq ?_
      refine W_block ?_
      refine W_seq ?_
      refine W_reg tbok ⟨[], []⟩ [] [0, 1, 2] [(1, .fn 21 [.fad true [.p β1 (.slice (.int .i64)) i1] 0, .fad true [.p β2 (.slice (.slice (.int .i64))) i2, .p β3 (.slice (.int .u32)) i3] 0]), (5, .mp 0), (6, .sl 1), (7, .sl 2), (8, .p false (.int .i64) v22), (17, .p false (.int .i64) d1), (18, .p false (.int .i64) v22)] [(0, .mpo .str (.int .i64) v19), (1, .arr 3 (.int .i64) v20), (2, .arr 3 (.int .i64) v21)] 3 0 [True, True] (by kernel_rfl) (by kernel_rfl) ⟨trivial, trivial, trivial⟩ ?_
      refine to_then ?_
      refine W_seq ?_
      obtain ⟨c88, h⟩ := h_guard h
      obtain ⟨r8, q6, h⟩ := h_bind h
      refine W_reg tbok ⟨[], [(4, ⟨.sl 1, [false, false], true, [true, true], [27], [(1, .arr 3 (.int .i64) r8)]⟩)]⟩ [] [0, 1, 35] [(1, .fn 21 [.fad true [.p β1 (.slice (.int .i64)) i1] 0, .fad true [.p β2 (.slice (.slice (.int .i64))) i2, .p β3 (.slice (.int .u32)) i3] 0]), (5, .mp 0), (6, .sl 1), (7, .sl 2), (8, .p false (.int .i64) v22), (17, .p false (.int .i64) d1), (18, .p false (.int .i64) v22)] [(0, .mpo .str (.int .i64) v19), (1, .arr 3 (.int .i64) v20), (2, .arr 3 (.int .i64) r8)] 3 0 [True, True, True, 0 ≤ (0 : Int) ∧ (0 : Int) ≤ (v21.length : Int), Owns Try.prog 21 [.p false (.int .i64) v22, .sl 0, .fad true [.p β1 (.slice (.int .i64)) i1] 0, .fad true [.p β2 (.slice (.slice (.int .i64))) i2, .p β3 (.slice (.int .u32)) i3] 0] [(0, .arr 3 (.int .i64) (v21.take (0 : Int).toNat))] (.sl 1) [(1, .arr 3 (.int .i64) r8)], True] (by kernel_rfl) (by kernel_rfl) ⟨trivial, trivial, trivial, c88, (least_Make_2_v2_ok β1 β2 β3 v22 i1 i2 i3 (v21.take (0 : Int).toNat) _ q6), trivial, trivial⟩ ?_
      refine to_then ?_
      refine W_seq ?_
      refine W_reg tbok ⟨[], []⟩ [] [0, 1, 2] [(1, .fn 21 [.fad true [.p β1 (.slice (.int .i64)) i1] 0, .fad true [.p β2 (.slice (.slice (.int .i64))) i2, .p β3 (.slice (.int .u32)) i3] 0]), (5, .mp 0), (6, .sl 1), (7, .sl 2), (8, .p false (.int .i64) v22), (9, .nils), (17, .p false (.int .i64) d1), (18, .p false (.int .i64) v22)] [(0, .mpo .str (.int .i64) v19), (1, .arr 3 (.int .i64) v20), (2, .arr 3 (.int .i64) r8)] 3 0 [True] (by kernel_rfl) (by kernel_rfl) ⟨trivial, trivial⟩ ?_
      refine to_then ?_
      refine W_seq ?_
      refine W_seq ?_
      refine W_reg tbok ⟨[], []⟩ [] [0, 1, 2] [(1, .fn 21 [.fad true [.p β1 (.slice (.int .i64)) i1] 0, .fad true [.p β2 (.slice (.slice (.int .i64))) i2, .p β3 (.slice (.int .u32)) i3] 0]), (5, .mp 0), (6, .sl 1), (7, .sl 2), (8, .p false (.int .i64) v22), (9, .nils), (17, .p false (.int .i64) d1), (18, .p false (.int .i64) v22), (26, .sl 2), (27, .p false (.int .i64) (r8.length : Int)), (28, .p false (.int .i64) (0 : Int))] [(0, .mpo .str (.int .i64) v19), (1, .arr 3 (.int .i64) v20), (2, .arr 3 (.int .i64) r8)] 3 0 [True, True, True] (by kernel_rfl) (by kernel_rfl) ⟨trivial, trivial, trivial, trivial⟩ ?_
      refine to_then ?_
      refine W_block ?_
      obtain ⟨v28, hp5, h⟩ := h_bind h
      refine W.mono (Q := (postX Try.f19.ntmps 2 (fun (v28 : List Int) => mkSt [(1, .fn 21 [.fad true [.p β1 (.slice (.int .i64)) i1] 0, .fad true [.p β2 (.slice (.slice (.int .i64))) i2, .p β3 (.slice (.int .u32)) i3] 0]), (5, .mp 0), (6, .sl 1), (7, .sl 2), (8, .p false (.int .i64) v22), (9, .sl 3), (17, .p false (.int .i64) d1), (18, .p false (.int .i64) v22)] [(0, .mpo .str (.int .i64) v19), (1, .arr 3 (.int .i64) v20), (2, .arr 3 (.int .i64) r8), (3, .arr 5 (.int .u8) v28)] 4)) v28) (W_iter (f := fun ((v26, v27) : (List Int) × Int) => mkSt [(1, .fn 21 [.fad true [.p β1 (.slice (.int .i64)) i1] 0, .fad true [.p β2 (.slice (.slice (.int .i64))) i2, .p β3 (.slice (.int .u32)) i3] 0]), (5, .mp 0), (6, .sl 1), (7, .sl 2), (8, .p false (.int .i64) v22), (9, .sl 3), (17, .p false (.int .i64) d1), (18, .p false (.int .i64) v22), (26, .sl 2), (27, .p false (.int .i64) (r8.length : Int)), (28, .p false (.int .i64) v27)] [(0, .mpo .str (.int .i64) v19), (1, .arr 3 (.int .i64) v20), (2, .arr 3 (.int .i64) r8), (3, .arr 5 (.int .u8) v26)] 4) (Q := (postX Try.f19.ntmps 2 (fun (v28 : List Int) => mkSt [(1, .fn 21 [.fad true [.p β1 (.slice (.int .i64)) i1] 0, .fad true [.p β2 (.slice (.slice (.int .i64))) i2, .p β3 (.slice (.int .u32)) i3] 0]), (5, .mp 0), (6, .sl 1), (7, .sl 2), (8, .p false (.int .i64) v22), (9, .sl 3), (17, .p false (.int .i64) d1), (18, .p false (.int .i64) v22)] [(0, .mpo .str (.int .i64) v19), (1, .arr 3 (.int .i64) v20), (2, .arr 3 (.int .i64) r8), (3, .arr 5 (.int .u8) v28)] 4))) hp5 (goal_le (gs := [.nilS 9 3 5 (.int .u8)]) (f := [0, 1, 2, 3]) (by kernel_rfl) (by kernel_rfl)) (fun y o ho => ?_)) (fun e σ' hq => ?_)
      · obtain ⟨v26, v27⟩ := y
        replace h := ho
        clear ho hp5
        unfold least_split_v1_L1 at h
        refine W_seq ?_
        refine W_reg tbok ⟨[], []⟩ [] [0, 1, 2, 3] [(1, .fn 21 [.fad true [.p β1 (.slice (.int .i64)) i1] 0, .fad true [.p β2 (.slice (.slice (.int .i64))) i2, .p β3 (.slice (.int .u32)) i3] 0]), (5, .mp 0), (6, .sl 1), (7, .sl 2), (8, .p false (.int .i64) v22), (9, .sl 3), (17, .p false (.int .i64) d1), (18, .p false (.int .i64) v22), (26, .sl 2), (27, .p false (.int .i64) (r8.length : Int)), (28, .p false (.int .i64) v27), (29, .p false .bool (decide (v27 < (r8.length : Int))))] [(0, .mpo .str (.int .i64) v19), (1, .arr 3 (.int .i64) v20), (2, .arr 3 (.int .i64) r8), (3, .arr 5 (.int .u8) v26)] 4 0 [True] (by kernel_rfl) (by kernel_rfl) ⟨trivial, trivial⟩ ?_
        refine to_then ?_
        refine W_seq ?_
        refine W_cond (b := (decide (v27 < (r8.length : Int)))) (β := false) (by kernel_rfl) (fun hb16 => ?_) (fun hb16 => ?_)
        · replace h := h_if hb16 h
          refine W_skip_to ?_
          refine to_then ?_
          refine W_seq ?_
          refine W_block ?_
          refine W_seq ?_
          obtain ⟨c115, h⟩ := h_guard h
          obtain ⟨c116, h⟩ := h_guard h
          refine W_reg tbok ⟨[], []⟩ [] [0, 1, 2, 3] [(1, .fn 21 [.fad true [.p β1 (.slice (.int .i64)) i1] 0, .fad true [.p β2 (.slice (.slice (.int .i64))) i2, .p β3 (.slice (.int .u32)) i3] 0]), (5, .mp 0), (6, .sl 1), (7, .sl 2), (8, .p false (.int .i64) v22), (9, .sl 3), (11, .p false (.int .i64) (r8.getD v27.toNat (0 : Int))), (17, .p false (.int .i64) d1), (18, .p false (.int .i64) v22), (26, .sl 2), (27, .p false (.int .i64) (r8.length : Int)), (28, .p false (.int .i64) v27)] [(0, .mpo .str (.int .i64) v19), (1, .arr 3 (.int .i64) v20), (2, .arr 3 (.int .i64) r8), (3, .arr 5 (.int .u8) v26)] 4 0 [0 ≤ v27 ∧ v27 < (r8.length : Int), v27.toNat < r8.length, True] (by kernel_rfl) (by kernel_rfl) ⟨c115, c116, trivial, trivial⟩ ?_
          refine to_then ?_
          obtain ⟨c121, h⟩ := h_guard h
          obtain ⟨c122, h⟩ := h_guard h
          obtain ⟨c123, h⟩ := h_guard h
          obtain ⟨c124, h⟩ := h_guard h
          refine W_reg tbok ⟨[], []⟩ [] [0, 1, 2, 108] [(1, .fn 21 [.fad true [.p β1 (.slice (.int .i64)) i1] 0, .fad true [.p β2 (.slice (.slice (.int .i64))) i2, .p β3 (.slice (.int .u32)) i3] 0]), (5, .mp 0), (6, .sl 1), (7, .sl 2), (8, .p false (.int .i64) v22), (9, .sl 3), (17, .p false (.int .i64) d1), (18, .p false (.int .i64) v22), (26, .sl 2), (27, .p false (.int .i64) (r8.length : Int)), (28, .p false (.int .i64) v27)] [(0, .mpo .str (.int .i64) v19), (1, .arr 3 (.int .i64) v20), (2, .arr 3 (.int .i64) r8), (3, .arr 5 (.int .u8) (v26 ++ ([(IntKind.u8.wrap (r8.getD v27.toNat (0 : Int))), (IntKind.u8.wrap (Int.fdiv (r8.getD v27.toNat (0 : Int)) (2 ^ (min (8 : Int).toNat IntKind.i64.bits)))), (IntKind.u8.wrap (Int.fdiv (r8.getD v27.toNat (0 : Int)) (2 ^ (min (16 : Int).toNat IntKind.i64.bits)))), (IntKind.u8.wrap (Int.fdiv (r8.getD v27.toNat (0 : Int)) (2 ^ (min (24 : Int).toNat IntKind.i64.bits))))] : List Int)))] 4 0 [True, True, True, True, 0 ≤ (8 : Int), True, True, 0 ≤ (16 : Int), True, True, 0 ≤ (24 : Int), True, True, (v26.length + ([(IntKind.u8.wrap (r8.getD v27.toNat (0 : Int))), (IntKind.u8.wrap (Int.fdiv (r8.getD v27.toNat (0 : Int)) (2 ^ (min (8 : Int).toNat IntKind.i64.bits)))), (IntKind.u8.wrap (Int.fdiv (r8.getD v27.toNat (0 : Int)) (2 ^ (min (16 : Int).toNat IntKind.i64.bits)))), (IntKind.u8.wrap (Int.fdiv (r8.getD v27.toNat (0 : Int)) (2 ^ (min (24 : Int).toNat IntKind.i64.bits))))] : List Int).length) * 1 ≤ 140737488355328 ∧ v26.length + ([(IntKind.u8.wrap (r8.getD v27.toNat (0 : Int))), (IntKind.u8.wrap (Int.fdiv (r8.getD v27.toNat (0 : Int)) (2 ^ (min (8 : Int).toNat IntKind.i64.bits)))), (IntKind.u8.wrap (Int.fdiv (r8.getD v27.toNat (0 : Int)) (2 ^ (min (16 : Int).toNat IntKind.i64.bits)))), (IntKind.u8.wrap (Int.fdiv (r8.getD v27.toNat (0 : Int)) (2 ^ (min (24 : Int).toNat IntKind.i64.bits))))] : List Int).length ≤ 9223372036854775807, True] (by kernel_rfl) (by kernel_rfl) ⟨trivial, trivial, trivial, trivial, c121, trivial, trivial, c122, trivial, trivial, c123, trivial, trivial, c124, trivial, trivial⟩ ?_
          refine to_block ?_
          refine to_then ?_
          refine W_reg tbok ⟨[], []⟩ [] [0, 1, 2, 3] [(1, .fn 21 [.fad true [.p β1 (.slice (.int .i64)) i1] 0, .fad true [.p β2 (.slice (.slice (.int .i64))) i2, .p β3 (.slice (.int .u32)) i3] 0]), (5, .mp 0), (6, .sl 1), (7, .sl 2), (8, .p false (.int .i64) v22), (9, .sl 3), (17, .p false (.int .i64) d1), (18, .p false (.int .i64) v22), (26, .sl 2), (27, .p false (.int .i64) (r8.length : Int)), (28, .p false (.int .i64) (IntKind.i64.wrap (v27 + (1 : Int))))] [(0, .mpo .str (.int .i64) v19), (1, .arr 3 (.int .i64) v20), (2, .arr 3 (.int .i64) r8), (3, .arr 5 (.int .u8) (v26 ++ ([(IntKind.u8.wrap (r8.getD v27.toNat (0 : Int))), (IntKind.u8.wrap (Int.fdiv (r8.getD v27.toNat (0 : Int)) (2 ^ (min (8 : Int).toNat IntKind.i64.bits)))), (IntKind.u8.wrap (Int.fdiv (r8.getD v27.toNat (0 : Int)) (2 ^ (min (16 : Int).toNat IntKind.i64.bits)))), (IntKind.u8.wrap (Int.fdiv (r8.getD v27.toNat (0 : Int)) (2 ^ (min (24 : Int).toNat IntKind.i64.bits))))] : List Int)))] 4 0 [True, True] (by kernel_rfl) (by kernel_rfl) ⟨trivial, trivial, trivial⟩ ?_
          obtain rfl := Option.some.inj h
          exact roundB (goal_le (gs := []) (f := [0, 1, 2, 3]) (by kernel_rfl) (by kernel_rfl))
        · replace h := h_else hb16 h
          refine W_exit_to ?_
          refine thenE ?_
          obtain rfl := Option.some.inj h
          refine roundE ?_
          exact postX_to (goal_le (gs := []) (f := [0, 1, 2, 3]) (by kernel_rfl) (by kernel_rfl))
      · clear hp5
        obtain ⟨rfl, hle⟩ := hq
        refine use_to ?_ hle
        refine blockE_eq ?_
        refine to_then ?_
        refine W_seq ?_
        refine W_reg tbok ⟨[], []⟩ [] [0, 1, 2, 3] [(1, .fn 21 [.fad true [.p β1 (.slice (.int .i64)) i1] 0, .fad true [.p β2 (.slice (.slice (.int .i64))) i2, .p β3 (.slice (.int .u32)) i3] 0]), (5, .mp 0), (6, .sl 1), (7, .sl 2), (8, .p false (.int .i64) v22), (9, .sl 3), (12, .p false (.int .i64) ((mfind .str v19 (bytesOf v28)).getD (0 : Int))), (13, .p false .bool ((mfind .str v19 (bytesOf v28)).isSome)), (17, .p false (.int .i64) d1), (18, .p false (.int .i64) v22)] [(0, .mpo .str (.int .i64) v19), (1, .arr 3 (.int .i64) v20), (2, .arr 3 (.int .i64) r8), (3, .arr 5 (.int .u8) v28)] 4 0 [True, True, True, True, True, True, True, True, True] (by kernel_rfl) (by kernel_rfl) ⟨trivial, trivial, trivial, trivial, trivial, trivial, trivial, trivial, trivial, trivial⟩ ?_
        refine to_then ?_
        refine W_seq ?_
        refine W_seq ?_
        refine W_reg tbok ⟨[], []⟩ [] [0, 1, 2, 3] [(1, .fn 21 [.fad true [.p β1 (.slice (.int .i64)) i1] 0, .fad true [.p β2 (.slice (.slice (.int .i64))) i2, .p β3 (.slice (.int .u32)) i3] 0]), (5, .mp 0), (6, .sl 1), (7, .sl 2), (8, .p false (.int .i64) v22), (9, .sl 3), (12, .p false (.int .i64) ((mfind .str v19 (bytesOf v28)).getD (0 : Int))), (17, .p false (.int .i64) d1), (18, .p false (.int .i64) v22), (55, .p false .bool (!((mfind .str v19 (bytesOf v28)).isSome)))] [(0, .mpo .str (.int .i64) v19), (1, .arr 3 (.int .i64) v20), (2, .arr 3 (.int .i64) r8), (3, .arr 5 (.int .u8) v28)] 4 0 [True, True] (by kernel_rfl) (by kernel_rfl) ⟨trivial, trivial, trivial⟩ ?_
        refine to_then ?_
        obtain ⟨r9, hp6, h⟩ := h_bind h
        refine W.mono (Q := (postN Try.f19.ntmps (fun ((v29, v30) : (List ((List UInt8) × Int)) × Int) => mkSt [(1, .fn 21 [.fad true [.p β1 (.slice (.int .i64)) i1] 0, .fad true [.p β2 (.slice (.slice (.int .i64))) i2, .p β3 (.slice (.int .u32)) i3] 0]), (5, .mp 0), (6, .sl 1), (7, .sl 2), (8, .p false (.int .i64) v22), (12, .p false (.int .i64) v30), (17, .p false (.int .i64) d1), (18, .p false (.int .i64) v22)] [(0, .mpo .str (.int .i64) v29), (1, .arr 3 (.int .i64) v20), (2, .arr 3 (.int .i64) r8)] 3)) r9) ?_ (fun e σ' hq => ?_)
        · replace h := hp6
          clear hp6
          refine W_cond (b := (!((mfind .str v19 (bytesOf v28)).isSome))) (β := false) (by kernel_rfl) (fun hb18 => ?_) (fun hb18 => ?_)
          · replace h := h_if hb18 h
            refine W_seq ?_
            refine W_reg tbok ⟨[], []⟩ [] [0, 1, 2, 3] [(1, .fn 21 [.fad true [.p β1 (.slice (.int .i64)) i1] 0, .fad true [.p β2 (.slice (.slice (.int .i64))) i2, .p β3 (.slice (.int .u32)) i3] 0]), (5, .mp 0), (6, .sl 1), (7, .sl 2), (8, .p false (.int .i64) v22), (9, .sl 3), (12, .p false (.int .i64) (v19.length : Int)), (17, .p false (.int .i64) d1), (18, .p false (.int .i64) v22)] [(0, .mpo .str (.int .i64) v19), (1, .arr 3 (.int .i64) v20), (2, .arr 3 (.int .i64) r8), (3, .arr 5 (.int .u8) v28)] 4 0 [True, True, True] (by kernel_rfl) (by kernel_rfl) ⟨trivial, trivial, trivial, trivial⟩ ?_
            refine to_then ?_
            refine W_reg tbok ⟨[], []⟩ [] [0, 1, 2] [(1, .fn 21 [.fad true [.p β1 (.slice (.int .i64)) i1] 0, .fad true [.p β2 (.slice (.slice (.int .i64))) i2, .p β3 (.slice (.int .u32)) i3] 0]), (5, .mp 0), (6, .sl 1), (7, .sl 2), (8, .p false (.int .i64) v22), (12, .p false (.int .i64) (v19.length : Int)), (17, .p false (.int .i64) d1), (18, .p false (.int .i64) v22)] [(0, .mpo .str (.int .i64) (mset .str v19 (bytesOf v28) (v19.length : Int))), (1, .arr 3 (.int .i64) v20), (2, .arr 3 (.int .i64) r8)] 3 0 [True, True, True, True, True] (by kernel_rfl) (by kernel_rfl) ⟨trivial, trivial, trivial, trivial, trivial, trivial⟩ ?_
            obtain rfl := Option.some.inj h
            exact postN_to (goal_le (gs := []) (f := [0, 1, 2]) (by kernel_rfl) (by kernel_rfl))
          · replace h := h_else hb18 h
            refine W_skip_to ?_
            obtain rfl := Option.some.inj h
            exact postN_to (goal_le (gs := []) (f := [0, 1, 2]) (by kernel_rfl) (by kernel_rfl))
        · clear hp6
          obtain ⟨v29, v30⟩ := r9
          obtain ⟨rfl, hle⟩ := hq
          refine use_to ?_ hle
          refine to_then ?_
          obtain ⟨c127, h⟩ := h_guard h
          obtain ⟨c128, h⟩ := h_guard h
          refine W_reg tbok ⟨[], []⟩ [] [0, 1, 2] [(1, .fn 21 [.fad true [.p β1 (.slice (.int .i64)) i1] 0, .fad true [.p β2 (.slice (.slice (.int .i64))) i2, .p β3 (.slice (.int .u32)) i3] 0]), (5, .mp 0), (6, .sl 1), (7, .sl 2), (17, .p false (.int .i64) d1), (18, .p false (.int .i64) v22)] [(0, .mpo .str (.int .i64) v29), (1, .arr 3 (.int .i64) (v20.set v22.toNat v30)), (2, .arr 3 (.int .i64) r8)] 3 0 [True, True, True, 0 ≤ v22 ∧ v22 < (v20.length : Int), v22.toNat < v20.length] (by kernel_rfl) (by kernel_rfl) ⟨trivial, trivial, trivial, c127, c128, trivial⟩ ?_
          refine to_block ?_
          refine to_then ?_
          refine W_reg tbok ⟨[], []⟩ [] [0, 1, 2] [(1, .fn 21 [.fad true [.p β1 (.slice (.int .i64)) i1] 0, .fad true [.p β2 (.slice (.slice (.int .i64))) i2, .p β3 (.slice (.int .u32)) i3] 0]), (5, .mp 0), (6, .sl 1), (7, .sl 2), (17, .p false (.int .i64) d1), (18, .p false (.int .i64) (IntKind.i64.wrap (v22 + (1 : Int))))] [(0, .mpo .str (.int .i64) v29), (1, .arr 3 (.int .i64) (v20.set v22.toNat v30)), (2, .arr 3 (.int .i64) r8)] 3 0 [True, True] (by kernel_rfl) (by kernel_rfl) ⟨trivial, trivial, trivial⟩ ?_
          obtain rfl := Option.some.inj h
          exact roundB (goal_le (gs := []) (f := [0, 1, 2]) (by kernel_rfl) (by kernel_rfl))
    · replace h := h_else hb13 h
      refine W_exit_to ?_
      refine thenE ?_
      obtain rfl := Option.some.inj h
      refine roundE ?_
      exact postX_to (goal_le (gs := []) (f := [1]) (by kernel_rfl) (by kernel_rfl))
  · clear hp7
    obtain ⟨rfl, hle⟩ := hq
    refine use_to ?_ hle
    refine blockE_eq ?_
    refine to_then ?_
    refine W_seq ?_
    refine W_reg tbok ⟨[], []⟩ [] [0] [(4, .sl 0)] [(0, .arr 3 (.int .i64) v23)] 1 0 [True, True] (by kernel_rfl) (by kernel_rfl) ⟨trivial, trivial, trivial⟩ ?_
    refine to_then ?_
    refine W_ret ?_
    obtain rfl := Option.some.inj h
    exact Ret_intro [(.slice (.int .i64))] (by kernel_rfl)

/-- a loop of 'stanza/least.most': one round -/
def least_most_L1 (l1 : List Int) : (Int × Int) → Option ((Int × Int) ⊕ (Int)) := fun ((n2, v2) : Int × Int) =>
  (if (decide (v2 < (l1.length : Int))) = true then (if 0 ≤ v2 ∧ v2 < (l1.length : Int) then some (Sum.inl ((max n2 (l1.getD v2.toNat (0 : Int))), (IntKind.i64.wrap (v2 + (1 : Int))))) else none)
  else some (Sum.inr n2))

/-- 'stanza/least.most' -/
def least_most (l1 : List Int) : Option (Int) :=
  ((iter (least_most_L1 l1) ((0 : Int), (0 : Int))).bind fun (n3 : Int) => some n3)

set_option maxRecDepth 100000 in
set_option maxHeartbeats 4000000 in
theorem least_most_ok (β0 : Bool) (l1 : List Int) (res : Int) (h : least_most l1 = some res) :
    Pure Try.prog 22 [.p β0 (.slice (.int .i64)) l1] (wrapR (encs false [⟨(.int .i64), res⟩])) := by
  refine Pure.of_body tbok Try.func22 (by kernel_rfl) rfl (Nat.le_of_ble_eq_true rfl) (fun Bw w0 => ?_) rfl
  unfold least_most at h
  refine W_seq ?_
  refine W_reg tbok ⟨[], []⟩ [] [] [(0, .p β0 (.slice (.int .i64)) l1)] [] 0 0 [True] (by kernel_rfl) (by kernel_rfl) ⟨trivial, trivial⟩ ?_
  refine to_then ?_
  refine W_seq ?_
  refine W_reg tbok ⟨[], []⟩ [] [] [(0, .p β0 (.slice (.int .i64)) l1), (3, .p false (.int .i64) (0 : Int))] [] 0 0 [True] (by kernel_rfl) (by kernel_rfl) ⟨trivial, trivial⟩ ?_
  refine to_then ?_
  refine W_seq ?_
  refine W_seq ?_
  refine W_reg tbok ⟨[], []⟩ [] [] [(3, .p false (.int .i64) (0 : Int)), (6, .p β0 (.slice (.int .i64)) l1), (7, .p false (.int .i64) (l1.length : Int)), (8, .p false (.int .i64) (0 : Int))] [] 0 0 [True, True, True] (by kernel_rfl) (by kernel_rfl) ⟨trivial, trivial, trivial, trivial⟩ ?_
  refine to_then ?_
  refine W_block ?_
  obtain ⟨n3, hp1, h⟩ := h_bind h
  refine W.mono (Q := (postX Try.f22.ntmps 0 (fun (n3 : Int) => mkSt [(3, .p false (.int .i64) n3)] [] 0)) n3) (W_iter (f := fun ((n2, v2) : Int × Int) => mkSt [(3, .p false (.int .i64) n2), (6, .p β0 (.slice (.int .i64)) l1), (7, .p false (.int .i64) (l1.length : Int)), (8, .p false (.int .i64) v2)] [] 0) (Q := (postX Try.f22.ntmps 0 (fun (n3 : Int) => mkSt [(3, .p false (.int .i64) n3)] [] 0))) hp1 (goal_le (gs := []) (f := []) (by kernel_rfl) (by kernel_rfl)) (fun y o ho => ?_)) (fun e σ' hq => ?_)
  · obtain ⟨n2, v2⟩ := y
    replace h := ho
    clear ho hp1
    unfold least_most_L1 at h
    refine W_seq ?_
    refine W_reg tbok ⟨[], []⟩ [] [] [(3, .p false (.int .i64) n2), (6, .p β0 (.slice (.int .i64)) l1), (7, .p false (.int .i64) (l1.length : Int)), (8, .p false (.int .i64) v2), (9, .p false .bool (decide (v2 < (l1.length : Int))))] [] 0 0 [True] (by kernel_rfl) (by kernel_rfl) ⟨trivial, trivial⟩ ?_
    refine to_then ?_
    refine W_seq ?_
    refine W_cond (b := (decide (v2 < (l1.length : Int)))) (β := false) (by kernel_rfl) (fun hb3 => ?_) (fun hb3 => ?_)
    · replace h := h_if hb3 h
      refine W_skip_to ?_
      refine to_then ?_
      refine W_seq ?_
      refine W_block ?_
      refine W_seq ?_
      obtain ⟨c6, h⟩ := h_guard h
      refine W_reg tbok ⟨[], []⟩ [] [] [(3, .p false (.int .i64) n2), (5, .p false (.int .i64) (l1.getD v2.toNat (0 : Int))), (6, .p β0 (.slice (.int .i64)) l1), (7, .p false (.int .i64) (l1.length : Int)), (8, .p false (.int .i64) v2)] [] 0 0 [0 ≤ v2 ∧ v2 < (l1.length : Int), True, True] (by kernel_rfl) (by kernel_rfl) ⟨c6, trivial, trivial, trivial⟩ ?_
      refine to_then ?_
      refine W_reg tbok ⟨[], []⟩ [] [] [(3, .p false (.int .i64) (max n2 (l1.getD v2.toNat (0 : Int)))), (6, .p β0 (.slice (.int .i64)) l1), (7, .p false (.int .i64) (l1.length : Int)), (8, .p false (.int .i64) v2)] [] 0 0 [True, True, True, True] (by kernel_rfl) (by kernel_rfl) ⟨trivial, trivial, trivial, trivial, trivial⟩ ?_
      refine to_block ?_
      refine to_then ?_
      refine W_reg tbok ⟨[], []⟩ [] [] [(3, .p false (.int .i64) (max n2 (l1.getD v2.toNat (0 : Int)))), (6, .p β0 (.slice (.int .i64)) l1), (7, .p false (.int .i64) (l1.length : Int)), (8, .p false (.int .i64) (IntKind.i64.wrap (v2 + (1 : Int))))] [] 0 0 [True, True] (by kernel_rfl) (by kernel_rfl) ⟨trivial, trivial, trivial⟩ ?_
      obtain rfl := Option.some.inj h
      exact roundB (goal_le (gs := []) (f := []) (by kernel_rfl) (by kernel_rfl))
    · replace h := h_else hb3 h
      refine W_exit_to ?_
      refine thenE ?_
      obtain rfl := Option.some.inj h
      refine roundE ?_
      exact postX_to (goal_le (gs := []) (f := []) (by kernel_rfl) (by kernel_rfl))
  · clear hp1
    obtain ⟨rfl, hle⟩ := hq
    refine use_to ?_ hle
    refine blockE_eq ?_
    refine to_then ?_
    refine W_seq ?_
    refine W_reg tbok ⟨[], []⟩ [] [] [(2, .p false (.int .i64) n3)] [] 0 0 [True, True] (by kernel_rfl) (by kernel_rfl) ⟨trivial, trivial, trivial⟩ ?_
    refine to_then ?_
    refine W_ret ?_
    obtain rfl := Option.some.inj h
    exact Ret_intro [(.int .i64)] (by kernel_rfl)

/-- a loop of 'stanza/least.number': one round -/
def least_number_L1 (r2 : Int) : ((List Int) × Int) → Option (((List Int) × Int) ⊕ (List Int)) := fun ((v3, v4) : (List Int) × Int) =>
  (if (decide (v4 < ((List.replicate (IntKind.i64.wrap (r2 + (1 : Int))).toNat (0 : Int)).length : Int))) = true then (if 0 ≤ v4 ∧ v4 < (v3.length : Int) then (if v4.toNat < v3.length then some (Sum.inl ((v3.set v4.toNat (-1 : Int)), (IntKind.i64.wrap (v4 + (1 : Int))))) else none) else none)
  else some (Sum.inr v3))

/-- a loop of 'stanza/least.number': one round -/
def least_number_L2 (d1 : List (List Int)) (i1 : List Int) (v48 : List Int) (v49 : Int) : ((List Int) × (List Int) × (List Int) × Int) → Option (((List Int) × (List Int) × (List Int) × Int) ⊕ ((List Int) × (List Int) × List Int)) := fun ((v60, v61, v62, v63) : (List Int) × (List Int) × (List Int) × Int) =>
  (if (decide (v63 < ((d1.getD ((v48.getD v49.toNat (0 : Int)).toNat) ([] : List Int)).length : Int))) = true then (if 0 ≤ v63 ∧ v63 < ((d1.getD ((v48.getD v49.toNat (0 : Int)).toNat) ([] : List Int)).length : Int) then (if 0 ≤ ((d1.getD ((v48.getD v49.toNat (0 : Int)).toNat) ([] : List Int)).getD v63.toNat (0 : Int)) ∧ ((d1.getD ((v48.getD v49.toNat (0 : Int)).toNat) ([] : List Int)).getD v63.toNat (0 : Int)) < (i1.length : Int) then (if 0 ≤ (i1.getD (((d1.getD ((v48.getD v49.toNat (0 : Int)).toNat) ([] : List Int)).getD v63.toNat (0 : Int)).toNat) (0 : Int)) ∧ (i1.getD (((d1.getD ((v48.getD v49.toNat (0 : Int)).toNat) ([] : List Int)).getD v63.toNat (0 : Int)).toNat) (0 : Int)) < (v60.length : Int) then (if (i1.getD (((d1.getD ((v48.getD v49.toNat (0 : Int)).toNat) ([] : List Int)).getD v63.toNat (0 : Int)).toNat) (0 : Int)).toNat < v60.length then (((if (decide ((v60.getD ((i1.getD (((d1.getD ((v48.getD v49.toNat (0 : Int)).toNat) ([] : List Int)).getD v63.toNat (0 : Int)).toNat) (0 : Int)).toNat) (0 : Int)) < (0 : Int))) = true then (if 0 ≤ ((d1.getD ((v48.getD v49.toNat (0 : Int)).toNat) ([] : List Int)).getD v63.toNat (0 : Int)) ∧ ((d1.getD ((v48.getD v49.toNat (0 : Int)).toNat) ([] : List Int)).getD v63.toNat (0 : Int)) < (i1.length : Int) then (if 0 ≤ (i1.getD (((d1.getD ((v48.getD v49.toNat (0 : Int)).toNat) ([] : List Int)).getD v63.toNat (0 : Int)).toNat) (0 : Int)) ∧ (i1.getD (((d1.getD ((v48.getD v49.toNat (0 : Int)).toNat) ([] : List Int)).getD v63.toNat (0 : Int)).toNat) (0 : Int)) < (v60.length : Int) then (if (i1.getD (((d1.getD ((v48.getD v49.toNat (0 : Int)).toNat) ([] : List Int)).getD v63.toNat (0 : Int)).toNat) (0 : Int)).toNat < v60.length then (if (v61.length + ([((d1.getD ((v48.getD v49.toNat (0 : Int)).toNat) ([] : List Int)).getD v63.toNat (0 : Int))] : List Int).length) * 8 ≤ 140737488355328 ∧ v61.length + ([((d1.getD ((v48.getD v49.toNat (0 : Int)).toNat) ([] : List Int)).getD v63.toNat (0 : Int))] : List Int).length ≤ 9223372036854775807 then some (((v60.set ((i1.getD (((d1.getD ((v48.getD v49.toNat (0 : Int)).toNat) ([] : List Int)).getD v63.toNat (0 : Int)).toNat) (0 : Int)).toNat) (v61.length : Int)), (v61 ++ ([((d1.getD ((v48.getD v49.toNat (0 : Int)).toNat) ([] : List Int)).getD v63.toNat (0 : Int))] : List Int)))) else none) else none) else none) else none)
  else some ((v60, v61)))).bind fun ((v67, v68) : (List Int) × List Int) => (if 0 ≤ ((d1.getD ((v48.getD v49.toNat (0 : Int)).toNat) ([] : List Int)).getD v63.toNat (0 : Int)) ∧ ((d1.getD ((v48.getD v49.toNat (0 : Int)).toNat) ([] : List Int)).getD v63.toNat (0 : Int)) < (i1.length : Int) then (if 0 ≤ (i1.getD (((d1.getD ((v48.getD v49.toNat (0 : Int)).toNat) ([] : List Int)).getD v63.toNat (0 : Int)).toNat) (0 : Int)) ∧ (i1.getD (((d1.getD ((v48.getD v49.toNat (0 : Int)).toNat) ([] : List Int)).getD v63.toNat (0 : Int)).toNat) (0 : Int)) < (v67.length : Int) then (if (i1.getD (((d1.getD ((v48.getD v49.toNat (0 : Int)).toNat) ([] : List Int)).getD v63.toNat (0 : Int)).toNat) (0 : Int)).toNat < v67.length then (if (v62.length + ([(v67.getD ((i1.getD (((d1.getD ((v48.getD v49.toNat (0 : Int)).toNat) ([] : List Int)).getD v63.toNat (0 : Int)).toNat) (0 : Int)).toNat) (0 : Int))] : List Int).length) * 8 ≤ 140737488355328 ∧ v62.length + ([(v67.getD ((i1.getD (((d1.getD ((v48.getD v49.toNat (0 : Int)).toNat) ([] : List Int)).getD v63.toNat (0 : Int)).toNat) (0 : Int)).toNat) (0 : Int))] : List Int).length ≤ 9223372036854775807 then some (Sum.inl (v67, v68, (v62 ++ ([(v67.getD ((i1.getD (((d1.getD ((v48.getD v49.toNat (0 : Int)).toNat) ([] : List Int)).getD v63.toNat (0 : Int)).toNat) (0 : Int)).toNat) (0 : Int))] : List Int)), (IntKind.i64.wrap (v63 + (1 : Int))))) else none) else none) else none) else none)) else none) else none) else none) else none)
  else some (Sum.inr (v60, v61, v62)))

/-- a loop of 'stanza/least.number': one round -/
def least_number_L3 (d1 : List (List Int)) (d2 : List Int) (i1 : List Int) : ((List (List Int)) × (List Int) × (List Int) × (List Int) × Int) → Option (((List (List Int)) × (List Int) × (List Int) × (List Int) × Int) ⊕ ((List (List Int)) × List Int)) := fun ((v45, v46, v47, v48, v49) : (List (List Int)) × (List Int) × (List Int) × (List Int) × Int) =>
  (if (decide (v49 < (v48.length : Int))) = true then (if 0 ≤ v49 ∧ v49 < (v48.length : Int) then (if v49.toNat < v48.length then (if 0 ≤ (v48.getD v49.toNat (0 : Int)) ∧ (v48.getD v49.toNat (0 : Int)) < (d1.length : Int) then ((iter (least_number_L2 d1 i1 v48 v49) (v47, v48, ([] : List Int), (0 : Int))).bind fun ((v64, v65, v66) : (List Int) × (List Int) × List Int) => (if (v45.length + ([v66] : List (List Int)).length) * 24 ≤ 140737488355328 ∧ v45.length + ([v66] : List (List Int)).length ≤ 9223372036854775807 then (if 0 ≤ v49 ∧ v49 < (v65.length : Int) then (if v49.toNat < v65.length then (if 0 ≤ (v65.getD v49.toNat (0 : Int)) ∧ (v65.getD v49.toNat (0 : Int)) < (d2.length : Int) then (if (v46.length + ([(d2.getD ((v65.getD v49.toNat (0 : Int)).toNat) (0 : Int))] : List Int).length) * 4 ≤ 140737488355328 ∧ v46.length + ([(d2.getD ((v65.getD v49.toNat (0 : Int)).toNat) (0 : Int))] : List Int).length ≤ 9223372036854775807 then some (Sum.inl ((v45 ++ ([v66] : List (List Int))), (v46 ++ ([(d2.getD ((v65.getD v49.toNat (0 : Int)).toNat) (0 : Int))] : List Int)), v64, v65, (IntKind.i64.wrap (v49 + (1 : Int))))) else none) else none) else none) else none) else none)) else none) else none) else none)
  else some (Sum.inr (v45, v46)))

/-- 'stanza/least.number' -/
def least_number (d1 : List (List Int)) (d2 : List Int) (i1 : List Int) : Option ((List (List Int)) × List Int) :=
  ((least_most i1).bind fun (r2 : Int) =>
  (if 0 ≤ (IntKind.i64.wrap (r2 + (1 : Int))) ∧ (IntKind.i64.wrap (r2 + (1 : Int))) ≤ (IntKind.i64.wrap (r2 + (1 : Int))) ∧ (8 : Int) * (IntKind.i64.wrap (r2 + (1 : Int))) ≤ 281474976710656 ∧ (IntKind.i64.wrap (r2 + (1 : Int))) ≤ 9223372036854775807 then ((iter (least_number_L1 r2) ((List.replicate (IntKind.i64.wrap (r2 + (1 : Int))).toNat (0 : Int)), (0 : Int))).bind fun (v5 : List Int) => (if 0 ≤ (0 : Int) ∧ (0 : Int) < (i1.length : Int) then (if 0 ≤ (i1.getD ((0 : Int).toNat) (0 : Int)) ∧ (i1.getD ((0 : Int).toNat) (0 : Int)) < (v5.length : Int) then (if (i1.getD ((0 : Int).toNat) (0 : Int)).toNat < v5.length then ((iter (least_number_L3 d1 d2 i1) (([] : List (List Int)), ([] : List Int), (v5.set ((i1.getD ((0 : Int).toNat) (0 : Int)).toNat) (0 : Int)), ([(0 : Int)] : List Int), (0 : Int))).bind fun ((v50, v51) : (List (List Int)) × List Int) => some (v50, v51)) else none) else none) else none)) else none))

set_option maxRecDepth 100000 in
set_option maxHeartbeats 4000000 in
theorem least_number_ok (β0 β1 β2 : Bool) (d1 : List (List Int)) (d2 : List Int) (i1 : List Int) (res : (List (List Int)) × List Int) (h : least_number d1 d2 i1 = some res) :
    Pure Try.prog 23 [.agg [.p β0 (.slice (.slice (.int .i64))) d1, .p β1 (.slice (.int .u32)) d2], .p β2 (.slice (.int .i64)) i1] (wrapR (encs false [⟨(.prod (.slice (.slice (.int .i64))) (.slice (.int .u32))), res⟩])) := by
  refine Pure.of_body tbok Try.func23 (by kernel_rfl) rfl (Nat.le_of_ble_eq_true rfl) (fun Bw w0 => ?_) rfl
  unfold least_number at h
  refine W_seq ?_
  refine W_reg tbok ⟨[], []⟩ [] [0, 8] [(1, .p β2 (.slice (.int .i64)) i1), (2, .adr 0 0 2 0), (4, .adr 1 0 2 0)] [(0, .box [.p β0 (.slice (.slice (.int .i64))) d1, .p β1 (.slice (.int .u32)) d2]), (1, .box [.nils, .nils])] 2 0 [True, True] (by kernel_rfl) (by kernel_rfl) ⟨trivial, trivial, trivial⟩ ?_
  refine to_then ?_
  refine W_seq ?_
  refine W_reg tbok ⟨[], []⟩ [] [0, 1, 2] [(1, .p β2 (.slice (.int .i64)) i1), (2, .adr 0 0 2 0), (4, .adr 1 0 2 0), (5, .adr 2 0 2 0)] [(0, .box [.p β0 (.slice (.slice (.int .i64))) d1, .p β1 (.slice (.int .u32)) d2]), (1, .box [.nils, .nils]), (2, .box [.nils, .nils])] 3 0 [True] (by kernel_rfl) (by kernel_rfl) ⟨trivial, trivial⟩ ?_
  refine to_then ?_
  refine W_seq ?_
  obtain ⟨r2, q2, h⟩ := h_bind h
  obtain ⟨c2, h⟩ := h_guard h
  refine W_reg tbok ⟨[], [(1, ⟨.p false (.int .i64) r2, [false], false, [true], [], []⟩)]⟩ [] [0, 1, 2, 27] [(1, .p β2 (.slice (.int .i64)) i1), (2, .adr 0 0 2 0), (4, .adr 1 0 2 0), (5, .adr 2 0 2 0), (6, .sl 3)] [(0, .box [.p β0 (.slice (.slice (.int .i64))) d1, .p β1 (.slice (.int .u32)) d2]), (1, .box [.nils, .nils]), (2, .box [.nils, .nils]), (3, .arr 3 (.int .i64) (List.replicate (IntKind.i64.wrap (r2 + (1 : Int))).toNat (0 : Int)))] 4 0 [True, Pure Try.prog 22 [.p β2 (.slice (.int .i64)) i1] (.p false (.int .i64) r2), True, 0 ≤ (IntKind.i64.wrap (r2 + (1 : Int))) ∧ (IntKind.i64.wrap (r2 + (1 : Int))) ≤ (IntKind.i64.wrap (r2 + (1 : Int))) ∧ (8 : Int) * (IntKind.i64.wrap (r2 + (1 : Int))) ≤ 281474976710656 ∧ (IntKind.i64.wrap (r2 + (1 : Int))) ≤ 9223372036854775807, True] (by kernel_rfl) (by kernel_rfl) ⟨trivial, (least_most_ok β2 i1 _ q2), trivial, c2, trivial, trivial⟩ ?_
  refine to_then ?_
  refine W_seq ?_
  refine W_seq ?_
  refine W_reg tbok ⟨[], []⟩ [] [0, 1, 2, 3] [(1, .p β2 (.slice (.int .i64)) i1), (2, .adr 0 0 2 0), (4, .adr 1 0 2 0), (5, .adr 2 0 2 0), (6, .sl 3), (18, .p false (.int .i64) ((List.replicate (IntKind.i64.wrap (r2 + (1 : Int))).toNat (0 : Int)).length : Int)), (19, .p false (.int .i64) (0 : Int))] [(0, .box [.p β0 (.slice (.slice (.int .i64))) d1, .p β1 (.slice (.int .u32)) d2]), (1, .box [.nils, .nils]), (2, .box [.nils, .nils]), (3, .arr 3 (.int .i64) (List.replicate (IntKind.i64.wrap (r2 + (1 : Int))).toNat (0 : Int)))] 4 0 [True, True, True] (by kernel_rfl) (by kernel_rfl) ⟨trivial, trivial, trivial, trivial⟩ ?_
  refine to_then ?_
  refine W_block ?_
  obtain ⟨v5, hp1, h⟩ := h_bind h
  refine W.mono (Q := (postX Try.f23.ntmps 0 (fun (v5 : List Int) => mkSt [(1, .p β2 (.slice (.int .i64)) i1), (2, .adr 0 0 2 0), (4, .adr 1 0 2 0), (5, .adr 2 0 2 0), (6, .sl 3)] [(0, .box [.p β0 (.slice (.slice (.int .i64))) d1, .p β1 (.slice (.int .u32)) d2]), (1, .box [.nils, .nils]), (2, .box [.nils, .nils]), (3, .arr 3 (.int .i64) v5)] 4)) v5) (W_iter (f := fun ((v3, v4) : (List Int) × Int) => mkSt [(1, .p β2 (.slice (.int .i64)) i1), (2, .adr 0 0 2 0), (4, .adr 1 0 2 0), (5, .adr 2 0 2 0), (6, .sl 3), (18, .p false (.int .i64) ((List.replicate (IntKind.i64.wrap (r2 + (1 : Int))).toNat (0 : Int)).length : Int)), (19, .p false (.int .i64) v4)] [(0, .box [.p β0 (.slice (.slice (.int .i64))) d1, .p β1 (.slice (.int .u32)) d2]), (1, .box [.nils, .nils]), (2, .box [.nils, .nils]), (3, .arr 3 (.int .i64) v3)] 4) (Q := (postX Try.f23.ntmps 0 (fun (v5 : List Int) => mkSt [(1, .p β2 (.slice (.int .i64)) i1), (2, .adr 0 0 2 0), (4, .adr 1 0 2 0), (5, .adr 2 0 2 0), (6, .sl 3)] [(0, .box [.p β0 (.slice (.slice (.int .i64))) d1, .p β1 (.slice (.int .u32)) d2]), (1, .box [.nils, .nils]), (2, .box [.nils, .nils]), (3, .arr 3 (.int .i64) v5)] 4))) hp1 (goal_le (gs := []) (f := [0, 1, 2, 3]) (by kernel_rfl) (by kernel_rfl)) (fun y o ho => ?_)) (fun e σ' hq => ?_)
  · obtain ⟨v3, v4⟩ := y
    replace h := ho
    clear ho hp1
    unfold least_number_L1 at h
    refine W_seq ?_
    refine W_reg tbok ⟨[], []⟩ [] [0, 1, 2, 3] [(1, .p β2 (.slice (.int .i64)) i1), (2, .adr 0 0 2 0), (4, .adr 1 0 2 0), (5, .adr 2 0 2 0), (6, .sl 3), (18, .p false (.int .i64) ((List.replicate (IntKind.i64.wrap (r2 + (1 : Int))).toNat (0 : Int)).length : Int)), (19, .p false (.int .i64) v4), (20, .p false .bool (decide (v4 < ((List.replicate (IntKind.i64.wrap (r2 + (1 : Int))).toNat (0 : Int)).length : Int))))] [(0, .box [.p β0 (.slice (.slice (.int .i64))) d1, .p β1 (.slice (.int .u32)) d2]), (1, .box [.nils, .nils]), (2, .box [.nils, .nils]), (3, .arr 3 (.int .i64) v3)] 4 0 [True] (by kernel_rfl) (by kernel_rfl) ⟨trivial, trivial⟩ ?_
    refine to_then ?_
    refine W_seq ?_
    refine W_cond (b := (decide (v4 < ((List.replicate (IntKind.i64.wrap (r2 + (1 : Int))).toNat (0 : Int)).length : Int)))) (β := false) (by kernel_rfl) (fun hb3 => ?_) (fun hb3 => ?_)
    · replace h := h_if hb3 h
      refine W_skip_to ?_
      refine to_then ?_
      refine W_seq ?_
      refine W_block ?_
      refine W_seq ?_
      refine W_reg tbok ⟨[], []⟩ [] [0, 1, 2, 3] [(1, .p β2 (.slice (.int .i64)) i1), (2, .adr 0 0 2 0), (4, .adr 1 0 2 0), (5, .adr 2 0 2 0), (6, .sl 3), (7, .p false (.int .i64) v4), (18, .p false (.int .i64) ((List.replicate (IntKind.i64.wrap (r2 + (1 : Int))).toNat (0 : Int)).length : Int)), (19, .p false (.int .i64) v4)] [(0, .box [.p β0 (.slice (.slice (.int .i64))) d1, .p β1 (.slice (.int .u32)) d2]), (1, .box [.nils, .nils]), (2, .box [.nils, .nils]), (3, .arr 3 (.int .i64) v3)] 4 0 [True, True] (by kernel_rfl) (by kernel_rfl) ⟨trivial, trivial, trivial⟩ ?_
      refine to_then ?_
      obtain ⟨c13, h⟩ := h_guard h
      obtain ⟨c14, h⟩ := h_guard h
      refine W_reg tbok ⟨[], []⟩ [] [0, 1, 2, 3] [(1, .p β2 (.slice (.int .i64)) i1), (2, .adr 0 0 2 0), (4, .adr 1 0 2 0), (5, .adr 2 0 2 0), (6, .sl 3), (18, .p false (.int .i64) ((List.replicate (IntKind.i64.wrap (r2 + (1 : Int))).toNat (0 : Int)).length : Int)), (19, .p false (.int .i64) v4)] [(0, .box [.p β0 (.slice (.slice (.int .i64))) d1, .p β1 (.slice (.int .u32)) d2]), (1, .box [.nils, .nils]), (2, .box [.nils, .nils]), (3, .arr 3 (.int .i64) (v3.set v4.toNat (-1 : Int)))] 4 0 [True, True, 0 ≤ v4 ∧ v4 < (v3.length : Int), v4.toNat < v3.length] (by kernel_rfl) (by kernel_rfl) ⟨trivial, trivial, c13, c14, trivial⟩ ?_
      refine to_block ?_
      refine to_then ?_
      refine W_reg tbok ⟨[], []⟩ [] [0, 1, 2, 3] [(1, .p β2 (.slice (.int .i64)) i1), (2, .adr 0 0 2 0), (4, .adr 1 0 2 0), (5, .adr 2 0 2 0), (6, .sl 3), (18, .p false (.int .i64) ((List.replicate (IntKind.i64.wrap (r2 + (1 : Int))).toNat (0 : Int)).length : Int)), (19, .p false (.int .i64) (IntKind.i64.wrap (v4 + (1 : Int))))] [(0, .box [.p β0 (.slice (.slice (.int .i64))) d1, .p β1 (.slice (.int .u32)) d2]), (1, .box [.nils, .nils]), (2, .box [.nils, .nils]), (3, .arr 3 (.int .i64) (v3.set v4.toNat (-1 : Int)))] 4 0 [True, True] (by kernel_rfl) (by kernel_rfl) ⟨trivial, trivial, trivial⟩ ?_
      obtain rfl := Option.some.inj h
      exact roundB (goal_le (gs := []) (f := [0, 1, 2, 3]) (by kernel_rfl) (by kernel_rfl))
    · replace h := h_else hb3 h
      refine W_exit_to ?_
      refine thenE ?_
      obtain rfl := Option.some.inj h
      refine roundE ?_
      exact postX_to (goal_le (gs := []) (f := [0, 1, 2, 3]) (by kernel_rfl) (by kernel_rfl))
  · clear hp1
    obtain ⟨rfl, hle⟩ := hq
    refine use_to ?_ hle
    refine blockE_eq ?_
    refine to_then ?_
    refine W_seq ?_
    refine W_reg tbok ⟨[], []⟩ [] [0, 1, 2, 3, 4] [(1, .p β2 (.slice (.int .i64)) i1), (2, .adr 0 0 2 0), (4, .adr 1 0 2 0), (5, .adr 2 0 2 0), (6, .sl 3), (8, .sl 4)] [(0, .box [.p β0 (.slice (.slice (.int .i64))) d1, .p β1 (.slice (.int .u32)) d2]), (1, .box [.nils, .nils]), (2, .box [.nils, .nils]), (3, .arr 3 (.int .i64) v5), (4, .arr 3 (.int .i64) ([(0 : Int)] : List Int))] 5 0 [True, True] (by kernel_rfl) (by kernel_rfl) ⟨trivial, trivial, trivial⟩ ?_
    refine to_then ?_
    refine W_seq ?_
    obtain ⟨c18, h⟩ := h_guard h
    obtain ⟨c19, h⟩ := h_guard h
    obtain ⟨c20, h⟩ := h_guard h
    refine W_reg tbok ⟨[], []⟩ [] [0, 1, 2, 3, 4] [(1, .p β2 (.slice (.int .i64)) i1), (2, .adr 0 0 2 0), (4, .adr 1 0 2 0), (5, .adr 2 0 2 0), (6, .sl 3), (8, .sl 4)] [(0, .box [.p β0 (.slice (.slice (.int .i64))) d1, .p β1 (.slice (.int .u32)) d2]), (1, .box [.nils, .nils]), (2, .box [.nils, .nils]), (3, .arr 3 (.int .i64) (v5.set ((i1.getD ((0 : Int).toNat) (0 : Int)).toNat) (0 : Int))), (4, .arr 3 (.int .i64) ([(0 : Int)] : List Int))] 5 0 [True, True, 0 ≤ (0 : Int) ∧ (0 : Int) < (i1.length : Int), True, 0 ≤ (i1.getD ((0 : Int).toNat) (0 : Int)) ∧ (i1.getD ((0 : Int).toNat) (0 : Int)) < (v5.length : Int), (i1.getD ((0 : Int).toNat) (0 : Int)).toNat < v5.length] (by kernel_rfl) (by kernel_rfl) ⟨trivial, trivial, c18, trivial, c19, c20, trivial⟩ ?_
    refine to_then ?_
    refine W_seq ?_
    refine W_seq ?_
    refine W_reg tbok ⟨[], []⟩ [] [0, 1, 2, 3, 4] [(1, .p β2 (.slice (.int .i64)) i1), (2, .adr 0 0 2 0), (4, .adr 1 0 2 0), (5, .adr 2 0 2 0), (6, .sl 3), (8, .sl 4), (9, .p false (.int .i64) (0 : Int))] [(0, .box [.p β0 (.slice (.slice (.int .i64))) d1, .p β1 (.slice (.int .u32)) d2]), (1, .box [.nils, .nils]), (2, .box [.nils, .nils]), (3, .arr 3 (.int .i64) (v5.set ((i1.getD ((0 : Int).toNat) (0 : Int)).toNat) (0 : Int))), (4, .arr 3 (.int .i64) ([(0 : Int)] : List Int))] 5 0 [True] (by kernel_rfl) (by kernel_rfl) ⟨trivial, trivial⟩ ?_
    refine to_then ?_
    refine W_block ?_
    obtain ⟨r15, hp14, h⟩ := h_bind h
    refine W.mono (Q := (postX Try.f23.ntmps 2 (fun ((v50, v51) : (List (List Int)) × List Int) => mkSt [(4, .adr 0 0 2 0), (5, .adr 1 0 2 0)] [(0, .box [.nils, .nils]), (1, .box [.sl 2, .sl 3]), (2, .arr 23 (.slice (.int .i64)) v50), (3, .arr 37 (.int .u32) v51)] 4)) r15) (W_iter (f := fun ((v45, v46, v47, v48, v49) : (List (List Int)) × (List Int) × (List Int) × (List Int) × Int) => mkSt [(1, .p β2 (.slice (.int .i64)) i1), (2, .adr 0 0 2 0), (4, .adr 1 0 2 0), (5, .adr 2 0 2 0), (6, .sl 5), (8, .sl 6), (9, .p false (.int .i64) v49)] [(0, .box [.p β0 (.slice (.slice (.int .i64))) d1, .p β1 (.slice (.int .u32)) d2]), (1, .box [.nils, .nils]), (2, .box [.sl 3, .sl 4]), (3, .arr 23 (.slice (.int .i64)) v45), (4, .arr 37 (.int .u32) v46), (5, .arr 3 (.int .i64) v47), (6, .arr 3 (.int .i64) v48)] 7) (Q := (postX Try.f23.ntmps 2 (fun ((v50, v51) : (List (List Int)) × List Int) => mkSt [(4, .adr 0 0 2 0), (5, .adr 1 0 2 0)] [(0, .box [.nils, .nils]), (1, .box [.sl 2, .sl 3]), (2, .arr 23 (.slice (.int .i64)) v50), (3, .arr 37 (.int .u32) v51)] 4))) hp14 (goal_le (gs := [.nilC 2 0 5 23 (.slice (.int .i64)), .nilC 2 1 6 37 (.int .u32)]) (f := [0, 1, 2, 5, 6, 3, 4]) (by kernel_rfl) (by kernel_rfl)) (fun y o ho => ?_)) (fun e σ' hq => ?_)
    · obtain ⟨v45, v46, v47, v48, v49⟩ := y
      replace h := ho
      clear ho hp14
      unfold least_number_L3 at h
      refine W_seq ?_
      refine W_seq ?_
      refine W_reg tbok ⟨[], []⟩ [] [0, 1, 2, 3, 4, 5, 6] [(1, .p β2 (.slice (.int .i64)) i1), (2, .adr 0 0 2 0), (4, .adr 1 0 2 0), (5, .adr 2 0 2 0), (6, .sl 5), (8, .sl 6), (9, .p false (.int .i64) v49), (35, .p false .bool (decide (v49 < (v48.length : Int))))] [(0, .box [.p β0 (.slice (.slice (.int .i64))) d1, .p β1 (.slice (.int .u32)) d2]), (1, .box [.nils, .nils]), (2, .box [.sl 3, .sl 4]), (3, .arr 23 (.slice (.int .i64)) v45), (4, .arr 37 (.int .u32) v46), (5, .arr 3 (.int .i64) v47), (6, .arr 3 (.int .i64) v48)] 7 0 [True, True, True, True] (by kernel_rfl) (by kernel_rfl) ⟨trivial, trivial, trivial, trivial, trivial⟩ ?_
      refine to_then ?_
      refine W_cond (b := (decide (v49 < (v48.length : Int)))) (β := false) (by kernel_rfl) (fun hb24 => ?_) (fun hb24 => ?_)
      · replace h := h_if hb24 h
        refine W_skip_to ?_
        refine to_then ?_
        refine W_seq ?_
        refine W_block ?_
        refine W_seq ?_
        refine W_reg tbok ⟨[], []⟩ [] [0, 1, 2, 3, 4, 5, 6] [(1, .p β2 (.slice (.int .i64)) i1), (2, .adr 0 0 2 0), (4, .adr 1 0 2 0), (5, .adr 2 0 2 0), (6, .sl 5), (8, .sl 6), (9, .p false (.int .i64) v49), (10, .nils)] [(0, .box [.p β0 (.slice (.slice (.int .i64))) d1, .p β1 (.slice (.int .u32)) d2]), (1, .box [.nils, .nils]), (2, .box [.sl 3, .sl 4]), (3, .arr 23 (.slice (.int .i64)) v45), (4, .arr 37 (.int .u32) v46), (5, .arr 3 (.int .i64) v47), (6, .arr 3 (.int .i64) v48)] 7 0 [True] (by kernel_rfl) (by kernel_rfl) ⟨trivial, trivial⟩ ?_
        refine to_then ?_
        refine W_seq ?_
        refine W_seq ?_
        obtain ⟨c248, h⟩ := h_guard h
        obtain ⟨c249, h⟩ := h_guard h
        obtain ⟨c250, h⟩ := h_guard h
        refine W_regD tbok mixed ⟨[], []⟩ [] [0, 1, 2, 3, 4, 5, 6] [(1, .p β2 (.slice (.int .i64)) i1), (2, .adr 0 0 2 0), (4, .adr 1 0 2 0), (5, .adr 2 0 2 0), (6, .sl 5), (8, .sl 6), (9, .p false (.int .i64) v49), (10, .nils), (45, .p β0 (.slice (.int .i64)) (d1.getD ((v48.getD v49.toNat (0 : Int)).toNat) ([] : List Int))), (46, .p false (.int .i64) ((d1.getD ((v48.getD v49.toNat (0 : Int)).toNat) ([] : List Int)).length : Int)), (47, .p false (.int .i64) (0 : Int))] [(0, .box [.p β0 (.slice (.slice (.int .i64))) d1, .p β1 (.slice (.int .u32)) d2]), (1, .box [.nils, .nils]), (2, .box [.sl 3, .sl 4]), (3, .arr 23 (.slice (.int .i64)) v45), (4, .arr 37 (.int .u32) v46), (5, .arr 3 (.int .i64) v47), (6, .arr 3 (.int .i64) v48)] 7 0 [True, True, True, True, 0 ≤ v49 ∧ v49 < (v48.length : Int), v49.toNat < v48.length, 0 ≤ (v48.getD v49.toNat (0 : Int)) ∧ (v48.getD v49.toNat (0 : Int)) < (d1.length : Int), True, True, True] (by kernel_rfl) (by kernel_rfl) ⟨trivial, trivial, trivial, trivial, c248, c249, c250, trivial, trivial, trivial, trivial⟩ ?_
        refine to_then ?_
        refine W_block ?_
        obtain ⟨r14, hp13, h⟩ := h_bind h
        refine W.mono (Q := (postX Try.f23.ntmps 4 (fun ((v64, v65, v66) : (List Int) × (List Int) × List Int) => mkSt [(1, .p β2 (.slice (.int .i64)) i1), (2, .adr 0 0 2 0), (4, .adr 1 0 2 0), (5, .adr 2 0 2 0), (6, .sl 5), (8, .sl 6), (9, .p false (.int .i64) v49), (10, .sl 7)] [(0, .box [.p β0 (.slice (.slice (.int .i64))) d1, .p β1 (.slice (.int .u32)) d2]), (1, .box [.nils, .nils]), (2, .box [.sl 3, .sl 4]), (3, .arr 23 (.slice (.int .i64)) v45), (4, .arr 37 (.int .u32) v46), (5, .arr 3 (.int .i64) v64), (6, .arr 3 (.int .i64) v65), (7, .arr 3 (.int .i64) v66)] 8)) r14) (W_iter (f := fun ((v60, v61, v62, v63) : (List Int) × (List Int) × (List Int) × Int) => mkSt [(1, .p β2 (.slice (.int .i64)) i1), (2, .adr 0 0 2 0), (4, .adr 1 0 2 0), (5, .adr 2 0 2 0), (6, .sl 5), (8, .sl 6), (9, .p false (.int .i64) v49), (10, .sl 7), (45, .p β0 (.slice (.int .i64)) (d1.getD ((v48.getD v49.toNat (0 : Int)).toNat) ([] : List Int))), (46, .p false (.int .i64) ((d1.getD ((v48.getD v49.toNat (0 : Int)).toNat) ([] : List Int)).length : Int)), (47, .p false (.int .i64) v63)] [(0, .box [.p β0 (.slice (.slice (.int .i64))) d1, .p β1 (.slice (.int .u32)) d2]), (1, .box [.nils, .nils]), (2, .box [.sl 3, .sl 4]), (3, .arr 23 (.slice (.int .i64)) v45), (4, .arr 37 (.int .u32) v46), (5, .arr 3 (.int .i64) v60), (6, .arr 3 (.int .i64) v61), (7, .arr 3 (.int .i64) v62)] 8) (Q := (postX Try.f23.ntmps 4 (fun ((v64, v65, v66) : (List Int) × (List Int) × List Int) => mkSt [(1, .p β2 (.slice (.int .i64)) i1), (2, .adr 0 0 2 0), (4, .adr 1 0 2 0), (5, .adr 2 0 2 0), (6, .sl 5), (8, .sl 6), (9, .p false (.int .i64) v49), (10, .sl 7)] [(0, .box [.p β0 (.slice (.slice (.int .i64))) d1, .p β1 (.slice (.int .u32)) d2]), (1, .box [.nils, .nils]), (2, .box [.sl 3, .sl 4]), (3, .arr 23 (.slice (.int .i64)) v45), (4, .arr 37 (.int .u32) v46), (5, .arr 3 (.int .i64) v64), (6, .arr 3 (.int .i64) v65), (7, .arr 3 (.int .i64) v66)] 8))) hp13 (goal_le (gs := [.nilS 10 7 3 (.int .i64)]) (f := [0, 1, 2, 3, 4, 5, 6, 7]) (by kernel_rfl) (by kernel_rfl)) (fun y o ho => ?_)) (fun e σ' hq => ?_)
        · obtain ⟨v60, v61, v62, v63⟩ := y
          replace h := ho
          clear ho hp13
          unfold least_number_L2 at h
          refine W_seq ?_
          refine W_reg tbok ⟨[], []⟩ [] [0, 1, 2, 3, 4, 5, 6, 7] [(1, .p β2 (.slice (.int .i64)) i1), (2, .adr 0 0 2 0), (4, .adr 1 0 2 0), (5, .adr 2 0 2 0), (6, .sl 5), (8, .sl 6), (9, .p false (.int .i64) v49), (10, .sl 7), (45, .p β0 (.slice (.int .i64)) (d1.getD ((v48.getD v49.toNat (0 : Int)).toNat) ([] : List Int))), (46, .p false (.int .i64) ((d1.getD ((v48.getD v49.toNat (0 : Int)).toNat) ([] : List Int)).length : Int)), (47, .p false (.int .i64) v63), (48, .p false .bool (decide (v63 < ((d1.getD ((v48.getD v49.toNat (0 : Int)).toNat) ([] : List Int)).length : Int))))] [(0, .box [.p β0 (.slice (.slice (.int .i64))) d1, .p β1 (.slice (.int .u32)) d2]), (1, .box [.nils, .nils]), (2, .box [.sl 3, .sl 4]), (3, .arr 23 (.slice (.int .i64)) v45), (4, .arr 37 (.int .u32) v46), (5, .arr 3 (.int .i64) v60), (6, .arr 3 (.int .i64) v61), (7, .arr 3 (.int .i64) v62)] 8 0 [True] (by kernel_rfl) (by kernel_rfl) ⟨trivial, trivial⟩ ?_
          refine to_then ?_
          refine W_seq ?_
          refine W_cond (b := (decide (v63 < ((d1.getD ((v48.getD v49.toNat (0 : Int)).toNat) ([] : List Int)).length : Int)))) (β := false) (by kernel_rfl) (fun hb31 => ?_) (fun hb31 => ?_)
          · replace h := h_if hb31 h
            refine W_skip_to ?_
            refine to_then ?_
            refine W_seq ?_
            refine W_block ?_
            refine W_seq ?_
            obtain ⟨c316, h⟩ := h_guard h
            refine W_reg tbok ⟨[], []⟩ [] [0, 1, 2, 3, 4, 5, 6, 7] [(1, .p β2 (.slice (.int .i64)) i1), (2, .adr 0 0 2 0), (4, .adr 1 0 2 0), (5, .adr 2 0 2 0), (6, .sl 5), (8, .sl 6), (9, .p false (.int .i64) v49), (10, .sl 7), (12, .p false (.int .i64) ((d1.getD ((v48.getD v49.toNat (0 : Int)).toNat) ([] : List Int)).getD v63.toNat (0 : Int))), (45, .p β0 (.slice (.int .i64)) (d1.getD ((v48.getD v49.toNat (0 : Int)).toNat) ([] : List Int))), (46, .p false (.int .i64) ((d1.getD ((v48.getD v49.toNat (0 : Int)).toNat) ([] : List Int)).length : Int)), (47, .p false (.int .i64) v63)] [(0, .box [.p β0 (.slice (.slice (.int .i64))) d1, .p β1 (.slice (.int .u32)) d2]), (1, .box [.nils, .nils]), (2, .box [.sl 3, .sl 4]), (3, .arr 23 (.slice (.int .i64)) v45), (4, .arr 37 (.int .u32) v46), (5, .arr 3 (.int .i64) v60), (6, .arr 3 (.int .i64) v61), (7, .arr 3 (.int .i64) v62)] 8 0 [0 ≤ v63 ∧ v63 < ((d1.getD ((v48.getD v49.toNat (0 : Int)).toNat) ([] : List Int)).length : Int), True, True] (by kernel_rfl) (by kernel_rfl) ⟨c316, trivial, trivial, trivial⟩ ?_
            refine to_then ?_
            refine W_seq ?_
            refine W_seq ?_
            obtain ⟨c320, h⟩ := h_guard h
            obtain ⟨c321, h⟩ := h_guard h
            obtain ⟨c322, h⟩ := h_guard h
            refine W_reg tbok ⟨[], []⟩ [] [0, 1, 2, 3, 4, 5, 6, 7] [(1, .p β2 (.slice (.int .i64)) i1), (2, .adr 0 0 2 0), (4, .adr 1 0 2 0), (5, .adr 2 0 2 0), (6, .sl 5), (8, .sl 6), (9, .p false (.int .i64) v49), (10, .sl 7), (12, .p false (.int .i64) ((d1.getD ((v48.getD v49.toNat (0 : Int)).toNat) ([] : List Int)).getD v63.toNat (0 : Int))), (45, .p β0 (.slice (.int .i64)) (d1.getD ((v48.getD v49.toNat (0 : Int)).toNat) ([] : List Int))), (46, .p false (.int .i64) ((d1.getD ((v48.getD v49.toNat (0 : Int)).toNat) ([] : List Int)).length : Int)), (47, .p false (.int .i64) v63), (58, .p false .bool (decide ((v60.getD ((i1.getD (((d1.getD ((v48.getD v49.toNat (0 : Int)).toNat) ([] : List Int)).getD v63.toNat (0 : Int)).toNat) (0 : Int)).toNat) (0 : Int)) < (0 : Int))))] [(0, .box [.p β0 (.slice (.slice (.int .i64))) d1, .p β1 (.slice (.int .u32)) d2]), (1, .box [.nils, .nils]), (2, .box [.sl 3, .sl 4]), (3, .arr 23 (.slice (.int .i64)) v45), (4, .arr 37 (.int .u32) v46), (5, .arr 3 (.int .i64) v60), (6, .arr 3 (.int .i64) v61), (7, .arr 3 (.int .i64) v62)] 8 0 [True, True, True, 0 ≤ ((d1.getD ((v48.getD v49.toNat (0 : Int)).toNat) ([] : List Int)).getD v63.toNat (0 : Int)) ∧ ((d1.getD ((v48.getD v49.toNat (0 : Int)).toNat) ([] : List Int)).getD v63.toNat (0 : Int)) < (i1.length : Int), True, 0 ≤ (i1.getD (((d1.getD ((v48.getD v49.toNat (0 : Int)).toNat) ([] : List Int)).getD v63.toNat (0 : Int)).toNat) (0 : Int)) ∧ (i1.getD (((d1.getD ((v48.getD v49.toNat (0 : Int)).toNat) ([] : List Int)).getD v63.toNat (0 : Int)).toNat) (0 : Int)) < (v60.length : Int), (i1.getD (((d1.getD ((v48.getD v49.toNat (0 : Int)).toNat) ([] : List Int)).getD v63.toNat (0 : Int)).toNat) (0 : Int)).toNat < v60.length, True] (by kernel_rfl) (by kernel_rfl) ⟨trivial, trivial, trivial, c320, trivial, c321, c322, trivial, trivial⟩ ?_
            refine to_then ?_
            obtain ⟨r13, hp12, h⟩ := h_bind h
            refine W.mono (Q := (postN Try.f23.ntmps (fun ((v67, v68) : (List Int) × List Int) => mkSt [(1, .p β2 (.slice (.int .i64)) i1), (2, .adr 0 0 2 0), (4, .adr 1 0 2 0), (5, .adr 2 0 2 0), (6, .sl 5), (8, .sl 6), (9, .p false (.int .i64) v49), (10, .sl 7), (12, .p false (.int .i64) ((d1.getD ((v48.getD v49.toNat (0 : Int)).toNat) ([] : List Int)).getD v63.toNat (0 : Int))), (45, .p β0 (.slice (.int .i64)) (d1.getD ((v48.getD v49.toNat (0 : Int)).toNat) ([] : List Int))), (46, .p false (.int .i64) ((d1.getD ((v48.getD v49.toNat (0 : Int)).toNat) ([] : List Int)).length : Int)), (47, .p false (.int .i64) v63)] [(0, .box [.p β0 (.slice (.slice (.int .i64))) d1, .p β1 (.slice (.int .u32)) d2]), (1, .box [.nils, .nils]), (2, .box [.sl 3, .sl 4]), (3, .arr 23 (.slice (.int .i64)) v45), (4, .arr 37 (.int .u32) v46), (5, .arr 3 (.int .i64) v67), (6, .arr 3 (.int .i64) v68), (7, .arr 3 (.int .i64) v62)] 8)) r13) ?_ (fun e σ' hq => ?_)
            · replace h := hp12
              clear hp12
              refine W_cond (b := (decide ((v60.getD ((i1.getD (((d1.getD ((v48.getD v49.toNat (0 : Int)).toNat) ([] : List Int)).getD v63.toNat (0 : Int)).toNat) (0 : Int)).toNat) (0 : Int)) < (0 : Int)))) (β := false) (by kernel_rfl) (fun hb33 => ?_) (fun hb33 => ?_)
              · replace h := h_if hb33 h
                refine W_seq ?_
                obtain ⟨c334, h⟩ := h_guard h
                obtain ⟨c335, h⟩ := h_guard h
                obtain ⟨c336, h⟩ := h_guard h
                refine W_reg tbok ⟨[], []⟩ [] [0, 1, 2, 3, 4, 5, 6, 7] [(1, .p β2 (.slice (.int .i64)) i1), (2, .adr 0 0 2 0), (4, .adr 1 0 2 0), (5, .adr 2 0 2 0), (6, .sl 5), (8, .sl 6), (9, .p false (.int .i64) v49), (10, .sl 7), (12, .p false (.int .i64) ((d1.getD ((v48.getD v49.toNat (0 : Int)).toNat) ([] : List Int)).getD v63.toNat (0 : Int))), (45, .p β0 (.slice (.int .i64)) (d1.getD ((v48.getD v49.toNat (0 : Int)).toNat) ([] : List Int))), (46, .p false (.int .i64) ((d1.getD ((v48.getD v49.toNat (0 : Int)).toNat) ([] : List Int)).length : Int)), (47, .p false (.int .i64) v63)] [(0, .box [.p β0 (.slice (.slice (.int .i64))) d1, .p β1 (.slice (.int .u32)) d2]), (1, .box [.nils, .nils]), (2, .box [.sl 3, .sl 4]), (3, .arr 23 (.slice (.int .i64)) v45), (4, .arr 37 (.int .u32) v46), (5, .arr 3 (.int .i64) (v60.set ((i1.getD (((d1.getD ((v48.getD v49.toNat (0 : Int)).toNat) ([] : List Int)).getD v63.toNat (0 : Int)).toNat) (0 : Int)).toNat) (v61.length : Int))), (6, .arr 3 (.int .i64) v61), (7, .arr 3 (.int .i64) v62)] 8 0 [True, True, True, 0 ≤ ((d1.getD ((v48.getD v49.toNat (0 : Int)).toNat) ([] : List Int)).getD v63.toNat (0 : Int)) ∧ ((d1.getD ((v48.getD v49.toNat (0 : Int)).toNat) ([] : List Int)).getD v63.toNat (0 : Int)) < (i1.length : Int), True, True, True, 0 ≤ (i1.getD (((d1.getD ((v48.getD v49.toNat (0 : Int)).toNat) ([] : List Int)).getD v63.toNat (0 : Int)).toNat) (0 : Int)) ∧ (i1.getD (((d1.getD ((v48.getD v49.toNat (0 : Int)).toNat) ([] : List Int)).getD v63.toNat (0 : Int)).toNat) (0 : Int)) < (v60.length : Int), (i1.getD (((d1.getD ((v48.getD v49.toNat (0 : Int)).toNat) ([] : List Int)).getD v63.toNat (0 : Int)).toNat) (0 : Int)).toNat < v60.length] (by kernel_rfl) (by kernel_rfl) ⟨trivial, trivial, trivial, c334, trivial, trivial, trivial, c335, c336, trivial⟩ ?_
                refine to_then ?_
                obtain ⟨c338, h⟩ := h_guard h
                refine W_reg tbok ⟨[], []⟩ [] [0, 1, 2, 3, 4, 5, 32, 7] [(1, .p β2 (.slice (.int .i64)) i1), (2, .adr 0 0 2 0), (4, .adr 1 0 2 0), (5, .adr 2 0 2 0), (6, .sl 5), (8, .sl 6), (9, .p false (.int .i64) v49), (10, .sl 7), (12, .p false (.int .i64) ((d1.getD ((v48.getD v49.toNat (0 : Int)).toNat) ([] : List Int)).getD v63.toNat (0 : Int))), (45, .p β0 (.slice (.int .i64)) (d1.getD ((v48.getD v49.toNat (0 : Int)).toNat) ([] : List Int))), (46, .p false (.int .i64) ((d1.getD ((v48.getD v49.toNat (0 : Int)).toNat) ([] : List Int)).length : Int)), (47, .p false (.int .i64) v63)] [(0, .box [.p β0 (.slice (.slice (.int .i64))) d1, .p β1 (.slice (.int .u32)) d2]), (1, .box [.nils, .nils]), (2, .box [.sl 3, .sl 4]), (3, .arr 23 (.slice (.int .i64)) v45), (4, .arr 37 (.int .u32) v46), (5, .arr 3 (.int .i64) (v60.set ((i1.getD (((d1.getD ((v48.getD v49.toNat (0 : Int)).toNat) ([] : List Int)).getD v63.toNat (0 : Int)).toNat) (0 : Int)).toNat) (v61.length : Int))), (6, .arr 3 (.int .i64) (v61 ++ ([((d1.getD ((v48.getD v49.toNat (0 : Int)).toNat) ([] : List Int)).getD v63.toNat (0 : Int))] : List Int))), (7, .arr 3 (.int .i64) v62)] 8 0 [True, True, True, (v61.length + ([((d1.getD ((v48.getD v49.toNat (0 : Int)).toNat) ([] : List Int)).getD v63.toNat (0 : Int))] : List Int).length) * 8 ≤ 140737488355328 ∧ v61.length + ([((d1.getD ((v48.getD v49.toNat (0 : Int)).toNat) ([] : List Int)).getD v63.toNat (0 : Int))] : List Int).length ≤ 9223372036854775807, True] (by kernel_rfl) (by kernel_rfl) ⟨trivial, trivial, trivial, c338, trivial, trivial⟩ ?_
                obtain rfl := Option.some.inj h
                exact postN_to (goal_le (gs := []) (f := [0, 1, 2, 3, 4, 5, 6, 7]) (by kernel_rfl) (by kernel_rfl))
              · replace h := h_else hb33 h
                refine W_skip_to ?_
                obtain rfl := Option.some.inj h
                exact postN_to (goal_le (gs := []) (f := [0, 1, 2, 3, 4, 5, 6, 7]) (by kernel_rfl) (by kernel_rfl))
            · clear hp12
              obtain ⟨v67, v68⟩ := r13
              obtain ⟨rfl, hle⟩ := hq
              refine use_to ?_ hle
              refine to_then ?_
              obtain ⟨c343, h⟩ := h_guard h
              obtain ⟨c344, h⟩ := h_guard h
              obtain ⟨c345, h⟩ := h_guard h
              obtain ⟨c346, h⟩ := h_guard h
              refine W_reg tbok ⟨[], []⟩ [] [0, 1, 2, 3, 4, 5, 6, 80] [(1, .p β2 (.slice (.int .i64)) i1), (2, .adr 0 0 2 0), (4, .adr 1 0 2 0), (5, .adr 2 0 2 0), (6, .sl 5), (8, .sl 6), (9, .p false (.int .i64) v49), (10, .sl 7), (45, .p β0 (.slice (.int .i64)) (d1.getD ((v48.getD v49.toNat (0 : Int)).toNat) ([] : List Int))), (46, .p false (.int .i64) ((d1.getD ((v48.getD v49.toNat (0 : Int)).toNat) ([] : List Int)).length : Int)), (47, .p false (.int .i64) v63)] [(0, .box [.p β0 (.slice (.slice (.int .i64))) d1, .p β1 (.slice (.int .u32)) d2]), (1, .box [.nils, .nils]), (2, .box [.sl 3, .sl 4]), (3, .arr 23 (.slice (.int .i64)) v45), (4, .arr 37 (.int .u32) v46), (5, .arr 3 (.int .i64) v67), (6, .arr 3 (.int .i64) v68), (7, .arr 3 (.int .i64) (v62 ++ ([(v67.getD ((i1.getD (((d1.getD ((v48.getD v49.toNat (0 : Int)).toNat) ([] : List Int)).getD v63.toNat (0 : Int)).toNat) (0 : Int)).toNat) (0 : Int))] : List Int)))] 8 0 [True, True, True, True, 0 ≤ ((d1.getD ((v48.getD v49.toNat (0 : Int)).toNat) ([] : List Int)).getD v63.toNat (0 : Int)) ∧ ((d1.getD ((v48.getD v49.toNat (0 : Int)).toNat) ([] : List Int)).getD v63.toNat (0 : Int)) < (i1.length : Int), True, 0 ≤ (i1.getD (((d1.getD ((v48.getD v49.toNat (0 : Int)).toNat) ([] : List Int)).getD v63.toNat (0 : Int)).toNat) (0 : Int)) ∧ (i1.getD (((d1.getD ((v48.getD v49.toNat (0 : Int)).toNat) ([] : List Int)).getD v63.toNat (0 : Int)).toNat) (0 : Int)) < (v67.length : Int), (i1.getD (((d1.getD ((v48.getD v49.toNat (0 : Int)).toNat) ([] : List Int)).getD v63.toNat (0 : Int)).toNat) (0 : Int)).toNat < v67.length, True, (v62.length + ([(v67.getD ((i1.getD (((d1.getD ((v48.getD v49.toNat (0 : Int)).toNat) ([] : List Int)).getD v63.toNat (0 : Int)).toNat) (0 : Int)).toNat) (0 : Int))] : List Int).length) * 8 ≤ 140737488355328 ∧ v62.length + ([(v67.getD ((i1.getD (((d1.getD ((v48.getD v49.toNat (0 : Int)).toNat) ([] : List Int)).getD v63.toNat (0 : Int)).toNat) (0 : Int)).toNat) (0 : Int))] : List Int).length ≤ 9223372036854775807, True] (by kernel_rfl) (by kernel_rfl) ⟨trivial, trivial, trivial, trivial, c343, trivial, c344, c345, trivial, c346, trivial, trivial⟩ ?_
              refine to_block ?_
              refine to_then ?_
              refine W_reg tbok ⟨[], []⟩ [] [0, 1, 2, 3, 4, 5, 6, 7] [(1, .p β2 (.slice (.int .i64)) i1), (2, .adr 0 0 2 0), (4, .adr 1 0 2 0), (5, .adr 2 0 2 0), (6, .sl 5), (8, .sl 6), (9, .p false (.int .i64) v49), (10, .sl 7), (45, .p β0 (.slice (.int .i64)) (d1.getD ((v48.getD v49.toNat (0 : Int)).toNat) ([] : List Int))), (46, .p false (.int .i64) ((d1.getD ((v48.getD v49.toNat (0 : Int)).toNat) ([] : List Int)).length : Int)), (47, .p false (.int .i64) (IntKind.i64.wrap (v63 + (1 : Int))))] [(0, .box [.p β0 (.slice (.slice (.int .i64))) d1, .p β1 (.slice (.int .u32)) d2]), (1, .box [.nils, .nils]), (2, .box [.sl 3, .sl 4]), (3, .arr 23 (.slice (.int .i64)) v45), (4, .arr 37 (.int .u32) v46), (5, .arr 3 (.int .i64) v67), (6, .arr 3 (.int .i64) v68), (7, .arr 3 (.int .i64) (v62 ++ ([(v67.getD ((i1.getD (((d1.getD ((v48.getD v49.toNat (0 : Int)).toNat) ([] : List Int)).getD v63.toNat (0 : Int)).toNat) (0 : Int)).toNat) (0 : Int))] : List Int)))] 8 0 [True, True] (by kernel_rfl) (by kernel_rfl) ⟨trivial, trivial, trivial⟩ ?_
              obtain rfl := Option.some.inj h
              exact roundB (goal_le (gs := []) (f := [0, 1, 2, 3, 4, 5, 6, 7]) (by kernel_rfl) (by kernel_rfl))
          · replace h := h_else hb31 h
            refine W_exit_to ?_
            refine thenE ?_
            obtain rfl := Option.some.inj h
            refine roundE ?_
            exact postX_to (goal_le (gs := []) (f := [0, 1, 2, 3, 4, 5, 6, 7]) (by kernel_rfl) (by kernel_rfl))
        · clear hp13
          obtain ⟨v64, v65, v66⟩ := r14
          obtain ⟨rfl, hle⟩ := hq
          refine use_to ?_ hle
          refine blockE_eq ?_
          refine to_then ?_
          obtain ⟨c352, h⟩ := h_guard h
          obtain ⟨c353, h⟩ := h_guard h
          obtain ⟨c354, h⟩ := h_guard h
          obtain ⟨c355, h⟩ := h_guard h
          obtain ⟨c356, h⟩ := h_guard h
          refine W_regD tbok mixed ⟨[], []⟩ [] [0, 1, 2, 40, 136, 5, 6] [(1, .p β2 (.slice (.int .i64)) i1), (2, .adr 0 0 2 0), (4, .adr 1 0 2 0), (5, .adr 2 0 2 0), (6, .sl 5), (8, .sl 6), (9, .p false (.int .i64) v49)] [(0, .box [.p β0 (.slice (.slice (.int .i64))) d1, .p β1 (.slice (.int .u32)) d2]), (1, .box [.nils, .nils]), (2, .box [.sl 3, .sl 4]), (3, .arr 23 (.slice (.int .i64)) (v45 ++ ([v66] : List (List Int)))), (4, .arr 37 (.int .u32) (v46 ++ ([(d2.getD ((v65.getD v49.toNat (0 : Int)).toNat) (0 : Int))] : List Int))), (5, .arr 3 (.int .i64) v64), (6, .arr 3 (.int .i64) v65)] 7 0 [True, True, True, True, (v45.length + ([v66] : List (List Int)).length) * 24 ≤ 140737488355328 ∧ v45.length + ([v66] : List (List Int)).length ≤ 9223372036854775807, True, True, True, True, True, True, 0 ≤ v49 ∧ v49 < (v65.length : Int), v49.toNat < v65.length, 0 ≤ (v65.getD v49.toNat (0 : Int)) ∧ (v65.getD v49.toNat (0 : Int)) < (d2.length : Int), True, True, (v46.length + ([(d2.getD ((v65.getD v49.toNat (0 : Int)).toNat) (0 : Int))] : List Int).length) * 4 ≤ 140737488355328 ∧ v46.length + ([(d2.getD ((v65.getD v49.toNat (0 : Int)).toNat) (0 : Int))] : List Int).length ≤ 9223372036854775807, True, True, True, True] (by kernel_rfl) (by kernel_rfl) ⟨trivial, trivial, trivial, trivial, c352, trivial, trivial, trivial, trivial, trivial, trivial, c353, c354, c355, trivial, trivial, c356, trivial, trivial, trivial, trivial, trivial⟩ ?_
          refine to_block ?_
          refine to_then ?_
          refine W_reg tbok ⟨[], []⟩ [] [0, 1, 2, 3, 4, 5, 6] [(1, .p β2 (.slice (.int .i64)) i1), (2, .adr 0 0 2 0), (4, .adr 1 0 2 0), (5, .adr 2 0 2 0), (6, .sl 5), (8, .sl 6), (9, .p false (.int .i64) (IntKind.i64.wrap (v49 + (1 : Int))))] [(0, .box [.p β0 (.slice (.slice (.int .i64))) d1, .p β1 (.slice (.int .u32)) d2]), (1, .box [.nils, .nils]), (2, .box [.sl 3, .sl 4]), (3, .arr 23 (.slice (.int .i64)) (v45 ++ ([v66] : List (List Int)))), (4, .arr 37 (.int .u32) (v46 ++ ([(d2.getD ((v65.getD v49.toNat (0 : Int)).toNat) (0 : Int))] : List Int))), (5, .arr 3 (.int .i64) v64), (6, .arr 3 (.int .i64) v65)] 7 0 [True, True, True] (by kernel_rfl) (by kernel_rfl) ⟨trivial, trivial, trivial, trivial⟩ ?_
          obtain rfl := Option.some.inj h
          exact roundB (goal_le (gs := []) (f := [0, 1, 2, 3, 4, 5, 6]) (by kernel_rfl) (by kernel_rfl))
      · replace h := h_else hb24 h
        refine W_exit_to ?_
        refine thenE ?_
        obtain rfl := Option.some.inj h
        refine roundE ?_
        exact postX_to (goal_le (gs := []) (f := [1, 2, 3, 4]) (by kernel_rfl) (by kernel_rfl))
    · clear hp14
      obtain ⟨v50, v51⟩ := r15
      obtain ⟨rfl, hle⟩ := hq
      refine use_to ?_ hle
      refine blockE_eq ?_
      refine to_then ?_
      refine W_seq ?_
      refine W_reg tbok ⟨[], []⟩ [] [0, 2, 3] [(4, .adr 0 0 2 0)] [(0, .box [.sl 1, .sl 2]), (1, .arr 23 (.slice (.int .i64)) v50), (2, .arr 37 (.int .u32) v51)] 3 0 [True, True] (by kernel_rfl) (by kernel_rfl) ⟨trivial, trivial, trivial⟩ ?_
      refine to_then ?_
      refine W_ret ?_
      obtain rfl := Option.some.inj h
      exact Ret_intro [(.prod (.slice (.slice (.int .i64))) (.slice (.int .u32)))] (by kernel_rfl)

/-- a loop of 'stanza/least.Make': one round -/
def least_Make_L1 (a1 : List (List Int)) (a2 : List Int) : (List Int) → Option ((List Int) ⊕ (List Int)) := fun (kind2 : List Int) =>
  ((least_split_v1 (kind2.length : Int) kind2 a1 a2).bind fun (r18 : List Int) =>
  ((least_most r18).bind fun (r21 : Int) =>
  ((least_most kind2).bind fun (r22 : Int) =>
  (if (r21 == r22) = true then some (Sum.inr kind2)
  else some (Sum.inl r18)))))

/-- 'stanza/least.Make' -/
def least_Make (a1 : List (List Int)) (a2 : List Int) : Option (((List (List Int)) × List Int) × Int) :=
  ((least_Check a1 a2).bind fun (r2 : Bool) =>
  (if (!r2) = true then some ((([] : List (List Int)), ([] : List Int)), (2 : Int))
  else ((least_split (a2.length : Int) a1 a2).bind fun (r4 : List Int) =>
  ((iter (least_Make_L1 a1 a2) r4).bind fun (kind3 : List Int) => ((least_number a1 a2 kind3).bind fun (r24 : (List (List Int)) × List Int) =>
  some ((r24.1, r24.2), (0 : Int)))))))

set_option maxRecDepth 100000 in
set_option maxHeartbeats 4000000 in
theorem least_Make_ok (β0 β1 : Bool) (a1 : List (List Int)) (a2 : List Int) (res : ((List (List Int)) × List Int) × Int) (h : least_Make a1 a2 = some res) :
    Pure Try.prog 12 [.agg [.p β0 (.slice (.slice (.int .i64))) a1, .p β1 (.slice (.int .u32)) a2]] (wrapR (encs false [⟨(.prod (.slice (.slice (.int .i64))) (.slice (.int .u32))), res.1⟩, ⟨(.int .i64), res.2⟩])) := by
  refine Pure.of_body tbok Try.func12 (by kernel_rfl) rfl (Nat.le_of_ble_eq_true rfl) (fun Bw w0 => ?_) rfl
  unfold least_Make at h
  refine W_seq ?_
  refine W_reg tbok ⟨[], []⟩ [] [0, 8] [(1, .adr 0 0 2 0), (2, .adr 1 0 2 0)] [(0, .box [.p β0 (.slice (.slice (.int .i64))) a1, .p β1 (.slice (.int .u32)) a2]), (1, .box [.nils, .nils])] 2 0 [True, True, True] (by kernel_rfl) (by kernel_rfl) ⟨trivial, trivial, trivial, trivial⟩ ?_
  refine to_then ?_
  refine W_seq ?_
  refine W_seq ?_
  obtain ⟨r2, q2, h⟩ := h_bind h
  refine W_reg tbok ⟨[], [(1, ⟨.p false .bool r2, [false], false, [true], [], []⟩)]⟩ [] [0, 1] [(1, .adr 0 0 2 0), (2, .adr 1 0 2 0), (8, .p false .bool (!r2))] [(0, .box [.p β0 (.slice (.slice (.int .i64))) a1, .p β1 (.slice (.int .u32)) a2]), (1, .box [.nils, .nils])] 2 0 [True, Pure Try.prog 10 [.agg [.p β0 (.slice (.slice (.int .i64))) a1, .p β1 (.slice (.int .u32)) a2]] (.p false .bool r2), True] (by kernel_rfl) (by kernel_rfl) ⟨trivial, (least_Check_ok β0 β1 a1 a2 _ q2), trivial, trivial⟩ ?_
  refine to_then ?_
  refine W_cond (b := (!r2)) (β := false) (by kernel_rfl) (fun hb1 => ?_) (fun hb1 => ?_)
  · replace h := h_if hb1 h
    refine W_seq ?_
    refine W_reg tbok ⟨[], []⟩ [] [1] [(2, .adr 0 0 2 0), (3, .p false (.int .i64) (2 : Int))] [(0, .box [.nils, .nils])] 1 0 [True, True, True] (by kernel_rfl) (by kernel_rfl) ⟨trivial, trivial, trivial, trivial⟩ ?_
    refine to_then ?_
    refine W_ret ?_
    refine thenQ_ret ?_
    obtain rfl := Option.some.inj h
    exact Ret_intro [(.prod (.slice (.slice (.int .i64))) (.slice (.int .u32))), (.int .i64)] (by kernel_rfl)
  · replace h := h_else hb1 h
    refine W_skip_to ?_
    refine to_then ?_
    refine W_seq ?_
    obtain ⟨r4, q4, h⟩ := h_bind h
    refine W_reg tbok ⟨[], [(4, ⟨.p false (.slice (.int .i64)) r4, [false, false], false, [true, true], [], []⟩)]⟩ [] [0, 1, 42] [(1, .adr 0 0 2 0), (2, .adr 1 0 2 0), (4, .adr 2 0 1 0)] [(0, .box [.p β0 (.slice (.slice (.int .i64))) a1, .p β1 (.slice (.int .u32)) a2]), (1, .box [.nils, .nils]), (2, .box [.p false (.slice (.int .i64)) r4])] 3 0 [True, True, True, True, Pure Try.prog 19 [.p false (.int .i64) (a2.length : Int), .fn 20 [.fad true [.p β0 (.slice (.slice (.int .i64))) a1, .p β1 (.slice (.int .u32)) a2] 0]] (.p false (.slice (.int .i64)) r4), True, True] (by kernel_rfl) (by kernel_rfl) ⟨trivial, trivial, trivial, trivial, (least_split_ok β0 β1 (a2.length : Int) a1 a2 _ q4), trivial, trivial, trivial⟩ ?_
    refine to_then ?_
    refine W_seq ?_
    refine W_block ?_
    obtain ⟨kind3, hp1, h⟩ := h_bind h
    refine W.mono (Q := (postX Try.f12.ntmps 0 (fun (kind3 : List Int) => mkSt [(1, .adr 0 0 2 0), (2, .adr 1 0 2 0), (4, .adr 2 0 1 0)] [(0, .box [.p β0 (.slice (.slice (.int .i64))) a1, .p β1 (.slice (.int .u32)) a2]), (1, .box [.nils, .nils]), (2, .box [.p false (.slice (.int .i64)) kind3])] 3)) kind3) (W_iter (f := fun (kind2 : List Int) => mkSt [(1, .adr 0 0 2 0), (2, .adr 1 0 2 0), (4, .adr 2 0 1 0)] [(0, .box [.p β0 (.slice (.slice (.int .i64))) a1, .p β1 (.slice (.int .u32)) a2]), (1, .box [.nils, .nils]), (2, .box [.p false (.slice (.int .i64)) kind2])] 3) (Q := (postX Try.f12.ntmps 0 (fun (kind3 : List Int) => mkSt [(1, .adr 0 0 2 0), (2, .adr 1 0 2 0), (4, .adr 2 0 1 0)] [(0, .box [.p β0 (.slice (.slice (.int .i64))) a1, .p β1 (.slice (.int .u32)) a2]), (1, .box [.nils, .nils]), (2, .box [.p false (.slice (.int .i64)) kind3])] 3))) hp1 (goal_le (gs := []) (f := [0, 1, 2]) (by kernel_rfl) (by kernel_rfl)) (fun kind2 o ho => ?_)) (fun e σ' hq => ?_)
    · replace h := ho
      clear ho hp1
      unfold least_Make_L1 at h
      refine W_block ?_
      refine W_seq ?_
      obtain ⟨r18, q18, h⟩ := h_bind h
      refine W_reg tbok ⟨[], [(3, ⟨.p false (.slice (.int .i64)) r18, [false, false], false, [true, true], [], []⟩)]⟩ [] [0, 1, 2] [(1, .adr 0 0 2 0), (2, .adr 1 0 2 0), (4, .adr 2 0 1 0), (5, .p false (.slice (.int .i64)) r18)] [(0, .box [.p β0 (.slice (.slice (.int .i64))) a1, .p β1 (.slice (.int .u32)) a2]), (1, .box [.nils, .nils]), (2, .box [.p false (.slice (.int .i64)) kind2])] 3 0 [True, True, True, Pure Try.prog 19 [.p false (.int .i64) (kind2.length : Int), .fn 21 [.fad true [.p false (.slice (.int .i64)) kind2] 0, .fad true [.p β0 (.slice (.slice (.int .i64))) a1, .p β1 (.slice (.int .u32)) a2] 0]] (.p false (.slice (.int .i64)) r18), True] (by kernel_rfl) (by kernel_rfl) ⟨trivial, trivial, trivial, (least_split_v1_ok false β0 β1 (kind2.length : Int) kind2 a1 a2 _ q18), trivial, trivial⟩ ?_
      refine to_then ?_
      refine W_seq ?_
      refine W_seq ?_
      obtain ⟨r21, q21, h⟩ := h_bind h
      obtain ⟨r22, q22, h⟩ := h_bind h
      refine W_regD tbok mixed ⟨[], [(1, ⟨.p false (.int .i64) r21, [false], false, [true], [], []⟩), (3, ⟨.p false (.int .i64) r22, [false], false, [true], [], []⟩)]⟩ [] [0, 1, 2] [(1, .adr 0 0 2 0), (2, .adr 1 0 2 0), (4, .adr 2 0 1 0), (5, .p false (.slice (.int .i64)) r18), (23, .p false .bool (r21 == r22))] [(0, .box [.p β0 (.slice (.slice (.int .i64))) a1, .p β1 (.slice (.int .u32)) a2]), (1, .box [.nils, .nils]), (2, .box [.p false (.slice (.int .i64)) kind2])] 3 0 [True, Pure Try.prog 22 [.p false (.slice (.int .i64)) r18] (.p false (.int .i64) r21), True, Pure Try.prog 22 [.p false (.slice (.int .i64)) kind2] (.p false (.int .i64) r22), True] (by kernel_rfl) (by kernel_rfl) ⟨trivial, (least_most_ok false r18 _ q21), trivial, (least_most_ok false kind2 _ q22), trivial, trivial⟩ ?_
      refine to_then ?_
      refine W_cond (b := (r21 == r22)) (β := false) (by kernel_rfl) (fun hb4 => ?_) (fun hb4 => ?_)
      · replace h := h_if hb4 h
        refine W_exit_to ?_
        refine thenE ?_
        refine blockE_ne rfl ?_
        obtain rfl := Option.some.inj h
        refine roundE ?_
        exact postX_to (goal_le (gs := []) (f := [0, 1, 2]) (by kernel_rfl) (by kernel_rfl))
      · replace h := h_else hb4 h
        refine W_skip_to ?_
        refine to_then ?_
        refine W_reg tbok ⟨[], []⟩ [] [0, 1, 2] [(1, .adr 0 0 2 0), (2, .adr 1 0 2 0), (4, .adr 2 0 1 0)] [(0, .box [.p β0 (.slice (.slice (.int .i64))) a1, .p β1 (.slice (.int .u32)) a2]), (1, .box [.nils, .nils]), (2, .box [.p false (.slice (.int .i64)) r18])] 3 0 [True, True] (by kernel_rfl) (by kernel_rfl) ⟨trivial, trivial, trivial⟩ ?_
        refine to_block ?_
        obtain rfl := Option.some.inj h
        exact roundB (goal_le (gs := []) (f := [0, 1, 2]) (by kernel_rfl) (by kernel_rfl))
    · clear hp1
      obtain ⟨rfl, hle⟩ := hq
      refine use_to ?_ hle
      refine blockE_eq ?_
      refine to_then ?_
      refine W_seq ?_
      obtain ⟨r24, q24, h⟩ := h_bind h
      refine W_reg tbok ⟨[], [(2, ⟨.agg [.p false (.slice (.slice (.int .i64))) r24.1, .p false (.slice (.int .u32)) r24.2], [false, false], false, [true, true], [], []⟩)]⟩ [] [1] [(2, .adr 0 0 2 0), (3, .p false (.int .i64) (0 : Int))] [(0, .box [.p false (.slice (.slice (.int .i64))) r24.1, .p false (.slice (.int .u32)) r24.2])] 1 0 [True, True, Pure Try.prog 23 [.agg [.p β0 (.slice (.slice (.int .i64))) a1, .p β1 (.slice (.int .u32)) a2], .p false (.slice (.int .i64)) kind3] (.agg [.p false (.slice (.slice (.int .i64))) r24.1, .p false (.slice (.int .u32)) r24.2]), True, True] (by kernel_rfl) (by kernel_rfl) ⟨trivial, trivial, (least_number_ok β0 β1 false a1 a2 kind3 _ q24), trivial, trivial, trivial⟩ ?_
      refine to_then ?_
      refine W_ret ?_
      obtain rfl := Option.some.inj h
      exact Ret_intro [(.prod (.slice (.slice (.int .i64))) (.slice (.int .u32))), (.int .i64)] (by kernel_rfl)

/-- 'stanza/stanzalaw05.Awake' -/
def stanzalaw05_Awake  : Option (Bool) :=
  ((least_Make ([([(1 : Int)] : List Int), ([(2 : Int)] : List Int), ([(1 : Int)] : List Int)] : List (List Int)) ([(0 : Int), (1 : Int), (1 : Int)] : List Int)).bind fun ((r3, r4) : ((List (List Int)) × List Int) × Int) =>
  ((least_Make ([] : List (List Int)) ([] : List Int)).bind fun ((r7, r8) : ((List (List Int)) × List Int) × Int) =>
  (((if (r4 == (0 : Int)) = true then (if (r8 == (2 : Int)) = true then (if ((r3.2.length : Int) == (2 : Int)) = true then (if 0 ≤ (0 : Int) ∧ (0 : Int) < (r3.1.length : Int) then (if 0 ≤ (0 : Int) ∧ (0 : Int) < ((r3.1.getD ((0 : Int).toNat) ([] : List Int)).length : Int) then (if (((r3.1.getD ((0 : Int).toNat) ([] : List Int)).getD ((0 : Int).toNat) (0 : Int)) == (1 : Int)) = true then (if 0 ≤ (1 : Int) ∧ (1 : Int) < (r3.1.length : Int) then (if 0 ≤ (0 : Int) ∧ (0 : Int) < ((r3.1.getD ((1 : Int).toNat) ([] : List Int)).length : Int) then some ((((r3.1.getD ((1 : Int).toNat) ([] : List Int)).getD ((0 : Int).toNat) (0 : Int)) == (1 : Int))) else none) else none)
  else some (false)) else none) else none)
  else some (false))
  else some (false))
  else some (false))).bind fun (v1 : Bool) => some v1)))

set_option maxRecDepth 100000 in
set_option maxHeartbeats 4000000 in
theorem stanzalaw05_Awake_ok  (res : Bool) (h : stanzalaw05_Awake = some res) :
    Pure Try.prog 8 [] (wrapR (encs false [⟨.bool, res⟩])) := by
  refine Pure.of_body tbok Try.func8 (by kernel_rfl) rfl (Nat.le_of_ble_eq_true rfl) (fun Bw w0 => ?_) rfl
  unfold stanzalaw05_Awake at h
  refine W_seq ?_
  refine W_reg tbok ⟨[], []⟩ [] [] [] [] 0 0 [True] (by kernel_rfl) (by kernel_rfl) ⟨trivial, trivial⟩ ?_
  refine to_then ?_
  refine W_seq ?_
  obtain ⟨⟨r3, r4⟩, q2, h⟩ := h_bind h
  refine W_reg tbok ⟨[], [(6, ⟨.tup [.agg [.p false (.slice (.slice (.int .i64))) r3.1, .p false (.slice (.int .u32)) r3.2], .p false (.int .i64) r4], [false], false, [true], [], []⟩)]⟩ [] [80] [(1, .adr 0 0 2 0), (2, .p false (.int .i64) r4)] [(0, .box [.p false (.slice (.slice (.int .i64))) r3.1, .p false (.slice (.int .u32)) r3.2])] 1 0 [True, True, True, True, True, True, Pure Try.prog 12 [.agg [.p true (.slice (.slice (.int .i64))) ([([(1 : Int)] : List Int), ([(2 : Int)] : List Int), ([(1 : Int)] : List Int)] : List (List Int)), .p true (.slice (.int .u32)) ([(0 : Int), (1 : Int), (1 : Int)] : List Int)]] (.tup [.agg [.p false (.slice (.slice (.int .i64))) r3.1, .p false (.slice (.int .u32)) r3.2], .p false (.int .i64) r4]), True, True, True, True, True, True] (by kernel_rfl) (by kernel_rfl) ⟨trivial, trivial, trivial, trivial, trivial, trivial, (least_Make_ok true true ([([(1 : Int)] : List Int), ([(2 : Int)] : List Int), ([(1 : Int)] : List Int)] : List (List Int)) ([(0 : Int), (1 : Int), (1 : Int)] : List Int) _ q2), trivial, trivial, trivial, trivial, trivial, trivial, trivial⟩ ?_
  refine to_then ?_
  refine W_seq ?_
  obtain ⟨⟨r7, r8⟩, q4, h⟩ := h_bind h
  refine W_reg tbok ⟨[], [(1, ⟨.tup [.agg [.p false (.slice (.slice (.int .i64))) r7.1, .p false (.slice (.int .u32)) r7.2], .p false (.int .i64) r8], [false], false, [true], [], []⟩)]⟩ [] [0] [(1, .adr 0 0 2 0), (2, .p false (.int .i64) r4), (4, .p false (.int .i64) r8)] [(0, .box [.p false (.slice (.slice (.int .i64))) r3.1, .p false (.slice (.int .u32)) r3.2])] 1 0 [True, Pure Try.prog 12 [.agg [.p false (.slice (.slice (.int .i64))) ([] : List (List Int)), .p false (.slice (.int .u32)) ([] : List Int)]] (.tup [.agg [.p false (.slice (.slice (.int .i64))) r7.1, .p false (.slice (.int .u32)) r7.2], .p false (.int .i64) r8]), True, True, True, True, True, True] (by kernel_rfl) (by kernel_rfl) ⟨trivial, (least_Make_ok false false ([] : List (List Int)) ([] : List Int) _ q4), trivial, trivial, trivial, trivial, trivial, trivial, trivial⟩ ?_
  refine to_then ?_
  refine W_seq ?_
  obtain ⟨v1, hp1, h⟩ := h_bind h
  refine W.mono (Q := (postN Try.f8.ntmps (fun (v1 : Bool) => mkSt [(0, .p false .bool v1)] [] 0)) v1) ?_ (fun e σ' hq => ?_)
  · replace h := hp1
    clear hp1
    rcases Bool.eq_false_or_eq_true (r4 == (0 : Int)) with hb9 | hb9
    · replace h := h_if hb9 h
      rcases Bool.eq_false_or_eq_true (r8 == (2 : Int)) with hb10 | hb10
      · replace h := h_if hb10 h
        rcases Bool.eq_false_or_eq_true ((r3.2.length : Int) == (2 : Int)) with hb11 | hb11
        · replace h := h_if hb11 h
          obtain ⟨c9, h⟩ := h_guard h
          obtain ⟨c10, h⟩ := h_guard h
          rcases Bool.eq_false_or_eq_true (((r3.1.getD ((0 : Int).toNat) ([] : List Int)).getD ((0 : Int).toNat) (0 : Int)) == (1 : Int)) with hb12 | hb12
          · replace h := h_if hb12 h
            obtain ⟨c11, h⟩ := h_guard h
            obtain ⟨c12, h⟩ := h_guard h
            refine W_reg tbok ⟨[(2, true), (5, true), (6, true), (11, true), (12, true), (20, true), (21, true), (29, true)], []⟩ [] [] [(0, .p false .bool (((r3.1.getD ((1 : Int).toNat) ([] : List Int)).getD ((0 : Int).toNat) (0 : Int)) == (1 : Int)))] [] 0 0 [True, True, True, (r4 == (0 : Int)) = true ∧ True, (r4 == (0 : Int)) = true ∧ True, (r4 == (0 : Int)) = true, True, (r8 == (2 : Int)) = true ∧ True, (r8 == (2 : Int)) = true ∧ True, (r8 == (2 : Int)) = true ∧ True, (r8 == (2 : Int)) = true ∧ True, (r8 == (2 : Int)) = true, True, ((r3.2.length : Int) == (2 : Int)) = true ∧ True, ((r3.2.length : Int) == (2 : Int)) = true ∧ True, ((r3.2.length : Int) == (2 : Int)) = true ∧ 0 ≤ (0 : Int) ∧ (0 : Int) < (r3.1.length : Int), ((r3.2.length : Int) == (2 : Int)) = true ∧ True, ((r3.2.length : Int) == (2 : Int)) = true ∧ 0 ≤ (0 : Int) ∧ (0 : Int) < ((r3.1.getD ((0 : Int).toNat) ([] : List Int)).length : Int), ((r3.2.length : Int) == (2 : Int)) = true ∧ True, ((r3.2.length : Int) == (2 : Int)) = true ∧ True, ((r3.2.length : Int) == (2 : Int)) = true, True, (((r3.1.getD ((0 : Int).toNat) ([] : List Int)).getD ((0 : Int).toNat) (0 : Int)) == (1 : Int)) = true ∧ True, (((r3.1.getD ((0 : Int).toNat) ([] : List Int)).getD ((0 : Int).toNat) (0 : Int)) == (1 : Int)) = true ∧ True, (((r3.1.getD ((0 : Int).toNat) ([] : List Int)).getD ((0 : Int).toNat) (0 : Int)) == (1 : Int)) = true ∧ 0 ≤ (1 : Int) ∧ (1 : Int) < (r3.1.length : Int), (((r3.1.getD ((0 : Int).toNat) ([] : List Int)).getD ((0 : Int).toNat) (0 : Int)) == (1 : Int)) = true ∧ True, (((r3.1.getD ((0 : Int).toNat) ([] : List Int)).getD ((0 : Int).toNat) (0 : Int)) == (1 : Int)) = true ∧ 0 ≤ (0 : Int) ∧ (0 : Int) < ((r3.1.getD ((1 : Int).toNat) ([] : List Int)).length : Int), (((r3.1.getD ((0 : Int).toNat) ([] : List Int)).getD ((0 : Int).toNat) (0 : Int)) == (1 : Int)) = true ∧ True, (((r3.1.getD ((0 : Int).toNat) ([] : List Int)).getD ((0 : Int).toNat) (0 : Int)) == (1 : Int)) = true ∧ True, (((r3.1.getD ((0 : Int).toNat) ([] : List Int)).getD ((0 : Int).toNat) (0 : Int)) == (1 : Int)) = true, True] (by kernel_rfl) (by kernel_rfl) ⟨trivial, trivial, trivial, ⟨hb9, trivial⟩, ⟨hb9, trivial⟩, hb9, trivial, ⟨hb10, trivial⟩, ⟨hb10, trivial⟩, ⟨hb10, trivial⟩, ⟨hb10, trivial⟩, hb10, trivial, ⟨hb11, trivial⟩, ⟨hb11, trivial⟩, ⟨hb11, c9⟩, ⟨hb11, trivial⟩, ⟨hb11, c10⟩, ⟨hb11, trivial⟩, ⟨hb11, trivial⟩, hb11, trivial, ⟨hb12, trivial⟩, ⟨hb12, trivial⟩, ⟨hb12, c11⟩, ⟨hb12, trivial⟩, ⟨hb12, c12⟩, ⟨hb12, trivial⟩, ⟨hb12, trivial⟩, hb12, trivial, trivial⟩ ?_
            obtain rfl := Option.some.inj h
            exact postN_to (goal_le (gs := []) (f := []) (by kernel_rfl) (by kernel_rfl))
          · replace h := h_else hb12 h
            refine W_reg tbok ⟨[(2, true), (5, true), (6, true), (11, true), (12, true), (20, true), (21, false), (29, false)], []⟩ [] [] [(0, .p false .bool false)] [] 0 0 [True, True, True, (r4 == (0 : Int)) = true ∧ True, (r4 == (0 : Int)) = true ∧ True, (r4 == (0 : Int)) = true, True, (r8 == (2 : Int)) = true ∧ True, (r8 == (2 : Int)) = true ∧ True, (r8 == (2 : Int)) = true ∧ True, (r8 == (2 : Int)) = true ∧ True, (r8 == (2 : Int)) = true, True, ((r3.2.length : Int) == (2 : Int)) = true ∧ True, ((r3.2.length : Int) == (2 : Int)) = true ∧ True, ((r3.2.length : Int) == (2 : Int)) = true ∧ 0 ≤ (0 : Int) ∧ (0 : Int) < (r3.1.length : Int), ((r3.2.length : Int) == (2 : Int)) = true ∧ True, ((r3.2.length : Int) == (2 : Int)) = true ∧ 0 ≤ (0 : Int) ∧ (0 : Int) < ((r3.1.getD ((0 : Int).toNat) ([] : List Int)).length : Int), ((r3.2.length : Int) == (2 : Int)) = true ∧ True, ((r3.2.length : Int) == (2 : Int)) = true ∧ True, ((r3.2.length : Int) == (2 : Int)) = true, True, (((r3.1.getD ((0 : Int).toNat) ([] : List Int)).getD ((0 : Int).toNat) (0 : Int)) == (1 : Int)) = false, (((r3.1.getD ((0 : Int).toNat) ([] : List Int)).getD ((0 : Int).toNat) (0 : Int)) == (1 : Int)) = false, (((r3.1.getD ((0 : Int).toNat) ([] : List Int)).getD ((0 : Int).toNat) (0 : Int)) == (1 : Int)) = false, (((r3.1.getD ((0 : Int).toNat) ([] : List Int)).getD ((0 : Int).toNat) (0 : Int)) == (1 : Int)) = false, (((r3.1.getD ((0 : Int).toNat) ([] : List Int)).getD ((0 : Int).toNat) (0 : Int)) == (1 : Int)) = false, (((r3.1.getD ((0 : Int).toNat) ([] : List Int)).getD ((0 : Int).toNat) (0 : Int)) == (1 : Int)) = false, (((r3.1.getD ((0 : Int).toNat) ([] : List Int)).getD ((0 : Int).toNat) (0 : Int)) == (1 : Int)) = false, (((r3.1.getD ((0 : Int).toNat) ([] : List Int)).getD ((0 : Int).toNat) (0 : Int)) == (1 : Int)) = false, True] (by kernel_rfl) (by kernel_rfl) ⟨trivial, trivial, trivial, ⟨hb9, trivial⟩, ⟨hb9, trivial⟩, hb9, trivial, ⟨hb10, trivial⟩, ⟨hb10, trivial⟩, ⟨hb10, trivial⟩, ⟨hb10, trivial⟩, hb10, trivial, ⟨hb11, trivial⟩, ⟨hb11, trivial⟩, ⟨hb11, c9⟩, ⟨hb11, trivial⟩, ⟨hb11, c10⟩, ⟨hb11, trivial⟩, ⟨hb11, trivial⟩, hb11, trivial, hb12, hb12, hb12, hb12, hb12, hb12, hb12, hb12, trivial, trivial⟩ ?_
            obtain rfl := Option.some.inj h
            exact postN_to (goal_le (gs := []) (f := []) (by kernel_rfl) (by kernel_rfl))
        · replace h := h_else hb11 h
          refine W_reg tbok ⟨[(2, true), (5, true), (6, true), (11, true), (12, false), (20, false), (21, false), (29, false)], []⟩ [] [] [(0, .p false .bool false)] [] 0 0 [True, True, True, (r4 == (0 : Int)) = true ∧ True, (r4 == (0 : Int)) = true ∧ True, (r4 == (0 : Int)) = true, True, (r8 == (2 : Int)) = true ∧ True, (r8 == (2 : Int)) = true ∧ True, (r8 == (2 : Int)) = true ∧ True, (r8 == (2 : Int)) = true ∧ True, (r8 == (2 : Int)) = true, True, ((r3.2.length : Int) == (2 : Int)) = false, ((r3.2.length : Int) == (2 : Int)) = false, ((r3.2.length : Int) == (2 : Int)) = false, ((r3.2.length : Int) == (2 : Int)) = false, ((r3.2.length : Int) == (2 : Int)) = false, ((r3.2.length : Int) == (2 : Int)) = false, ((r3.2.length : Int) == (2 : Int)) = false, ((r3.2.length : Int) == (2 : Int)) = false, True, false = false, false = false, false = false, false = false, false = false, false = false, false = false, false = false, True] (by kernel_rfl) (by kernel_rfl) ⟨trivial, trivial, trivial, ⟨hb9, trivial⟩, ⟨hb9, trivial⟩, hb9, trivial, ⟨hb10, trivial⟩, ⟨hb10, trivial⟩, ⟨hb10, trivial⟩, ⟨hb10, trivial⟩, hb10, trivial, hb11, hb11, hb11, hb11, hb11, hb11, hb11, hb11, trivial, rfl, rfl, rfl, rfl, rfl, rfl, rfl, rfl, trivial, trivial⟩ ?_
          obtain rfl := Option.some.inj h
          exact postN_to (goal_le (gs := []) (f := []) (by kernel_rfl) (by kernel_rfl))
      · replace h := h_else hb10 h
        refine W_reg tbok ⟨[(2, true), (5, true), (6, false), (11, false), (12, false), (20, false), (21, false), (29, false)], []⟩ [] [] [(0, .p false .bool false)] [] 0 0 [True, True, True, (r4 == (0 : Int)) = true ∧ True, (r4 == (0 : Int)) = true ∧ True, (r4 == (0 : Int)) = true, True, (r8 == (2 : Int)) = false, (r8 == (2 : Int)) = false, (r8 == (2 : Int)) = false, (r8 == (2 : Int)) = false, (r8 == (2 : Int)) = false, True, false = false, false = false, false = false, false = false, false = false, false = false, false = false, false = false, True, false = false, false = false, false = false, false = false, false = false, false = false, false = false, false = false, True] (by kernel_rfl) (by kernel_rfl) ⟨trivial, trivial, trivial, ⟨hb9, trivial⟩, ⟨hb9, trivial⟩, hb9, trivial, hb10, hb10, hb10, hb10, hb10, trivial, rfl, rfl, rfl, rfl, rfl, rfl, rfl, rfl, trivial, rfl, rfl, rfl, rfl, rfl, rfl, rfl, rfl, trivial, trivial⟩ ?_
        obtain rfl := Option.some.inj h
        exact postN_to (goal_le (gs := []) (f := []) (by kernel_rfl) (by kernel_rfl))
    · replace h := h_else hb9 h
      refine W_reg tbok ⟨[(2, false), (5, false), (6, false), (11, false), (12, false), (20, false), (21, false), (29, false)], []⟩ [] [] [(0, .p false .bool false)] [] 0 0 [True, True, True, (r4 == (0 : Int)) = false, (r4 == (0 : Int)) = false, (r4 == (0 : Int)) = false, True, false = false, false = false, false = false, false = false, false = false, True, false = false, false = false, false = false, false = false, false = false, false = false, false = false, false = false, True, false = false, false = false, false = false, false = false, false = false, false = false, false = false, false = false, True] (by kernel_rfl) (by kernel_rfl) ⟨trivial, trivial, trivial, hb9, hb9, hb9, trivial, rfl, rfl, rfl, rfl, rfl, trivial, rfl, rfl, rfl, rfl, rfl, rfl, rfl, rfl, trivial, rfl, rfl, rfl, rfl, rfl, rfl, rfl, rfl, trivial, trivial⟩ ?_
      obtain rfl := Option.some.inj h
      exact postN_to (goal_le (gs := []) (f := []) (by kernel_rfl) (by kernel_rfl))
  · clear hp1
    obtain ⟨rfl, hle⟩ := hq
    refine use_to ?_ hle
    refine to_then ?_
    refine W_ret ?_
    obtain rfl := Option.some.inj h
    exact Ret_intro [.bool] (by kernel_rfl)

/-- a loop of 'stanza/stanzaref01.SameInts': one round -/
def stanzaref01_SameInts_L1 (a1 : List Int) (b1 : List Int) : (Int) → Option ((Int) ⊕ ((Unit) ⊕ (Bool))) := fun (i2 : Int) =>
  (if (decide (i2 < (a1.length : Int))) = true then (if 0 ≤ i2 ∧ i2 < (a1.length : Int) then (if 0 ≤ i2 ∧ i2 < (b1.length : Int) then (if ((a1.getD i2.toNat (0 : Int)) != (b1.getD i2.toNat (0 : Int))) = true then some (Sum.inr (Sum.inr false))
  else some (Sum.inl (IntKind.i64.wrap (i2 + (1 : Int))))) else none) else none)
  else some (Sum.inr (Sum.inl ())))

/-- 'stanza/stanzaref01.SameInts' -/
def stanzaref01_SameInts (a1 : List Int) (b1 : List Int) : Option (Bool) :=
  (if ((a1.length : Int) != (b1.length : Int)) = true then some false
  else ((iter (stanzaref01_SameInts_L1 a1 b1) (0 : Int)).bind fun (r2 : ((Unit) ⊕ (Bool))) => match r2 with
  | .inl _ => some true
  | .inr (r1) => some r1))

set_option maxRecDepth 100000 in
set_option maxHeartbeats 4000000 in
theorem stanzaref01_SameInts_ok (β0 β1 : Bool) (a1 : List Int) (b1 : List Int) (res : Bool) (h : stanzaref01_SameInts a1 b1 = some res) :
    Pure Try.prog 16 [.p β0 (.slice (.int .i64)) a1, .p β1 (.slice (.int .i64)) b1] (wrapR (encs false [⟨.bool, res⟩])) := by
  refine Pure.of_body tbok Try.func16 (by kernel_rfl) rfl (Nat.le_of_ble_eq_true rfl) (fun Bw w0 => ?_) rfl
  unfold stanzaref01_SameInts at h
  refine W_seq ?_
  refine W_reg tbok ⟨[], []⟩ [] [] [(0, .p β0 (.slice (.int .i64)) a1), (1, .p β1 (.slice (.int .i64)) b1)] [] 0 0 [True] (by kernel_rfl) (by kernel_rfl) ⟨trivial, trivial⟩ ?_
  refine to_then ?_
  refine W_seq ?_
  refine W_seq ?_
  refine W_reg tbok ⟨[], []⟩ [] [] [(0, .p β0 (.slice (.int .i64)) a1), (1, .p β1 (.slice (.int .i64)) b1), (10, .p false .bool ((a1.length : Int) != (b1.length : Int)))] [] 0 0 [True, True, True, True, True] (by kernel_rfl) (by kernel_rfl) ⟨trivial, trivial, trivial, trivial, trivial, trivial⟩ ?_
  refine to_then ?_
  refine W_cond (b := ((a1.length : Int) != (b1.length : Int))) (β := false) (by kernel_rfl) (fun hb1 => ?_) (fun hb1 => ?_)
  · replace h := h_if hb1 h
    refine W_seq ?_
    refine W_reg tbok ⟨[], []⟩ [] [] [(4, .p false .bool false)] [] 0 0 [True] (by kernel_rfl) (by kernel_rfl) ⟨trivial, trivial⟩ ?_
    refine to_then ?_
    refine W_ret ?_
    refine thenQ_ret ?_
    obtain rfl := Option.some.inj h
    exact Ret_intro [.bool] (by kernel_rfl)
  · replace h := h_else hb1 h
    refine W_skip_to ?_
    refine to_then ?_
    refine W_seq ?_
    refine W_seq ?_
    refine W_reg tbok ⟨[], []⟩ [] [] [(0, .p β0 (.slice (.int .i64)) a1), (1, .p β1 (.slice (.int .i64)) b1), (5, .p false (.int .i64) (0 : Int))] [] 0 0 [True] (by kernel_rfl) (by kernel_rfl) ⟨trivial, trivial⟩ ?_
    refine to_then ?_
    refine W_block ?_
    obtain ⟨r2, hp1, h⟩ := h_bind h
    refine W.mono (Q := (postS (postX Try.f16.ntmps 0 (fun (_ : Unit) => mkSt [] [] 0)) (postR tb Try.f16.results.toList (fun (r1 : Bool) => [⟨.bool, r1⟩]))) r2) (W_iter (f := fun (i2 : Int) => mkSt [(0, .p β0 (.slice (.int .i64)) a1), (1, .p β1 (.slice (.int .i64)) b1), (5, .p false (.int .i64) i2)] [] 0) (Q := (postS (postX Try.f16.ntmps 0 (fun (_ : Unit) => mkSt [] [] 0)) (postR tb Try.f16.results.toList (fun (r1 : Bool) => [⟨.bool, r1⟩])))) hp1 (goal_le (gs := []) (f := []) (by kernel_rfl) (by kernel_rfl)) (fun i2 o ho => ?_)) (fun e σ' hq => ?_)
    · replace h := ho
      clear ho hp1
      unfold stanzaref01_SameInts_L1 at h
      refine W_seq ?_
      refine W_seq ?_
      refine W_reg tbok ⟨[], []⟩ [] [] [(0, .p β0 (.slice (.int .i64)) a1), (1, .p β1 (.slice (.int .i64)) b1), (5, .p false (.int .i64) i2), (14, .p false .bool (decide (i2 < (a1.length : Int))))] [] 0 0 [True, True, True, True] (by kernel_rfl) (by kernel_rfl) ⟨trivial, trivial, trivial, trivial, trivial⟩ ?_
      refine to_then ?_
      refine W_cond (b := (decide (i2 < (a1.length : Int)))) (β := false) (by kernel_rfl) (fun hb6 => ?_) (fun hb6 => ?_)
      · replace h := h_if hb6 h
        refine W_skip_to ?_
        refine to_then ?_
        refine W_seq ?_
        refine W_block ?_
        refine W_seq ?_
        obtain ⟨c11, h⟩ := h_guard h
        obtain ⟨c12, h⟩ := h_guard h
        refine W_regD tbok mixed ⟨[], []⟩ [] [] [(0, .p β0 (.slice (.int .i64)) a1), (1, .p β1 (.slice (.int .i64)) b1), (5, .p false (.int .i64) i2), (25, .p false .bool ((a1.getD i2.toNat (0 : Int)) != (b1.getD i2.toNat (0 : Int))))] [] 0 0 [True, True, 0 ≤ i2 ∧ i2 < (a1.length : Int), True, True, True, 0 ≤ i2 ∧ i2 < (b1.length : Int), True, True] (by kernel_rfl) (by kernel_rfl) ⟨trivial, trivial, c11, trivial, trivial, trivial, c12, trivial, trivial, trivial⟩ ?_
        refine to_then ?_
        refine W_cond (b := ((a1.getD i2.toNat (0 : Int)) != (b1.getD i2.toNat (0 : Int)))) (β := false) (by kernel_rfl) (fun hb7 => ?_) (fun hb7 => ?_)
        · replace h := h_if hb7 h
          refine W_seq ?_
          refine W_reg tbok ⟨[], []⟩ [] [] [(4, .p false .bool false)] [] 0 0 [True] (by kernel_rfl) (by kernel_rfl) ⟨trivial, trivial⟩ ?_
          refine to_then ?_
          refine W_ret ?_
          obtain rfl := Option.some.inj h
          refine blockQ_ret ?_
          refine thenQ_ret ?_
          refine round_ret ?_
          refine postS_rr ?_
          exact postR_mk (Ret_intro [.bool] (by kernel_rfl))
        · replace h := h_else hb7 h
          refine W_skip_to ?_
          refine to_block ?_
          refine to_then ?_
          refine W_reg tbok ⟨[], []⟩ [] [] [(0, .p β0 (.slice (.int .i64)) a1), (1, .p β1 (.slice (.int .i64)) b1), (5, .p false (.int .i64) (IntKind.i64.wrap (i2 + (1 : Int))))] [] 0 0 [True, True, True] (by kernel_rfl) (by kernel_rfl) ⟨trivial, trivial, trivial, trivial⟩ ?_
          obtain rfl := Option.some.inj h
          exact roundB (goal_le (gs := []) (f := []) (by kernel_rfl) (by kernel_rfl))
      · replace h := h_else hb6 h
        refine W_exit_to ?_
        refine thenE ?_
        obtain rfl := Option.some.inj h
        refine roundE ?_
        refine postS_l ?_
        exact postX_to (goal_le (gs := []) (f := []) (by kernel_rfl) (by kernel_rfl))
    · clear hp1
      rcases r2 with _ | r1
      · obtain ⟨rfl, hle⟩ := hq
        refine use_to ?_ hle
        refine blockE_eq ?_
        refine to_then ?_
        refine W_seq ?_
        refine W_reg tbok ⟨[], []⟩ [] [] [(4, .p false .bool true)] [] 0 0 [True] (by kernel_rfl) (by kernel_rfl) ⟨trivial, trivial⟩ ?_
        refine to_then ?_
        refine W_ret ?_
        obtain rfl := Option.some.inj h
        exact Ret_intro [.bool] (by kernel_rfl)
      · obtain ⟨rfl, hr⟩ := hq
        refine blockQ_ret ?_
        refine thenQ_ret ?_
        obtain rfl := Option.some.inj h
        exact hr

/-- a loop of 'stanza/stanzaref04.SameAuto': one round -/
def stanzaref04_SameAuto_L1 (a2 : List Int) (b2 : List Int) : (Int) → Option ((Int) ⊕ ((Unit) ⊕ (Bool))) := fun (i2 : Int) =>
  (if (decide (i2 < (a2.length : Int))) = true then (if 0 ≤ i2 ∧ i2 < (a2.length : Int) then (if 0 ≤ i2 ∧ i2 < (b2.length : Int) then (if ((a2.getD i2.toNat (0 : Int)) != (b2.getD i2.toNat (0 : Int))) = true then some (Sum.inr (Sum.inr false))
  else some (Sum.inl (IntKind.i64.wrap (i2 + (1 : Int))))) else none) else none)
  else some (Sum.inr (Sum.inl ())))

/-- a loop of 'stanza/stanzaref04.SameAuto': one round -/
def stanzaref04_SameAuto_L2 (a1 : List (List Int)) (b1 : List (List Int)) : (Int) → Option ((Int) ⊕ ((Unit) ⊕ (Bool))) := fun (i4 : Int) =>
  (if (decide (i4 < (a1.length : Int))) = true then (if 0 ≤ i4 ∧ i4 < (a1.length : Int) then (if 0 ≤ i4 ∧ i4 < (b1.length : Int) then ((stanzaref01_SameInts (a1.getD i4.toNat ([] : List Int)) (b1.getD i4.toNat ([] : List Int))).bind fun (r9 : Bool) =>
  (if (!r9) = true then some (Sum.inr (Sum.inr false))
  else some (Sum.inl (IntKind.i64.wrap (i4 + (1 : Int)))))) else none) else none)
  else some (Sum.inr (Sum.inl ())))

/-- 'stanza/stanzaref04.SameAuto' -/
def stanzaref04_SameAuto (a1 : List (List Int)) (a2 : List Int) (b1 : List (List Int)) (b2 : List Int) : Option (Bool) :=
  (((if ((a1.length : Int) != (b1.length : Int)) = true then some (true)
  else some (((a2.length : Int) != (b2.length : Int))))).bind fun (v1 : Bool) => (if v1 = true then some false
  else ((iter (stanzaref04_SameAuto_L1 a2 b2) (0 : Int)).bind fun (r2 : ((Unit) ⊕ (Bool))) => match r2 with
  | .inl _ => ((iter (stanzaref04_SameAuto_L2 a1 b1) (0 : Int)).bind fun (r10 : ((Unit) ⊕ (Bool))) => match r10 with
  | .inl _ => some true
  | .inr (r7) => some r7)
  | .inr (r1) => some r1)))

set_option maxRecDepth 100000 in
set_option maxHeartbeats 4000000 in
theorem stanzaref04_SameAuto_ok (β0 β1 β2 β3 : Bool) (a1 : List (List Int)) (a2 : List Int) (b1 : List (List Int)) (b2 : List Int) (res : Bool) (h : stanzaref04_SameAuto a1 a2 b1 b2 = some res) :
    Pure Try.prog 13 [.agg [.p β0 (.slice (.slice (.int .i64))) a1, .p β1 (.slice (.int .u32)) a2], .agg [.p β2 (.slice (.slice (.int .i64))) b1, .p β3 (.slice (.int .u32)) b2]] (wrapR (encs false [⟨.bool, res⟩])) := by
  refine Pure.of_body tbok Try.func13 (by kernel_rfl) rfl (Nat.le_of_ble_eq_true rfl) (fun Bw w0 => ?_) rfl
  unfold stanzaref04_SameAuto at h
  refine W_seq ?_
  refine W_reg tbok ⟨[], []⟩ [] [0, 8] [(2, .adr 0 0 2 0), (3, .adr 1 0 2 0)] [(0, .box [.p β0 (.slice (.slice (.int .i64))) a1, .p β1 (.slice (.int .u32)) a2]), (1, .box [.p β2 (.slice (.slice (.int .i64))) b1, .p β3 (.slice (.int .u32)) b2])] 2 0 [True, True, True] (by kernel_rfl) (by kernel_rfl) ⟨trivial, trivial, trivial, trivial⟩ ?_
  refine to_then ?_
  refine W_seq ?_
  refine W_seq ?_
  obtain ⟨v1, hp1, h⟩ := h_bind h
  refine W.mono (Q := (postN Try.f13.ntmps (fun (v1 : Bool) => mkSt [(2, .adr 0 0 2 0), (3, .adr 1 0 2 0), (22, .p false .bool v1)] [(0, .box [.p β0 (.slice (.slice (.int .i64))) a1, .p β1 (.slice (.int .u32)) a2]), (1, .box [.p β2 (.slice (.slice (.int .i64))) b1, .p β3 (.slice (.int .u32)) b2])] 2)) v1) ?_ (fun e σ' hq => ?_)
  · replace h := hp1
    clear hp1
    rcases Bool.eq_false_or_eq_true ((a1.length : Int) != (b1.length : Int)) with hb3 | hb3
    · replace h := h_if hb3 h
      refine W_reg tbok ⟨[(7, true), (15, true)], []⟩ [] [0, 1] [(2, .adr 0 0 2 0), (3, .adr 1 0 2 0), (22, .p false .bool true)] [(0, .box [.p β0 (.slice (.slice (.int .i64))) a1, .p β1 (.slice (.int .u32)) a2]), (1, .box [.p β2 (.slice (.slice (.int .i64))) b1, .p β3 (.slice (.int .u32)) b2])] 2 0 [True, True, True, True, True, True, True, True, ((a1.length : Int) != (b1.length : Int)) = true, ((a1.length : Int) != (b1.length : Int)) = true, ((a1.length : Int) != (b1.length : Int)) = true, ((a1.length : Int) != (b1.length : Int)) = true, ((a1.length : Int) != (b1.length : Int)) = true, ((a1.length : Int) != (b1.length : Int)) = true, ((a1.length : Int) != (b1.length : Int)) = true, ((a1.length : Int) != (b1.length : Int)) = true] (by kernel_rfl) (by kernel_rfl) ⟨trivial, trivial, trivial, trivial, trivial, trivial, trivial, trivial, hb3, hb3, hb3, hb3, hb3, hb3, hb3, hb3, trivial⟩ ?_
      obtain rfl := Option.some.inj h
      exact postN_to (goal_le (gs := []) (f := [0, 1]) (by kernel_rfl) (by kernel_rfl))
    · replace h := h_else hb3 h
      refine W_reg tbok ⟨[(7, false), (15, false)], []⟩ [] [0, 1] [(2, .adr 0 0 2 0), (3, .adr 1 0 2 0), (22, .p false .bool ((a2.length : Int) != (b2.length : Int)))] [(0, .box [.p β0 (.slice (.slice (.int .i64))) a1, .p β1 (.slice (.int .u32)) a2]), (1, .box [.p β2 (.slice (.slice (.int .i64))) b1, .p β3 (.slice (.int .u32)) b2])] 2 0 [True, True, True, True, True, True, True, True, ((a1.length : Int) != (b1.length : Int)) = false ∧ True, ((a1.length : Int) != (b1.length : Int)) = false ∧ True, ((a1.length : Int) != (b1.length : Int)) = false ∧ True, ((a1.length : Int) != (b1.length : Int)) = false ∧ True, ((a1.length : Int) != (b1.length : Int)) = false ∧ True, ((a1.length : Int) != (b1.length : Int)) = false ∧ True, ((a1.length : Int) != (b1.length : Int)) = false ∧ True, ((a1.length : Int) != (b1.length : Int)) = false] (by kernel_rfl) (by kernel_rfl) ⟨trivial, trivial, trivial, trivial, trivial, trivial, trivial, trivial, ⟨hb3, trivial⟩, ⟨hb3, trivial⟩, ⟨hb3, trivial⟩, ⟨hb3, trivial⟩, ⟨hb3, trivial⟩, ⟨hb3, trivial⟩, ⟨hb3, trivial⟩, hb3, trivial⟩ ?_
      obtain rfl := Option.some.inj h
      exact postN_to (goal_le (gs := []) (f := [0, 1]) (by kernel_rfl) (by kernel_rfl))
  · clear hp1
    obtain ⟨rfl, hle⟩ := hq
    refine use_to ?_ hle
    refine to_then ?_
    refine W_cond (b := v1) (β := false) (by kernel_rfl) (fun hb4 => ?_) (fun hb4 => ?_)
    · replace h := h_if hb4 h
      refine W_seq ?_
      refine W_reg tbok ⟨[], []⟩ [] [] [(4, .p false .bool false)] [] 0 0 [True] (by kernel_rfl) (by kernel_rfl) ⟨trivial, trivial⟩ ?_
      refine to_then ?_
      refine W_ret ?_
      refine thenQ_ret ?_
      obtain rfl := Option.some.inj h
      exact Ret_intro [.bool] (by kernel_rfl)
    · replace h := h_else hb4 h
      refine W_skip_to ?_
      refine to_then ?_
      refine W_seq ?_
      refine W_seq ?_
      refine W_reg tbok ⟨[], []⟩ [] [0, 1] [(2, .adr 0 0 2 0), (3, .adr 1 0 2 0), (5, .p false (.int .i64) (0 : Int))] [(0, .box [.p β0 (.slice (.slice (.int .i64))) a1, .p β1 (.slice (.int .u32)) a2]), (1, .box [.p β2 (.slice (.slice (.int .i64))) b1, .p β3 (.slice (.int .u32)) b2])] 2 0 [True] (by kernel_rfl) (by kernel_rfl) ⟨trivial, trivial⟩ ?_
      refine to_then ?_
      refine W_block ?_
      obtain ⟨r2, hp2, h⟩ := h_bind h
      refine W.mono (Q := (postS (postX Try.f13.ntmps 0 (fun (_ : Unit) => mkSt [(2, .adr 0 0 2 0), (3, .adr 1 0 2 0)] [(0, .box [.p β0 (.slice (.slice (.int .i64))) a1, .p β1 (.slice (.int .u32)) a2]), (1, .box [.p β2 (.slice (.slice (.int .i64))) b1, .p β3 (.slice (.int .u32)) b2])] 2)) (postR tb Try.f13.results.toList (fun (r1 : Bool) => [⟨.bool, r1⟩]))) r2) (W_iter (f := fun (i2 : Int) => mkSt [(2, .adr 0 0 2 0), (3, .adr 1 0 2 0), (5, .p false (.int .i64) i2)] [(0, .box [.p β0 (.slice (.slice (.int .i64))) a1, .p β1 (.slice (.int .u32)) a2]), (1, .box [.p β2 (.slice (.slice (.int .i64))) b1, .p β3 (.slice (.int .u32)) b2])] 2) (Q := (postS (postX Try.f13.ntmps 0 (fun (_ : Unit) => mkSt [(2, .adr 0 0 2 0), (3, .adr 1 0 2 0)] [(0, .box [.p β0 (.slice (.slice (.int .i64))) a1, .p β1 (.slice (.int .u32)) a2]), (1, .box [.p β2 (.slice (.slice (.int .i64))) b1, .p β3 (.slice (.int .u32)) b2])] 2)) (postR tb Try.f13.results.toList (fun (r1 : Bool) => [⟨.bool, r1⟩])))) hp2 (goal_le (gs := []) (f := [0, 1]) (by kernel_rfl) (by kernel_rfl)) (fun i2 o ho => ?_)) (fun e σ' hq => ?_)
      · replace h := ho
        clear ho hp2
        unfold stanzaref04_SameAuto_L1 at h
        refine W_seq ?_
        refine W_seq ?_
        refine W_reg tbok ⟨[], []⟩ [] [0, 1] [(2, .adr 0 0 2 0), (3, .adr 1 0 2 0), (5, .p false (.int .i64) i2), (27, .p false .bool (decide (i2 < (a2.length : Int))))] [(0, .box [.p β0 (.slice (.slice (.int .i64))) a1, .p β1 (.slice (.int .u32)) a2]), (1, .box [.p β2 (.slice (.slice (.int .i64))) b1, .p β3 (.slice (.int .u32)) b2])] 2 0 [True, True, True, True, True] (by kernel_rfl) (by kernel_rfl) ⟨trivial, trivial, trivial, trivial, trivial, trivial⟩ ?_
        refine to_then ?_
        refine W_cond (b := (decide (i2 < (a2.length : Int)))) (β := false) (by kernel_rfl) (fun hb9 => ?_) (fun hb9 => ?_)
        · replace h := h_if hb9 h
          refine W_skip_to ?_
          refine to_then ?_
          refine W_seq ?_
          refine W_block ?_
          refine W_seq ?_
          obtain ⟨c11, h⟩ := h_guard h
          obtain ⟨c12, h⟩ := h_guard h
          refine W_regD tbok mixed ⟨[], []⟩ [] [0, 1] [(2, .adr 0 0 2 0), (3, .adr 1 0 2 0), (5, .p false (.int .i64) i2), (40, .p false .bool ((a2.getD i2.toNat (0 : Int)) != (b2.getD i2.toNat (0 : Int))))] [(0, .box [.p β0 (.slice (.slice (.int .i64))) a1, .p β1 (.slice (.int .u32)) a2]), (1, .box [.p β2 (.slice (.slice (.int .i64))) b1, .p β3 (.slice (.int .u32)) b2])] 2 0 [True, True, True, 0 ≤ i2 ∧ i2 < (a2.length : Int), True, True, True, True, 0 ≤ i2 ∧ i2 < (b2.length : Int), True, True] (by kernel_rfl) (by kernel_rfl) ⟨trivial, trivial, trivial, c11, trivial, trivial, trivial, trivial, c12, trivial, trivial, trivial⟩ ?_
          refine to_then ?_
          refine W_cond (b := ((a2.getD i2.toNat (0 : Int)) != (b2.getD i2.toNat (0 : Int)))) (β := false) (by kernel_rfl) (fun hb10 => ?_) (fun hb10 => ?_)
          · replace h := h_if hb10 h
            refine W_seq ?_
            refine W_reg tbok ⟨[], []⟩ [] [] [(4, .p false .bool false)] [] 0 0 [True] (by kernel_rfl) (by kernel_rfl) ⟨trivial, trivial⟩ ?_
            refine to_then ?_
            refine W_ret ?_
            obtain rfl := Option.some.inj h
            refine blockQ_ret ?_
            refine thenQ_ret ?_
            refine round_ret ?_
            refine postS_rr ?_
            exact postR_mk (Ret_intro [.bool] (by kernel_rfl))
          · replace h := h_else hb10 h
            refine W_skip_to ?_
            refine to_block ?_
            refine to_then ?_
            refine W_reg tbok ⟨[], []⟩ [] [0, 1] [(2, .adr 0 0 2 0), (3, .adr 1 0 2 0), (5, .p false (.int .i64) (IntKind.i64.wrap (i2 + (1 : Int))))] [(0, .box [.p β0 (.slice (.slice (.int .i64))) a1, .p β1 (.slice (.int .u32)) a2]), (1, .box [.p β2 (.slice (.slice (.int .i64))) b1, .p β3 (.slice (.int .u32)) b2])] 2 0 [True, True, True] (by kernel_rfl) (by kernel_rfl) ⟨trivial, trivial, trivial, trivial⟩ ?_
            obtain rfl := Option.some.inj h
            exact roundB (goal_le (gs := []) (f := [0, 1]) (by kernel_rfl) (by kernel_rfl))
        · replace h := h_else hb9 h
          refine W_exit_to ?_
          refine thenE ?_
          obtain rfl := Option.some.inj h
          refine roundE ?_
          refine postS_l ?_
          exact postX_to (goal_le (gs := []) (f := [0, 1]) (by kernel_rfl) (by kernel_rfl))
      · clear hp2
        rcases r2 with _ | r1
        · obtain ⟨rfl, hle⟩ := hq
          refine use_to ?_ hle
          refine blockE_eq ?_
          refine to_then ?_
          refine W_seq ?_
          refine W_seq ?_
          refine W_reg tbok ⟨[], []⟩ [] [0, 1] [(2, .adr 0 0 2 0), (3, .adr 1 0 2 0), (6, .p false (.int .i64) (0 : Int))] [(0, .box [.p β0 (.slice (.slice (.int .i64))) a1, .p β1 (.slice (.int .u32)) a2]), (1, .box [.p β2 (.slice (.slice (.int .i64))) b1, .p β3 (.slice (.int .u32)) b2])] 2 0 [True] (by kernel_rfl) (by kernel_rfl) ⟨trivial, trivial⟩ ?_
          refine to_then ?_
          refine W_block ?_
          obtain ⟨r10, hp3, h⟩ := h_bind h
          refine W.mono (Q := (postS (postX Try.f13.ntmps 2 (fun (_ : Unit) => mkSt [] [] 0)) (postR tb Try.f13.results.toList (fun (r7 : Bool) => [⟨.bool, r7⟩]))) r10) (W_iter (f := fun (i4 : Int) => mkSt [(2, .adr 0 0 2 0), (3, .adr 1 0 2 0), (6, .p false (.int .i64) i4)] [(0, .box [.p β0 (.slice (.slice (.int .i64))) a1, .p β1 (.slice (.int .u32)) a2]), (1, .box [.p β2 (.slice (.slice (.int .i64))) b1, .p β3 (.slice (.int .u32)) b2])] 2) (Q := (postS (postX Try.f13.ntmps 2 (fun (_ : Unit) => mkSt [] [] 0)) (postR tb Try.f13.results.toList (fun (r7 : Bool) => [⟨.bool, r7⟩])))) hp3 (goal_le (gs := []) (f := [0, 1]) (by kernel_rfl) (by kernel_rfl)) (fun i4 o ho => ?_)) (fun e σ' hq => ?_)
          · replace h := ho
            clear ho hp3
            unfold stanzaref04_SameAuto_L2 at h
            refine W_seq ?_
            refine W_seq ?_
            refine W_reg tbok ⟨[], []⟩ [] [0, 1] [(2, .adr 0 0 2 0), (3, .adr 1 0 2 0), (6, .p false (.int .i64) i4), (45, .p false .bool (decide (i4 < (a1.length : Int))))] [(0, .box [.p β0 (.slice (.slice (.int .i64))) a1, .p β1 (.slice (.int .u32)) a2]), (1, .box [.p β2 (.slice (.slice (.int .i64))) b1, .p β3 (.slice (.int .u32)) b2])] 2 0 [True, True, True, True, True] (by kernel_rfl) (by kernel_rfl) ⟨trivial, trivial, trivial, trivial, trivial, trivial⟩ ?_
            refine to_then ?_
            refine W_cond (b := (decide (i4 < (a1.length : Int)))) (β := false) (by kernel_rfl) (fun hb15 => ?_) (fun hb15 => ?_)
            · replace h := h_if hb15 h
              refine W_skip_to ?_
              refine to_then ?_
              refine W_seq ?_
              refine W_block ?_
              refine W_seq ?_
              obtain ⟨c23, h⟩ := h_guard h
              obtain ⟨c24, h⟩ := h_guard h
              obtain ⟨r9, q6, h⟩ := h_bind h
              refine W_regD tbok mixed ⟨[], [(10, ⟨.p false .bool r9, [false, false], false, [true, true], [], []⟩)]⟩ [] [0, 1] [(2, .adr 0 0 2 0), (3, .adr 1 0 2 0), (6, .p false (.int .i64) i4), (59, .p false .bool (!r9))] [(0, .box [.p β0 (.slice (.slice (.int .i64))) a1, .p β1 (.slice (.int .u32)) a2]), (1, .box [.p β2 (.slice (.slice (.int .i64))) b1, .p β3 (.slice (.int .u32)) b2])] 2 0 [True, True, True, 0 ≤ i4 ∧ i4 < (a1.length : Int), True, True, True, True, 0 ≤ i4 ∧ i4 < (b1.length : Int), True, Pure Try.prog 16 [.p β0 (.slice (.int .i64)) (a1.getD i4.toNat ([] : List Int)), .p β2 (.slice (.int .i64)) (b1.getD i4.toNat ([] : List Int))] (.p false .bool r9), True] (by kernel_rfl) (by kernel_rfl) ⟨trivial, trivial, trivial, c23, trivial, trivial, trivial, trivial, c24, trivial, (stanzaref01_SameInts_ok β0 β2 (a1.getD i4.toNat ([] : List Int)) (b1.getD i4.toNat ([] : List Int)) _ q6), trivial, trivial⟩ ?_
              refine to_then ?_
              refine W_cond (b := (!r9)) (β := false) (by kernel_rfl) (fun hb16 => ?_) (fun hb16 => ?_)
              · replace h := h_if hb16 h
                refine W_seq ?_
                refine W_reg tbok ⟨[], []⟩ [] [] [(4, .p false .bool false)] [] 0 0 [True] (by kernel_rfl) (by kernel_rfl) ⟨trivial, trivial⟩ ?_
                refine to_then ?_
                refine W_ret ?_
                obtain rfl := Option.some.inj h
                refine blockQ_ret ?_
                refine thenQ_ret ?_
                refine round_ret ?_
                refine postS_rr ?_
                exact postR_mk (Ret_intro [.bool] (by kernel_rfl))
              · replace h := h_else hb16 h
                refine W_skip_to ?_
                refine to_block ?_
                refine to_then ?_
                refine W_reg tbok ⟨[], []⟩ [] [0, 1] [(2, .adr 0 0 2 0), (3, .adr 1 0 2 0), (6, .p false (.int .i64) (IntKind.i64.wrap (i4 + (1 : Int))))] [(0, .box [.p β0 (.slice (.slice (.int .i64))) a1, .p β1 (.slice (.int .u32)) a2]), (1, .box [.p β2 (.slice (.slice (.int .i64))) b1, .p β3 (.slice (.int .u32)) b2])] 2 0 [True, True, True] (by kernel_rfl) (by kernel_rfl) ⟨trivial, trivial, trivial, trivial⟩ ?_
                obtain rfl := Option.some.inj h
                exact roundB (goal_le (gs := []) (f := [0, 1]) (by kernel_rfl) (by kernel_rfl))
            · replace h := h_else hb15 h
              refine W_exit_to ?_
              refine thenE ?_
              obtain rfl := Option.some.inj h
              refine roundE ?_
              refine postS_l ?_
              exact postX_to (goal_le (gs := []) (f := []) (by kernel_rfl) (by kernel_rfl))
          · clear hp3
            rcases r10 with _ | r7
            · obtain ⟨rfl, hle⟩ := hq
              refine use_to ?_ hle
              refine blockE_eq ?_
              refine to_then ?_
              refine W_seq ?_
              refine W_reg tbok ⟨[], []⟩ [] [] [(4, .p false .bool true)] [] 0 0 [True] (by kernel_rfl) (by kernel_rfl) ⟨trivial, trivial⟩ ?_
              refine to_then ?_
              refine W_ret ?_
              obtain rfl := Option.some.inj h
              exact Ret_intro [.bool] (by kernel_rfl)
            · obtain ⟨rfl, hr⟩ := hq
              refine blockQ_ret ?_
              refine thenQ_ret ?_
              obtain rfl := Option.some.inj h
              exact hr
        · obtain ⟨rfl, hr⟩ := hq
          refine blockQ_ret ?_
          refine thenQ_ret ?_
          obtain rfl := Option.some.inj h
          exact hr

end
end Go.Proofs.Ytnnbofkcfooljaa.T
