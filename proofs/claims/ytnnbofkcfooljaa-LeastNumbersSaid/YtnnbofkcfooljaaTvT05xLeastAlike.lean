/- Functions of the program as functions on data, and that the program's own come to them. -/
import Derived.Test.YtnnbofkcfooljaaTvT05x0
import Derived.Test.YtnnbofkcfooljaaTvT05xa
import Derived.Test.YtnnbofkcfooljaaTvT05xb
namespace Go.Proofs.Ytnnbofkcfooljaa.T
open Go Go.Tv Go.Proofs
noncomputable section

/-- a loop of 'stanza/auto.Run': one round -/
def auto_Run_L1 (a1 : List (List Int)) (classes1 : List Int) : ((List Int) × Int × Int) → Option (((List Int) × Int × Int) ⊕ (List Int)) := fun ((out2, s2, v4) : (List Int) × Int × Int) =>
  (if (decide (v4 < (classes1.length : Int))) = true then (if 0 ≤ v4 ∧ v4 < (classes1.length : Int) then (((if (decide ((classes1.getD v4.toNat (0 : Int)) < (0 : Int))) = true then some (true)
  else (if 0 ≤ s2 ∧ s2 < (a1.length : Int) then some ((decide ((classes1.getD v4.toNat (0 : Int)) ≥ ((a1.getD s2.toNat ([] : List Int)).length : Int)))) else none))).bind fun (v5 : Bool) => (if v5 = true then some (Sum.inr out2)
  else (if 0 ≤ s2 ∧ s2 < (a1.length : Int) then (if 0 ≤ (classes1.getD v4.toNat (0 : Int)) ∧ (classes1.getD v4.toNat (0 : Int)) < ((a1.getD s2.toNat ([] : List Int)).length : Int) then (if (out2.length + ([((a1.getD s2.toNat ([] : List Int)).getD ((classes1.getD v4.toNat (0 : Int)).toNat) (0 : Int))] : List Int).length) * 8 ≤ 140737488355328 ∧ out2.length + ([((a1.getD s2.toNat ([] : List Int)).getD ((classes1.getD v4.toNat (0 : Int)).toNat) (0 : Int))] : List Int).length ≤ 9223372036854775807 then some (Sum.inl ((out2 ++ ([((a1.getD s2.toNat ([] : List Int)).getD ((classes1.getD v4.toNat (0 : Int)).toNat) (0 : Int))] : List Int)), ((a1.getD s2.toNat ([] : List Int)).getD ((classes1.getD v4.toNat (0 : Int)).toNat) (0 : Int)), (IntKind.i64.wrap (v4 + (1 : Int))))) else none) else none) else none))) else none)
  else some (Sum.inr out2))

/-- 'stanza/auto.Run' -/
def auto_Run (a1 : List (List Int)) (a2 : List Int) (classes1 : List Int) : Option (List Int) :=
  (if ((a1.length : Int) == (0 : Int)) = true then some ([] : List Int)
  else ((iter (auto_Run_L1 a1 classes1) (([(0 : Int)] : List Int), (0 : Int), (0 : Int))).bind fun (out3 : List Int) => some out3))

set_option maxRecDepth 100000 in
set_option maxHeartbeats 4000000 in
theorem auto_Run_ok (β0 β1 β2 : Bool) (a1 : List (List Int)) (a2 : List Int) (classes1 : List Int) (res : List Int) (h : auto_Run a1 a2 classes1 = some res) :
    Pure Try.prog 18 [.agg [.p β0 (.slice (.slice (.int .i64))) a1, .p β1 (.slice (.int .u32)) a2], .p β2 (.slice (.int .i64)) classes1] (wrapR (encs false [⟨(.slice (.int .i64)), res⟩])) := by
  refine Pure.of_body tbok Try.func18 (by kernel_rfl) rfl (Nat.le_of_ble_eq_true rfl) (fun Bw w0 => ?_) rfl
  unfold auto_Run at h
  refine W_seq ?_
  refine W_reg tbok ⟨[], []⟩ [] [0] [(1, .p β2 (.slice (.int .i64)) classes1), (2, .adr 0 0 2 0)] [(0, .box [.p β0 (.slice (.slice (.int .i64))) a1, .p β1 (.slice (.int .u32)) a2])] 1 0 [True, True] (by kernel_rfl) (by kernel_rfl) ⟨trivial, trivial, trivial⟩ ?_
  refine to_then ?_
  refine W_seq ?_
  refine W_seq ?_
  refine W_reg tbok ⟨[], []⟩ [] [0] [(1, .p β2 (.slice (.int .i64)) classes1), (2, .adr 0 0 2 0), (12, .p false .bool ((a1.length : Int) == (0 : Int)))] [(0, .box [.p β0 (.slice (.slice (.int .i64))) a1, .p β1 (.slice (.int .u32)) a2])] 1 0 [True, True, True, True] (by kernel_rfl) (by kernel_rfl) ⟨trivial, trivial, trivial, trivial, trivial⟩ ?_
  refine to_then ?_
  refine W_cond (b := ((a1.length : Int) == (0 : Int))) (β := false) (by kernel_rfl) (fun hb1 => ?_) (fun hb1 => ?_)
  · replace h := h_if hb1 h
    refine W_seq ?_
    refine W_reg tbok ⟨[], []⟩ [] [] [(4, .nils)] [] 0 0 [True] (by kernel_rfl) (by kernel_rfl) ⟨trivial, trivial⟩ ?_
    refine to_then ?_
    refine W_ret ?_
    refine thenQ_ret ?_
    obtain rfl := Option.some.inj h
    exact Ret_intro [(.slice (.int .i64))] (by kernel_rfl)
  · replace h := h_else hb1 h
    refine W_skip_to ?_
    refine to_then ?_
    refine W_seq ?_
    refine W_reg tbok ⟨[], []⟩ [] [0, 1] [(1, .p β2 (.slice (.int .i64)) classes1), (2, .adr 0 0 2 0), (5, .sl 1)] [(0, .box [.p β0 (.slice (.slice (.int .i64))) a1, .p β1 (.slice (.int .u32)) a2]), (1, .arr 3 (.int .i64) ([(0 : Int)] : List Int))] 2 0 [True, True] (by kernel_rfl) (by kernel_rfl) ⟨trivial, trivial, trivial⟩ ?_
    refine to_then ?_
    refine W_seq ?_
    refine W_reg tbok ⟨[], []⟩ [] [0, 1] [(1, .p β2 (.slice (.int .i64)) classes1), (2, .adr 0 0 2 0), (5, .sl 1), (6, .p false (.int .i64) (0 : Int))] [(0, .box [.p β0 (.slice (.slice (.int .i64))) a1, .p β1 (.slice (.int .u32)) a2]), (1, .arr 3 (.int .i64) ([(0 : Int)] : List Int))] 2 0 [True] (by kernel_rfl) (by kernel_rfl) ⟨trivial, trivial⟩ ?_
    refine to_then ?_
    refine W_seq ?_
    refine W_seq ?_
    refine W_reg tbok ⟨[], []⟩ [] [0, 1] [(2, .adr 0 0 2 0), (5, .sl 1), (6, .p false (.int .i64) (0 : Int)), (14, .p β2 (.slice (.int .i64)) classes1), (15, .p false (.int .i64) (classes1.length : Int)), (16, .p false (.int .i64) (0 : Int))] [(0, .box [.p β0 (.slice (.slice (.int .i64))) a1, .p β1 (.slice (.int .u32)) a2]), (1, .arr 3 (.int .i64) ([(0 : Int)] : List Int))] 2 0 [True, True, True] (by kernel_rfl) (by kernel_rfl) ⟨trivial, trivial, trivial, trivial⟩ ?_
    refine to_then ?_
    refine W_block ?_
    obtain ⟨out3, hp4, h⟩ := h_bind h
    refine W.mono (Q := (postX Try.f18.ntmps 0 (fun (out3 : List Int) => mkSt [(5, .sl 0)] [(0, .arr 3 (.int .i64) out3)] 1)) out3) (W_iter (f := fun ((out2, s2, v4) : (List Int) × Int × Int) => mkSt [(2, .adr 0 0 2 0), (5, .sl 1), (6, .p false (.int .i64) s2), (14, .p β2 (.slice (.int .i64)) classes1), (15, .p false (.int .i64) (classes1.length : Int)), (16, .p false (.int .i64) v4)] [(0, .box [.p β0 (.slice (.slice (.int .i64))) a1, .p β1 (.slice (.int .u32)) a2]), (1, .arr 3 (.int .i64) out2)] 2) (Q := (postX Try.f18.ntmps 0 (fun (out3 : List Int) => mkSt [(5, .sl 0)] [(0, .arr 3 (.int .i64) out3)] 1))) hp4 (goal_le (gs := []) (f := [0, 1]) (by kernel_rfl) (by kernel_rfl)) (fun y o ho => ?_)) (fun e σ' hq => ?_)
    · obtain ⟨out2, s2, v4⟩ := y
      replace h := ho
      clear ho hp4
      unfold auto_Run_L1 at h
      refine W_seq ?_
      refine W_reg tbok ⟨[], []⟩ [] [0, 1] [(2, .adr 0 0 2 0), (5, .sl 1), (6, .p false (.int .i64) s2), (14, .p β2 (.slice (.int .i64)) classes1), (15, .p false (.int .i64) (classes1.length : Int)), (16, .p false (.int .i64) v4), (17, .p false .bool (decide (v4 < (classes1.length : Int))))] [(0, .box [.p β0 (.slice (.slice (.int .i64))) a1, .p β1 (.slice (.int .u32)) a2]), (1, .arr 3 (.int .i64) out2)] 2 0 [True] (by kernel_rfl) (by kernel_rfl) ⟨trivial, trivial⟩ ?_
      refine to_then ?_
      refine W_seq ?_
      refine W_cond (b := (decide (v4 < (classes1.length : Int)))) (β := false) (by kernel_rfl) (fun hb12 => ?_) (fun hb12 => ?_)
      · replace h := h_if hb12 h
        refine W_skip_to ?_
        refine to_then ?_
        refine W_seq ?_
        refine W_block ?_
        refine W_seq ?_
        obtain ⟨c24, h⟩ := h_guard h
        refine W_reg tbok ⟨[], []⟩ [] [0, 1] [(2, .adr 0 0 2 0), (5, .sl 1), (6, .p false (.int .i64) s2), (8, .p false (.int .i64) (classes1.getD v4.toNat (0 : Int))), (14, .p β2 (.slice (.int .i64)) classes1), (15, .p false (.int .i64) (classes1.length : Int)), (16, .p false (.int .i64) v4)] [(0, .box [.p β0 (.slice (.slice (.int .i64))) a1, .p β1 (.slice (.int .u32)) a2]), (1, .arr 3 (.int .i64) out2)] 2 0 [0 ≤ v4 ∧ v4 < (classes1.length : Int), True, True] (by kernel_rfl) (by kernel_rfl) ⟨c24, trivial, trivial, trivial⟩ ?_
        refine to_then ?_
        refine W_seq ?_
        refine W_seq ?_
        obtain ⟨v5, hp3, h⟩ := h_bind h
        refine W.mono (Q := (postN Try.f18.ntmps (fun (v5 : Bool) => mkSt [(2, .adr 0 0 2 0), (5, .sl 1), (6, .p false (.int .i64) s2), (8, .p false (.int .i64) (classes1.getD v4.toNat (0 : Int))), (14, .p β2 (.slice (.int .i64)) classes1), (15, .p false (.int .i64) (classes1.length : Int)), (16, .p false (.int .i64) v4), (31, .p false .bool v5)] [(0, .box [.p β0 (.slice (.slice (.int .i64))) a1, .p β1 (.slice (.int .u32)) a2]), (1, .arr 3 (.int .i64) out2)] 2)) v5) ?_ (fun e σ' hq => ?_)
        · replace h := hp3
          clear hp3
          rcases Bool.eq_false_or_eq_true (decide ((classes1.getD v4.toNat (0 : Int)) < (0 : Int))) with hb15 | hb15
          · replace h := h_if hb15 h
            refine W_reg tbok ⟨[(2, true), (11, true)], []⟩ [] [0, 1] [(2, .adr 0 0 2 0), (5, .sl 1), (6, .p false (.int .i64) s2), (8, .p false (.int .i64) (classes1.getD v4.toNat (0 : Int))), (14, .p β2 (.slice (.int .i64)) classes1), (15, .p false (.int .i64) (classes1.length : Int)), (16, .p false (.int .i64) v4), (31, .p false .bool true)] [(0, .box [.p β0 (.slice (.slice (.int .i64))) a1, .p β1 (.slice (.int .u32)) a2]), (1, .arr 3 (.int .i64) out2)] 2 0 [True, True, True, (decide ((classes1.getD v4.toNat (0 : Int)) < (0 : Int))) = true, (decide ((classes1.getD v4.toNat (0 : Int)) < (0 : Int))) = true, (decide ((classes1.getD v4.toNat (0 : Int)) < (0 : Int))) = true, (decide ((classes1.getD v4.toNat (0 : Int)) < (0 : Int))) = true, (decide ((classes1.getD v4.toNat (0 : Int)) < (0 : Int))) = true, (decide ((classes1.getD v4.toNat (0 : Int)) < (0 : Int))) = true, (decide ((classes1.getD v4.toNat (0 : Int)) < (0 : Int))) = true, (decide ((classes1.getD v4.toNat (0 : Int)) < (0 : Int))) = true, (decide ((classes1.getD v4.toNat (0 : Int)) < (0 : Int))) = true] (by kernel_rfl) (by kernel_rfl) ⟨trivial, trivial, trivial, hb15, hb15, hb15, hb15, hb15, hb15, hb15, hb15, hb15, trivial⟩ ?_
            obtain rfl := Option.some.inj h
            exact postN_to (goal_le (gs := []) (f := [0, 1]) (by kernel_rfl) (by kernel_rfl))
          · replace h := h_else hb15 h
            obtain ⟨c27, h⟩ := h_guard h
            refine W_reg tbok ⟨[(2, false), (11, false)], []⟩ [] [0, 1] [(2, .adr 0 0 2 0), (5, .sl 1), (6, .p false (.int .i64) s2), (8, .p false (.int .i64) (classes1.getD v4.toNat (0 : Int))), (14, .p β2 (.slice (.int .i64)) classes1), (15, .p false (.int .i64) (classes1.length : Int)), (16, .p false (.int .i64) v4), (31, .p false .bool (decide ((classes1.getD v4.toNat (0 : Int)) ≥ ((a1.getD s2.toNat ([] : List Int)).length : Int))))] [(0, .box [.p β0 (.slice (.slice (.int .i64))) a1, .p β1 (.slice (.int .u32)) a2]), (1, .arr 3 (.int .i64) out2)] 2 0 [True, True, True, (decide ((classes1.getD v4.toNat (0 : Int)) < (0 : Int))) = false ∧ True, (decide ((classes1.getD v4.toNat (0 : Int)) < (0 : Int))) = false ∧ True, (decide ((classes1.getD v4.toNat (0 : Int)) < (0 : Int))) = false ∧ True, (decide ((classes1.getD v4.toNat (0 : Int)) < (0 : Int))) = false ∧ True, (decide ((classes1.getD v4.toNat (0 : Int)) < (0 : Int))) = false ∧ 0 ≤ s2 ∧ s2 < (a1.length : Int), (decide ((classes1.getD v4.toNat (0 : Int)) < (0 : Int))) = false ∧ True, (decide ((classes1.getD v4.toNat (0 : Int)) < (0 : Int))) = false ∧ True, (decide ((classes1.getD v4.toNat (0 : Int)) < (0 : Int))) = false ∧ True, (decide ((classes1.getD v4.toNat (0 : Int)) < (0 : Int))) = false] (by kernel_rfl) (by kernel_rfl) ⟨trivial, trivial, trivial, ⟨hb15, trivial⟩, ⟨hb15, trivial⟩, ⟨hb15, trivial⟩, ⟨hb15, trivial⟩, ⟨hb15, c27⟩, ⟨hb15, trivial⟩, ⟨hb15, trivial⟩, ⟨hb15, trivial⟩, hb15, trivial⟩ ?_
            obtain rfl := Option.some.inj h
            exact postN_to (goal_le (gs := []) (f := [0, 1]) (by kernel_rfl) (by kernel_rfl))
        · clear hp3
          obtain ⟨rfl, hle⟩ := hq
          refine use_to ?_ hle
          refine to_then ?_
          refine W_cond (b := v5) (β := false) (by kernel_rfl) (fun hb16 => ?_) (fun hb16 => ?_)
          · replace h := h_if hb16 h
            refine W_exit_to ?_
            refine thenE ?_
            refine blockE_ne rfl ?_
            refine thenE ?_
            obtain rfl := Option.some.inj h
            refine roundE ?_
            exact postX_to (goal_le (gs := []) (f := [1]) (by kernel_rfl) (by kernel_rfl))
          · replace h := h_else hb16 h
            refine W_skip_to ?_
            refine to_then ?_
            refine W_seq ?_
            obtain ⟨c30, h⟩ := h_guard h
            obtain ⟨c31, h⟩ := h_guard h
            refine W_reg tbok ⟨[], []⟩ [] [0, 1] [(2, .adr 0 0 2 0), (5, .sl 1), (6, .p false (.int .i64) ((a1.getD s2.toNat ([] : List Int)).getD ((classes1.getD v4.toNat (0 : Int)).toNat) (0 : Int))), (14, .p β2 (.slice (.int .i64)) classes1), (15, .p false (.int .i64) (classes1.length : Int)), (16, .p false (.int .i64) v4)] [(0, .box [.p β0 (.slice (.slice (.int .i64))) a1, .p β1 (.slice (.int .u32)) a2]), (1, .arr 3 (.int .i64) out2)] 2 0 [True, True, True, 0 ≤ s2 ∧ s2 < (a1.length : Int), True, True, 0 ≤ (classes1.getD v4.toNat (0 : Int)) ∧ (classes1.getD v4.toNat (0 : Int)) < ((a1.getD s2.toNat ([] : List Int)).length : Int), True, True] (by kernel_rfl) (by kernel_rfl) ⟨trivial, trivial, trivial, c30, trivial, trivial, c31, trivial, trivial, trivial⟩ ?_
            refine to_then ?_
            obtain ⟨c33, h⟩ := h_guard h
            refine W_reg tbok ⟨[], []⟩ [] [0, 26] [(2, .adr 0 0 2 0), (5, .sl 1), (6, .p false (.int .i64) ((a1.getD s2.toNat ([] : List Int)).getD ((classes1.getD v4.toNat (0 : Int)).toNat) (0 : Int))), (14, .p β2 (.slice (.int .i64)) classes1), (15, .p false (.int .i64) (classes1.length : Int)), (16, .p false (.int .i64) v4)] [(0, .box [.p β0 (.slice (.slice (.int .i64))) a1, .p β1 (.slice (.int .u32)) a2]), (1, .arr 3 (.int .i64) (out2 ++ ([((a1.getD s2.toNat ([] : List Int)).getD ((classes1.getD v4.toNat (0 : Int)).toNat) (0 : Int))] : List Int)))] 2 0 [True, True, True, (out2.length + ([((a1.getD s2.toNat ([] : List Int)).getD ((classes1.getD v4.toNat (0 : Int)).toNat) (0 : Int))] : List Int).length) * 8 ≤ 140737488355328 ∧ out2.length + ([((a1.getD s2.toNat ([] : List Int)).getD ((classes1.getD v4.toNat (0 : Int)).toNat) (0 : Int))] : List Int).length ≤ 9223372036854775807, True] (by kernel_rfl) (by kernel_rfl) ⟨trivial, trivial, trivial, c33, trivial, trivial⟩ ?_
            refine to_block ?_
            refine to_then ?_
            refine W_reg tbok ⟨[], []⟩ [] [0, 1] [(2, .adr 0 0 2 0), (5, .sl 1), (6, .p false (.int .i64) ((a1.getD s2.toNat ([] : List Int)).getD ((classes1.getD v4.toNat (0 : Int)).toNat) (0 : Int))), (14, .p β2 (.slice (.int .i64)) classes1), (15, .p false (.int .i64) (classes1.length : Int)), (16, .p false (.int .i64) (IntKind.i64.wrap (v4 + (1 : Int))))] [(0, .box [.p β0 (.slice (.slice (.int .i64))) a1, .p β1 (.slice (.int .u32)) a2]), (1, .arr 3 (.int .i64) (out2 ++ ([((a1.getD s2.toNat ([] : List Int)).getD ((classes1.getD v4.toNat (0 : Int)).toNat) (0 : Int))] : List Int)))] 2 0 [True, True] (by kernel_rfl) (by kernel_rfl) ⟨trivial, trivial, trivial⟩ ?_
            obtain rfl := Option.some.inj h
            exact roundB (goal_le (gs := []) (f := [0, 1]) (by kernel_rfl) (by kernel_rfl))
      · replace h := h_else hb12 h
        refine W_exit_to ?_
        refine thenE ?_
        obtain rfl := Option.some.inj h
        refine roundE ?_
        exact postX_to (goal_le (gs := []) (f := [1]) (by kernel_rfl) (by kernel_rfl))
    · clear hp4
      obtain ⟨rfl, hle⟩ := hq
      refine use_to ?_ hle
      refine blockE_eq ?_
      refine to_then ?_
      refine W_seq ?_
      refine W_reg tbok ⟨[], []⟩ [] [0] [(4, .sl 0)] [(0, .arr 3 (.int .i64) out3)] 1 0 [True, True] (by kernel_rfl) (by kernel_rfl) ⟨trivial, trivial, trivial⟩ ?_
      refine to_then ?_
      refine W_ret ?_
      obtain rfl := Option.some.inj h
      exact Ret_intro [(.slice (.int .i64))] (by kernel_rfl)

/-- a loop of 'stanza/stanzalaw05.LeastAlike': one round -/
def stanzalaw05_LeastAlike_L1 (x2 : List Int) (r4 : (List (List Int)) × List Int) : ((List Int) × Int) → Option (((List Int) × Int) ⊕ (List Int)) := fun ((v7, v8) : (List Int) × Int) =>
  (if (decide (v8 < (x2.length : Int))) = true then (if 0 ≤ v8 ∧ v8 < (x2.length : Int) then (if 0 ≤ (0 : Int) ∧ (0 : Int) < (r4.1.length : Int) then (((if (decide (((r4.1.getD ((0 : Int).toNat) ([] : List Int)).length : Int) > (0 : Int))) = true then (if ¬ (IntKind.u64.wrap ((r4.1.getD ((0 : Int).toNat) ([] : List Int)).length : Int)) = 0 then (if (v7.length + ([(IntKind.i64.wrap (Int.tmod (IntKind.u64.wrap (x2.getD v8.toNat (0 : Int))) (IntKind.u64.wrap ((r4.1.getD ((0 : Int).toNat) ([] : List Int)).length : Int))))] : List Int).length) * 8 ≤ 140737488355328 ∧ v7.length + ([(IntKind.i64.wrap (Int.tmod (IntKind.u64.wrap (x2.getD v8.toNat (0 : Int))) (IntKind.u64.wrap ((r4.1.getD ((0 : Int).toNat) ([] : List Int)).length : Int))))] : List Int).length ≤ 9223372036854775807 then some ((v7 ++ ([(IntKind.i64.wrap (Int.tmod (IntKind.u64.wrap (x2.getD v8.toNat (0 : Int))) (IntKind.u64.wrap ((r4.1.getD ((0 : Int).toNat) ([] : List Int)).length : Int))))] : List Int))) else none) else none)
  else some (v7))).bind fun (v10 : List Int) => some (Sum.inl (v10, (IntKind.i64.wrap (v8 + (1 : Int)))))) else none) else none)
  else some (Sum.inr v7))

/-- a loop of 'stanza/stanzalaw05.LeastAlike': one round -/
def stanzalaw05_LeastAlike_L2 (r4 : (List (List Int)) × List Int) (r7 : (List (List Int)) × List Int) (r18 : List Int) (r19 : List Int) : (Int) → Option ((Int) ⊕ ((Unit) ⊕ (Bool))) := fun (v12 : Int) =>
  (if (decide (v12 < (r18.length : Int))) = true then (if 0 ≤ v12 ∧ v12 < (r18.length : Int) then (if 0 ≤ (r18.getD v12.toNat (0 : Int)) ∧ (r18.getD v12.toNat (0 : Int)) < (r4.2.length : Int) then (if 0 ≤ v12 ∧ v12 < (r19.length : Int) then (if 0 ≤ (r19.getD v12.toNat (0 : Int)) ∧ (r19.getD v12.toNat (0 : Int)) < (r7.2.length : Int) then (if ((r4.2.getD ((r18.getD v12.toNat (0 : Int)).toNat) (0 : Int)) != (r7.2.getD ((r19.getD v12.toNat (0 : Int)).toNat) (0 : Int))) = true then some (Sum.inr (Sum.inr false))
  else some (Sum.inl (IntKind.i64.wrap (v12 + (1 : Int))))) else none) else none) else none) else none)
  else some (Sum.inr (Sum.inl ())))

/-- 'stanza/stanzalaw05.LeastAlike' -/
def stanzalaw05_LeastAlike (d1 : List Int) (i1 : List Int) (x1 : Int) (x2 : List Int) : Option (Bool) :=
  ((stanzalaw05_Awake).bind fun (r2 : Bool) =>
  (if (!r2) = true then some false
  else ((stanzalaw05_Made d1 i1 x1).bind fun (r4 : (List (List Int)) × List Int) =>
  (((if ((r4.1.length : Int) == (0 : Int)) = true then some (true)
  else some ((decide ((x2.length : Int) > (300 : Int)))))).bind fun (v1 : Bool) => (if v1 = true then some true
  else ((least_Make r4.1 r4.2).bind fun ((r7, r8) : ((List (List Int)) × List Int) × Int) =>
  ((least_Make r7.1 r7.2).bind fun ((r11, r12) : ((List (List Int)) × List Int) × Int) =>
  (((if (r8 != (0 : Int)) = true then some (true)
  else (if (r12 != (0 : Int)) = true then some (true)
  else (if (decide ((r7.2.length : Int) > (r4.2.length : Int))) = true then some (true)
  else ((stanzaref04_SameAuto r7.1 r7.2 r11.1 r11.2).bind fun (r15 : Bool) =>
  some ((!r15))))))).bind fun (v2 : Bool) => (if v2 = true then some false
  else ((iter (stanzalaw05_LeastAlike_L1 x2 r4) (([] : List Int), (0 : Int))).bind fun (v9 : List Int) => ((auto_Run r4.1 r4.2 v9).bind fun (r18 : List Int) =>
  ((auto_Run r7.1 r7.2 v9).bind fun (r19 : List Int) =>
  (if ((r18.length : Int) != (r19.length : Int)) = true then some false
  else ((iter (stanzalaw05_LeastAlike_L2 r4 r7 r18 r19) (0 : Int)).bind fun (r21 : ((Unit) ⊕ (Bool))) => match r21 with
  | .inl _ => some true
  | .inr (r20) => some r20))))))))))))))

set_option maxRecDepth 100000 in
set_option maxHeartbeats 4000000 in
theorem stanzalaw05_LeastAlike_ok (β0 β1 β3 : Bool) (d1 : List Int) (i1 : List Int) (x1 : Int) (x2 : List Int) (res : Bool) (h : stanzalaw05_LeastAlike d1 i1 x1 x2 = some res) :
    Pure Try.prog 7 [.p β0 (.slice (.int .u32)) d1, .p β1 (.slice (.int .i64)) i1, .p false (.int .u8) x1, .p β3 (.slice (.int .i64)) x2] (wrapR (encs false [⟨.bool, res⟩])) := by
  refine Pure.of_body tbok Try.func7 (by kernel_rfl) rfl (Nat.le_of_ble_eq_true rfl) (fun Bw w0 => ?_) rfl
  unfold stanzalaw05_LeastAlike at h
  refine W_seq ?_
  refine W_reg tbok ⟨[], []⟩ [] [] [(0, .p β0 (.slice (.int .u32)) d1), (1, .p β1 (.slice (.int .i64)) i1), (2, .p false (.int .u8) x1), (3, .p β3 (.slice (.int .i64)) x2)] [] 0 0 [True] (by kernel_rfl) (by kernel_rfl) ⟨trivial, trivial⟩ ?_
  refine to_then ?_
  refine W_seq ?_
  refine W_seq ?_
  obtain ⟨r2, q2, h⟩ := h_bind h
  refine W_reg tbok ⟨[], [(0, ⟨.p false .bool r2, [], false, [], [], []⟩)]⟩ [] [] [(0, .p β0 (.slice (.int .u32)) d1), (1, .p β1 (.slice (.int .i64)) i1), (2, .p false (.int .u8) x1), (3, .p β3 (.slice (.int .i64)) x2), (22, .p false .bool (!r2))] [] 0 0 [Pure Try.prog 8 [] (.p false .bool r2), True] (by kernel_rfl) (by kernel_rfl) ⟨(stanzalaw05_Awake_ok _ q2), trivial, trivial⟩ ?_
  refine to_then ?_
  refine W_cond (b := (!r2)) (β := false) (by kernel_rfl) (fun hb1 => ?_) (fun hb1 => ?_)
  · replace h := h_if hb1 h
    refine W_seq ?_
    refine W_reg tbok ⟨[], []⟩ [] [] [(8, .p false .bool false)] [] 0 0 [True] (by kernel_rfl) (by kernel_rfl) ⟨trivial, trivial⟩ ?_
    refine to_then ?_
    refine W_ret ?_
    refine thenQ_ret ?_
    obtain rfl := Option.some.inj h
    exact Ret_intro [.bool] (by kernel_rfl)
  · replace h := h_else hb1 h
    refine W_skip_to ?_
    refine to_then ?_
    refine W_seq ?_
    obtain ⟨r4, q4, h⟩ := h_bind h
    refine W_reg tbok ⟨[], [(3, ⟨.agg [.p false (.slice (.slice (.int .i64))) r4.1, .p false (.slice (.int .u32)) r4.2], [false, false, false], false, [true, true, true], [], []⟩)]⟩ [] [32] [(3, .p β3 (.slice (.int .i64)) x2), (9, .adr 0 0 2 0)] [(0, .box [.p false (.slice (.slice (.int .i64))) r4.1, .p false (.slice (.int .u32)) r4.2])] 1 0 [True, True, True, Pure Try.prog 9 [.p β0 (.slice (.int .u32)) d1, .p β1 (.slice (.int .i64)) i1, .p false (.int .u8) x1] (.agg [.p false (.slice (.slice (.int .i64))) r4.1, .p false (.slice (.int .u32)) r4.2]), True, True] (by kernel_rfl) (by kernel_rfl) ⟨trivial, trivial, trivial, (stanzalaw05_Made_ok β0 β1 d1 i1 x1 _ q4), trivial, trivial, trivial⟩ ?_
    refine to_then ?_
    refine W_seq ?_
    refine W_seq ?_
    obtain ⟨v1, hp1, h⟩ := h_bind h
    refine W.mono (Q := (postN Try.f7.ntmps (fun (v1 : Bool) => mkSt [(3, .p β3 (.slice (.int .i64)) x2), (9, .adr 0 0 2 0), (35, .p false .bool v1)] [(0, .box [.p false (.slice (.slice (.int .i64))) r4.1, .p false (.slice (.int .u32)) r4.2])] 1)) v1) ?_ (fun e σ' hq => ?_)
    · replace h := hp1
      clear hp1
      rcases Bool.eq_false_or_eq_true ((r4.1.length : Int) == (0 : Int)) with hb4 | hb4
      · replace h := h_if hb4 h
        refine W_reg tbok ⟨[(4, true), (8, true)], []⟩ [] [0] [(3, .p β3 (.slice (.int .i64)) x2), (9, .adr 0 0 2 0), (35, .p false .bool true)] [(0, .box [.p false (.slice (.slice (.int .i64))) r4.1, .p false (.slice (.int .u32)) r4.2])] 1 0 [True, True, True, True, True, ((r4.1.length : Int) == (0 : Int)) = true, ((r4.1.length : Int) == (0 : Int)) = true, ((r4.1.length : Int) == (0 : Int)) = true, ((r4.1.length : Int) == (0 : Int)) = true] (by kernel_rfl) (by kernel_rfl) ⟨trivial, trivial, trivial, trivial, trivial, hb4, hb4, hb4, hb4, trivial⟩ ?_
        obtain rfl := Option.some.inj h
        exact postN_to (goal_le (gs := []) (f := [0]) (by kernel_rfl) (by kernel_rfl))
      · replace h := h_else hb4 h
        refine W_reg tbok ⟨[(4, false), (8, false)], []⟩ [] [0] [(3, .p β3 (.slice (.int .i64)) x2), (9, .adr 0 0 2 0), (35, .p false .bool (decide ((x2.length : Int) > (300 : Int))))] [(0, .box [.p false (.slice (.slice (.int .i64))) r4.1, .p false (.slice (.int .u32)) r4.2])] 1 0 [True, True, True, True, True, ((r4.1.length : Int) == (0 : Int)) = false ∧ True, ((r4.1.length : Int) == (0 : Int)) = false ∧ True, ((r4.1.length : Int) == (0 : Int)) = false ∧ True, ((r4.1.length : Int) == (0 : Int)) = false] (by kernel_rfl) (by kernel_rfl) ⟨trivial, trivial, trivial, trivial, trivial, ⟨hb4, trivial⟩, ⟨hb4, trivial⟩, ⟨hb4, trivial⟩, hb4, trivial⟩ ?_
        obtain rfl := Option.some.inj h
        exact postN_to (goal_le (gs := []) (f := [0]) (by kernel_rfl) (by kernel_rfl))
    · clear hp1
      obtain ⟨rfl, hle⟩ := hq
      refine use_to ?_ hle
      refine to_then ?_
      refine W_cond (b := v1) (β := false) (by kernel_rfl) (fun hb5 => ?_) (fun hb5 => ?_)
      · replace h := h_if hb5 h
        refine W_seq ?_
        refine W_reg tbok ⟨[], []⟩ [] [] [(8, .p false .bool true)] [] 0 0 [True] (by kernel_rfl) (by kernel_rfl) ⟨trivial, trivial⟩ ?_
        refine to_then ?_
        refine W_ret ?_
        refine thenQ_ret ?_
        obtain rfl := Option.some.inj h
        exact Ret_intro [.bool] (by kernel_rfl)
      · replace h := h_else hb5 h
        refine W_skip_to ?_
        refine to_then ?_
        refine W_seq ?_
        obtain ⟨⟨r7, r8⟩, q6, h⟩ := h_bind h
        refine W_reg tbok ⟨[], [(1, ⟨.tup [.agg [.p false (.slice (.slice (.int .i64))) r7.1, .p false (.slice (.int .u32)) r7.2], .p false (.int .i64) r8], [false], false, [true], [], []⟩)]⟩ [] [0, 41] [(3, .p β3 (.slice (.int .i64)) x2), (9, .adr 0 0 2 0), (10, .adr 1 0 2 0), (11, .p false (.int .i64) r8)] [(0, .box [.p false (.slice (.slice (.int .i64))) r4.1, .p false (.slice (.int .u32)) r4.2]), (1, .box [.p false (.slice (.slice (.int .i64))) r7.1, .p false (.slice (.int .u32)) r7.2])] 2 0 [True, Pure Try.prog 12 [.agg [.p false (.slice (.slice (.int .i64))) r4.1, .p false (.slice (.int .u32)) r4.2]] (.tup [.agg [.p false (.slice (.slice (.int .i64))) r7.1, .p false (.slice (.int .u32)) r7.2], .p false (.int .i64) r8]), True, True, True, True, True, True] (by kernel_rfl) (by kernel_rfl) ⟨trivial, (least_Make_ok false false r4.1 r4.2 _ q6), trivial, trivial, trivial, trivial, trivial, trivial, trivial⟩ ?_
        refine to_then ?_
        refine W_seq ?_
        obtain ⟨⟨r11, r12⟩, q8, h⟩ := h_bind h
        refine W_reg tbok ⟨[], [(1, ⟨.tup [.agg [.p false (.slice (.slice (.int .i64))) r11.1, .p false (.slice (.int .u32)) r11.2], .p false (.int .i64) r12], [false], false, [true], [], []⟩)]⟩ [] [0, 1, 42] [(3, .p β3 (.slice (.int .i64)) x2), (9, .adr 0 0 2 0), (10, .adr 1 0 2 0), (11, .p false (.int .i64) r8), (12, .adr 2 0 2 0), (13, .p false (.int .i64) r12)] [(0, .box [.p false (.slice (.slice (.int .i64))) r4.1, .p false (.slice (.int .u32)) r4.2]), (1, .box [.p false (.slice (.slice (.int .i64))) r7.1, .p false (.slice (.int .u32)) r7.2]), (2, .box [.p false (.slice (.slice (.int .i64))) r11.1, .p false (.slice (.int .u32)) r11.2])] 3 0 [True, Pure Try.prog 12 [.agg [.p false (.slice (.slice (.int .i64))) r7.1, .p false (.slice (.int .u32)) r7.2]] (.tup [.agg [.p false (.slice (.slice (.int .i64))) r11.1, .p false (.slice (.int .u32)) r11.2], .p false (.int .i64) r12]), True, True, True, True, True, True] (by kernel_rfl) (by kernel_rfl) ⟨trivial, (least_Make_ok false false r7.1 r7.2 _ q8), trivial, trivial, trivial, trivial, trivial, trivial, trivial⟩ ?_
        refine to_then ?_
        refine W_seq ?_
        refine W_seq ?_
        obtain ⟨v2, hp2, h⟩ := h_bind h
        refine W.mono (Q := (postN Try.f7.ntmps (fun (v2 : Bool) => mkSt [(3, .p β3 (.slice (.int .i64)) x2), (9, .adr 0 0 2 0), (10, .adr 1 0 2 0), (66, .p false .bool v2)] [(0, .box [.p false (.slice (.slice (.int .i64))) r4.1, .p false (.slice (.int .u32)) r4.2]), (1, .box [.p false (.slice (.slice (.int .i64))) r7.1, .p false (.slice (.int .u32)) r7.2])] 2)) v2) ?_ (fun e σ' hq => ?_)
        · replace h := hp2
          clear hp2
          rcases Bool.eq_false_or_eq_true (r8 != (0 : Int)) with hb12 | hb12
          · replace h := h_if hb12 h
            refine W_reg tbok ⟨[(2, true), (5, true), (6, true), (14, true), (15, true), (20, true)], []⟩ [] [0, 1] [(3, .p β3 (.slice (.int .i64)) x2), (9, .adr 0 0 2 0), (10, .adr 1 0 2 0), (66, .p false .bool true)] [(0, .box [.p false (.slice (.slice (.int .i64))) r4.1, .p false (.slice (.int .u32)) r4.2]), (1, .box [.p false (.slice (.slice (.int .i64))) r7.1, .p false (.slice (.int .u32)) r7.2])] 2 0 [True, True, True, (r8 != (0 : Int)) = true, (r8 != (0 : Int)) = true, (r8 != (0 : Int)) = true, True, true = true, true = true, true = true, true = true, true = true, true = true, true = true, true = true, True, true = true, true = true, true = true, true = true, true = true] (by kernel_rfl) (by kernel_rfl) ⟨trivial, trivial, trivial, hb12, hb12, hb12, trivial, rfl, rfl, rfl, rfl, rfl, rfl, rfl, rfl, trivial, rfl, rfl, rfl, rfl, rfl, trivial⟩ ?_
            obtain rfl := Option.some.inj h
            exact postN_to (goal_le (gs := []) (f := [0, 1]) (by kernel_rfl) (by kernel_rfl))
          · replace h := h_else hb12 h
            rcases Bool.eq_false_or_eq_true (r12 != (0 : Int)) with hb13 | hb13
            · replace h := h_if hb13 h
              refine W_reg tbok ⟨[(2, false), (5, false), (6, true), (14, true), (15, true), (20, true)], []⟩ [] [0, 1] [(3, .p β3 (.slice (.int .i64)) x2), (9, .adr 0 0 2 0), (10, .adr 1 0 2 0), (66, .p false .bool true)] [(0, .box [.p false (.slice (.slice (.int .i64))) r4.1, .p false (.slice (.int .u32)) r4.2]), (1, .box [.p false (.slice (.slice (.int .i64))) r7.1, .p false (.slice (.int .u32)) r7.2])] 2 0 [True, True, True, (r8 != (0 : Int)) = false ∧ True, (r8 != (0 : Int)) = false ∧ True, (r8 != (0 : Int)) = false, True, (r12 != (0 : Int)) = true, (r12 != (0 : Int)) = true, (r12 != (0 : Int)) = true, (r12 != (0 : Int)) = true, (r12 != (0 : Int)) = true, (r12 != (0 : Int)) = true, (r12 != (0 : Int)) = true, (r12 != (0 : Int)) = true, True, true = true, true = true, true = true, true = true, true = true] (by kernel_rfl) (by kernel_rfl) ⟨trivial, trivial, trivial, ⟨hb12, trivial⟩, ⟨hb12, trivial⟩, hb12, trivial, hb13, hb13, hb13, hb13, hb13, hb13, hb13, hb13, trivial, rfl, rfl, rfl, rfl, rfl, trivial⟩ ?_
              obtain rfl := Option.some.inj h
              exact postN_to (goal_le (gs := []) (f := [0, 1]) (by kernel_rfl) (by kernel_rfl))
            · replace h := h_else hb13 h
              rcases Bool.eq_false_or_eq_true (decide ((r7.2.length : Int) > (r4.2.length : Int))) with hb14 | hb14
              · replace h := h_if hb14 h
                refine W_reg tbok ⟨[(2, false), (5, false), (6, false), (14, false), (15, true), (20, true)], []⟩ [] [0, 1] [(3, .p β3 (.slice (.int .i64)) x2), (9, .adr 0 0 2 0), (10, .adr 1 0 2 0), (66, .p false .bool true)] [(0, .box [.p false (.slice (.slice (.int .i64))) r4.1, .p false (.slice (.int .u32)) r4.2]), (1, .box [.p false (.slice (.slice (.int .i64))) r7.1, .p false (.slice (.int .u32)) r7.2])] 2 0 [True, True, True, (r8 != (0 : Int)) = false ∧ True, (r8 != (0 : Int)) = false ∧ True, (r8 != (0 : Int)) = false, True, (r12 != (0 : Int)) = false ∧ True, (r12 != (0 : Int)) = false ∧ True, (r12 != (0 : Int)) = false ∧ True, (r12 != (0 : Int)) = false ∧ True, (r12 != (0 : Int)) = false ∧ True, (r12 != (0 : Int)) = false ∧ True, (r12 != (0 : Int)) = false ∧ True, (r12 != (0 : Int)) = false, True, (decide ((r7.2.length : Int) > (r4.2.length : Int))) = true, (decide ((r7.2.length : Int) > (r4.2.length : Int))) = true, (decide ((r7.2.length : Int) > (r4.2.length : Int))) = true, (decide ((r7.2.length : Int) > (r4.2.length : Int))) = true, (decide ((r7.2.length : Int) > (r4.2.length : Int))) = true] (by kernel_rfl) (by kernel_rfl) ⟨trivial, trivial, trivial, ⟨hb12, trivial⟩, ⟨hb12, trivial⟩, hb12, trivial, ⟨hb13, trivial⟩, ⟨hb13, trivial⟩, ⟨hb13, trivial⟩, ⟨hb13, trivial⟩, ⟨hb13, trivial⟩, ⟨hb13, trivial⟩, ⟨hb13, trivial⟩, hb13, trivial, hb14, hb14, hb14, hb14, hb14, trivial⟩ ?_
                obtain rfl := Option.some.inj h
                exact postN_to (goal_le (gs := []) (f := [0, 1]) (by kernel_rfl) (by kernel_rfl))
              · replace h := h_else hb14 h
                obtain ⟨r15, q11, h⟩ := h_bind h
                refine W_reg tbok ⟨[(2, false), (5, false), (6, false), (14, false), (15, false), (20, false)], [(18, ⟨.p false .bool r15, [false, false], false, [true, true], [], []⟩)]⟩ [] [0, 1] [(3, .p β3 (.slice (.int .i64)) x2), (9, .adr 0 0 2 0), (10, .adr 1 0 2 0), (66, .p false .bool (!r15))] [(0, .box [.p false (.slice (.slice (.int .i64))) r4.1, .p false (.slice (.int .u32)) r4.2]), (1, .box [.p false (.slice (.slice (.int .i64))) r7.1, .p false (.slice (.int .u32)) r7.2])] 2 0 [True, True, True, (r8 != (0 : Int)) = false ∧ True, (r8 != (0 : Int)) = false ∧ True, (r8 != (0 : Int)) = false, True, (r12 != (0 : Int)) = false ∧ True, (r12 != (0 : Int)) = false ∧ True, (r12 != (0 : Int)) = false ∧ True, (r12 != (0 : Int)) = false ∧ True, (r12 != (0 : Int)) = false ∧ True, (r12 != (0 : Int)) = false ∧ True, (r12 != (0 : Int)) = false ∧ True, (r12 != (0 : Int)) = false, True, (decide ((r7.2.length : Int) > (r4.2.length : Int))) = false ∧ True, (decide ((r7.2.length : Int) > (r4.2.length : Int))) = false ∧ True, (decide ((r7.2.length : Int) > (r4.2.length : Int))) = false ∧ Pure Try.prog 13 [.agg [.p false (.slice (.slice (.int .i64))) r7.1, .p false (.slice (.int .u32)) r7.2], .agg [.p false (.slice (.slice (.int .i64))) r11.1, .p false (.slice (.int .u32)) r11.2]] (.p false .bool r15), (decide ((r7.2.length : Int) > (r4.2.length : Int))) = false ∧ True, (decide ((r7.2.length : Int) > (r4.2.length : Int))) = false] (by kernel_rfl) (by kernel_rfl) ⟨trivial, trivial, trivial, ⟨hb12, trivial⟩, ⟨hb12, trivial⟩, hb12, trivial, ⟨hb13, trivial⟩, ⟨hb13, trivial⟩, ⟨hb13, trivial⟩, ⟨hb13, trivial⟩, ⟨hb13, trivial⟩, ⟨hb13, trivial⟩, ⟨hb13, trivial⟩, hb13, trivial, ⟨hb14, trivial⟩, ⟨hb14, trivial⟩, ⟨hb14, (stanzaref04_SameAuto_ok false false false false r7.1 r7.2 r11.1 r11.2 _ q11)⟩, ⟨hb14, trivial⟩, hb14, trivial⟩ ?_
                obtain rfl := Option.some.inj h
                exact postN_to (goal_le (gs := []) (f := [0, 1]) (by kernel_rfl) (by kernel_rfl))
        · clear hp2
          obtain ⟨rfl, hle⟩ := hq
          refine use_to ?_ hle
          refine to_then ?_
          refine W_cond (b := v2) (β := false) (by kernel_rfl) (fun hb15 => ?_) (fun hb15 => ?_)
          · replace h := h_if hb15 h
            refine W_seq ?_
            refine W_reg tbok ⟨[], []⟩ [] [] [(8, .p false .bool false)] [] 0 0 [True] (by kernel_rfl) (by kernel_rfl) ⟨trivial, trivial⟩ ?_
            refine to_then ?_
            refine W_ret ?_
            refine thenQ_ret ?_
            obtain rfl := Option.some.inj h
            exact Ret_intro [.bool] (by kernel_rfl)
          · replace h := h_else hb15 h
            refine W_skip_to ?_
            refine to_then ?_
            refine W_seq ?_
            refine W_reg tbok ⟨[], []⟩ [] [0, 1, 2] [(3, .p β3 (.slice (.int .i64)) x2), (9, .adr 0 0 2 0), (10, .adr 1 0 2 0), (14, .sl 2)] [(0, .box [.p false (.slice (.slice (.int .i64))) r4.1, .p false (.slice (.int .u32)) r4.2]), (1, .box [.p false (.slice (.slice (.int .i64))) r7.1, .p false (.slice (.int .u32)) r7.2]), (2, .arr 3 (.int .i64) ([] : List Int))] 3 0 [True, True] (by kernel_rfl) (by kernel_rfl) ⟨trivial, trivial, trivial⟩ ?_
            refine to_then ?_
            refine W_seq ?_
            refine W_seq ?_
            refine W_reg tbok ⟨[], []⟩ [] [0, 1, 2] [(9, .adr 0 0 2 0), (10, .adr 1 0 2 0), (14, .sl 2), (68, .p β3 (.slice (.int .i64)) x2), (69, .p false (.int .i64) (x2.length : Int)), (70, .p false (.int .i64) (0 : Int))] [(0, .box [.p false (.slice (.slice (.int .i64))) r4.1, .p false (.slice (.int .u32)) r4.2]), (1, .box [.p false (.slice (.slice (.int .i64))) r7.1, .p false (.slice (.int .u32)) r7.2]), (2, .arr 3 (.int .i64) ([] : List Int))] 3 0 [True, True, True] (by kernel_rfl) (by kernel_rfl) ⟨trivial, trivial, trivial, trivial⟩ ?_
            refine to_then ?_
            refine W_block ?_
            obtain ⟨v9, hp6, h⟩ := h_bind h
            refine W.mono (Q := (postX Try.f7.ntmps 0 (fun (v9 : List Int) => mkSt [(9, .adr 0 0 2 0), (10, .adr 1 0 2 0), (14, .sl 2)] [(0, .box [.p false (.slice (.slice (.int .i64))) r4.1, .p false (.slice (.int .u32)) r4.2]), (1, .box [.p false (.slice (.slice (.int .i64))) r7.1, .p false (.slice (.int .u32)) r7.2]), (2, .arr 3 (.int .i64) v9)] 3)) v9) (W_iter (f := fun ((v7, v8) : (List Int) × Int) => mkSt [(9, .adr 0 0 2 0), (10, .adr 1 0 2 0), (14, .sl 2), (68, .p β3 (.slice (.int .i64)) x2), (69, .p false (.int .i64) (x2.length : Int)), (70, .p false (.int .i64) v8)] [(0, .box [.p false (.slice (.slice (.int .i64))) r4.1, .p false (.slice (.int .u32)) r4.2]), (1, .box [.p false (.slice (.slice (.int .i64))) r7.1, .p false (.slice (.int .u32)) r7.2]), (2, .arr 3 (.int .i64) v7)] 3) (Q := (postX Try.f7.ntmps 0 (fun (v9 : List Int) => mkSt [(9, .adr 0 0 2 0), (10, .adr 1 0 2 0), (14, .sl 2)] [(0, .box [.p false (.slice (.slice (.int .i64))) r4.1, .p false (.slice (.int .u32)) r4.2]), (1, .box [.p false (.slice (.slice (.int .i64))) r7.1, .p false (.slice (.int .u32)) r7.2]), (2, .arr 3 (.int .i64) v9)] 3))) hp6 (goal_le (gs := []) (f := [0, 1, 2]) (by kernel_rfl) (by kernel_rfl)) (fun y o ho => ?_)) (fun e σ' hq => ?_)
            · obtain ⟨v7, v8⟩ := y
              replace h := ho
              clear ho hp6
              unfold stanzalaw05_LeastAlike_L1 at h
              refine W_seq ?_
              refine W_reg tbok ⟨[], []⟩ [] [0, 1, 2] [(9, .adr 0 0 2 0), (10, .adr 1 0 2 0), (14, .sl 2), (68, .p β3 (.slice (.int .i64)) x2), (69, .p false (.int .i64) (x2.length : Int)), (70, .p false (.int .i64) v8), (71, .p false .bool (decide (v8 < (x2.length : Int))))] [(0, .box [.p false (.slice (.slice (.int .i64))) r4.1, .p false (.slice (.int .u32)) r4.2]), (1, .box [.p false (.slice (.slice (.int .i64))) r7.1, .p false (.slice (.int .u32)) r7.2]), (2, .arr 3 (.int .i64) v7)] 3 0 [True] (by kernel_rfl) (by kernel_rfl) ⟨trivial, trivial⟩ ?_
              refine to_then ?_
              refine W_seq ?_
              refine W_cond (b := (decide (v8 < (x2.length : Int)))) (β := false) (by kernel_rfl) (fun hb22 => ?_) (fun hb22 => ?_)
              · replace h := h_if hb22 h
                refine W_skip_to ?_
                refine to_then ?_
                refine W_seq ?_
                refine W_block ?_
                refine W_seq ?_
                obtain ⟨c26, h⟩ := h_guard h
                refine W_reg tbok ⟨[], []⟩ [] [0, 1, 2] [(9, .adr 0 0 2 0), (10, .adr 1 0 2 0), (14, .sl 2), (16, .p false (.int .i64) (x2.getD v8.toNat (0 : Int))), (68, .p β3 (.slice (.int .i64)) x2), (69, .p false (.int .i64) (x2.length : Int)), (70, .p false (.int .i64) v8)] [(0, .box [.p false (.slice (.slice (.int .i64))) r4.1, .p false (.slice (.int .u32)) r4.2]), (1, .box [.p false (.slice (.slice (.int .i64))) r7.1, .p false (.slice (.int .u32)) r7.2]), (2, .arr 3 (.int .i64) v7)] 3 0 [0 ≤ v8 ∧ v8 < (x2.length : Int), True, True] (by kernel_rfl) (by kernel_rfl) ⟨c26, trivial, trivial, trivial⟩ ?_
                refine to_then ?_
                refine W_seq ?_
                obtain ⟨c28, h⟩ := h_guard h
                refine W_reg tbok ⟨[], []⟩ [] [0, 1, 2] [(9, .adr 0 0 2 0), (10, .adr 1 0 2 0), (14, .sl 2), (16, .p false (.int .i64) (x2.getD v8.toNat (0 : Int))), (17, .p false (.int .i64) ((r4.1.getD ((0 : Int).toNat) ([] : List Int)).length : Int)), (68, .p β3 (.slice (.int .i64)) x2), (69, .p false (.int .i64) (x2.length : Int)), (70, .p false (.int .i64) v8)] [(0, .box [.p false (.slice (.slice (.int .i64))) r4.1, .p false (.slice (.int .u32)) r4.2]), (1, .box [.p false (.slice (.slice (.int .i64))) r7.1, .p false (.slice (.int .u32)) r7.2]), (2, .arr 3 (.int .i64) v7)] 3 0 [True, True, 0 ≤ (0 : Int) ∧ (0 : Int) < (r4.1.length : Int), True, True, True] (by kernel_rfl) (by kernel_rfl) ⟨trivial, trivial, c28, trivial, trivial, trivial, trivial⟩ ?_
                refine to_then ?_
                refine W_seq ?_
                refine W_reg tbok ⟨[], []⟩ [] [0, 1, 2] [(9, .adr 0 0 2 0), (10, .adr 1 0 2 0), (14, .sl 2), (16, .p false (.int .i64) (x2.getD v8.toNat (0 : Int))), (17, .p false (.int .i64) ((r4.1.getD ((0 : Int).toNat) ([] : List Int)).length : Int)), (68, .p β3 (.slice (.int .i64)) x2), (69, .p false (.int .i64) (x2.length : Int)), (70, .p false (.int .i64) v8), (80, .p false .bool (decide (((r4.1.getD ((0 : Int).toNat) ([] : List Int)).length : Int) > (0 : Int))))] [(0, .box [.p false (.slice (.slice (.int .i64))) r4.1, .p false (.slice (.int .u32)) r4.2]), (1, .box [.p false (.slice (.slice (.int .i64))) r7.1, .p false (.slice (.int .u32)) r7.2]), (2, .arr 3 (.int .i64) v7)] 3 0 [True, True] (by kernel_rfl) (by kernel_rfl) ⟨trivial, trivial, trivial⟩ ?_
                refine to_then ?_
                obtain ⟨v10, hp5, h⟩ := h_bind h
                refine W.mono (Q := (postN Try.f7.ntmps (fun (v10 : List Int) => mkSt [(9, .adr 0 0 2 0), (10, .adr 1 0 2 0), (14, .sl 2), (68, .p β3 (.slice (.int .i64)) x2), (69, .p false (.int .i64) (x2.length : Int)), (70, .p false (.int .i64) v8)] [(0, .box [.p false (.slice (.slice (.int .i64))) r4.1, .p false (.slice (.int .u32)) r4.2]), (1, .box [.p false (.slice (.slice (.int .i64))) r7.1, .p false (.slice (.int .u32)) r7.2]), (2, .arr 3 (.int .i64) v10)] 3)) v10) ?_ (fun e σ' hq => ?_)
                · replace h := hp5
                  clear hp5
                  refine W_cond (b := (decide (((r4.1.getD ((0 : Int).toNat) ([] : List Int)).length : Int) > (0 : Int)))) (β := false) (by kernel_rfl) (fun hb24 => ?_) (fun hb24 => ?_)
                  · replace h := h_if hb24 h
                    obtain ⟨c35, h⟩ := h_guard h
                    obtain ⟨c36, h⟩ := h_guard h
                    refine W_reg tbok ⟨[], []⟩ [] [0, 1, 67] [(9, .adr 0 0 2 0), (10, .adr 1 0 2 0), (14, .sl 2), (68, .p β3 (.slice (.int .i64)) x2), (69, .p false (.int .i64) (x2.length : Int)), (70, .p false (.int .i64) v8)] [(0, .box [.p false (.slice (.slice (.int .i64))) r4.1, .p false (.slice (.int .u32)) r4.2]), (1, .box [.p false (.slice (.slice (.int .i64))) r7.1, .p false (.slice (.int .u32)) r7.2]), (2, .arr 3 (.int .i64) (v7 ++ ([(IntKind.i64.wrap (Int.tmod (IntKind.u64.wrap (x2.getD v8.toNat (0 : Int))) (IntKind.u64.wrap ((r4.1.getD ((0 : Int).toNat) ([] : List Int)).length : Int))))] : List Int)))] 3 0 [True, True, True, True, True, ¬ (IntKind.u64.wrap ((r4.1.getD ((0 : Int).toNat) ([] : List Int)).length : Int)) = 0, True, True, (v7.length + ([(IntKind.i64.wrap (Int.tmod (IntKind.u64.wrap (x2.getD v8.toNat (0 : Int))) (IntKind.u64.wrap ((r4.1.getD ((0 : Int).toNat) ([] : List Int)).length : Int))))] : List Int).length) * 8 ≤ 140737488355328 ∧ v7.length + ([(IntKind.i64.wrap (Int.tmod (IntKind.u64.wrap (x2.getD v8.toNat (0 : Int))) (IntKind.u64.wrap ((r4.1.getD ((0 : Int).toNat) ([] : List Int)).length : Int))))] : List Int).length ≤ 9223372036854775807, True] (by kernel_rfl) (by kernel_rfl) ⟨trivial, trivial, trivial, trivial, trivial, c35, trivial, trivial, c36, trivial, trivial⟩ ?_
                    obtain rfl := Option.some.inj h
                    exact postN_to (goal_le (gs := []) (f := [0, 1, 2]) (by kernel_rfl) (by kernel_rfl))
                  · replace h := h_else hb24 h
                    refine W_skip_to ?_
                    obtain rfl := Option.some.inj h
                    exact postN_to (goal_le (gs := []) (f := [0, 1, 2]) (by kernel_rfl) (by kernel_rfl))
                · clear hp5
                  obtain ⟨rfl, hle⟩ := hq
                  refine use_to ?_ hle
                  refine to_block ?_
                  refine to_then ?_
                  refine W_reg tbok ⟨[], []⟩ [] [0, 1, 2] [(9, .adr 0 0 2 0), (10, .adr 1 0 2 0), (14, .sl 2), (68, .p β3 (.slice (.int .i64)) x2), (69, .p false (.int .i64) (x2.length : Int)), (70, .p false (.int .i64) (IntKind.i64.wrap (v8 + (1 : Int))))] [(0, .box [.p false (.slice (.slice (.int .i64))) r4.1, .p false (.slice (.int .u32)) r4.2]), (1, .box [.p false (.slice (.slice (.int .i64))) r7.1, .p false (.slice (.int .u32)) r7.2]), (2, .arr 3 (.int .i64) v10)] 3 0 [True, True] (by kernel_rfl) (by kernel_rfl) ⟨trivial, trivial, trivial⟩ ?_
                  obtain rfl := Option.some.inj h
                  exact roundB (goal_le (gs := []) (f := [0, 1, 2]) (by kernel_rfl) (by kernel_rfl))
              · replace h := h_else hb22 h
                refine W_exit_to ?_
                refine thenE ?_
                obtain rfl := Option.some.inj h
                refine roundE ?_
                exact postX_to (goal_le (gs := []) (f := [0, 1, 2]) (by kernel_rfl) (by kernel_rfl))
            · clear hp6
              obtain ⟨rfl, hle⟩ := hq
              refine use_to ?_ hle
              refine blockE_eq ?_
              refine to_then ?_
              refine W_seq ?_
              obtain ⟨r18, q14, h⟩ := h_bind h
              obtain ⟨r19, q15, h⟩ := h_bind h
              refine W_regD tbok mixed ⟨[], [(2, ⟨.p false (.slice (.int .i64)) r18, [false, false], false, [true, true], [], []⟩), (5, ⟨.p false (.slice (.int .i64)) r19, [false, false], false, [true, true], [], []⟩)]⟩ [] [0, 1] [(9, .adr 0 0 2 0), (10, .adr 1 0 2 0), (18, .p false (.slice (.int .i64)) r18), (19, .p false (.slice (.int .i64)) r19)] [(0, .box [.p false (.slice (.slice (.int .i64))) r4.1, .p false (.slice (.int .u32)) r4.2]), (1, .box [.p false (.slice (.slice (.int .i64))) r7.1, .p false (.slice (.int .u32)) r7.2])] 2 0 [True, True, Pure Try.prog 18 [.agg [.p false (.slice (.slice (.int .i64))) r4.1, .p false (.slice (.int .u32)) r4.2], .p true (.slice (.int .i64)) v9] (.p false (.slice (.int .i64)) r18), True, True, Pure Try.prog 18 [.agg [.p false (.slice (.slice (.int .i64))) r7.1, .p false (.slice (.int .u32)) r7.2], .p true (.slice (.int .i64)) v9] (.p false (.slice (.int .i64)) r19), True, True] (by kernel_rfl) (by kernel_rfl) ⟨trivial, trivial, (auto_Run_ok false false true r4.1 r4.2 v9 _ q14), trivial, trivial, (auto_Run_ok false false true r7.1 r7.2 v9 _ q15), trivial, trivial, trivial⟩ ?_
              refine to_then ?_
              refine W_seq ?_
              refine W_seq ?_
              refine W_reg tbok ⟨[], []⟩ [] [0, 1] [(9, .adr 0 0 2 0), (10, .adr 1 0 2 0), (18, .p false (.slice (.int .i64)) r18), (19, .p false (.slice (.int .i64)) r19), (101, .p false .bool ((r18.length : Int) != (r19.length : Int)))] [(0, .box [.p false (.slice (.slice (.int .i64))) r4.1, .p false (.slice (.int .u32)) r4.2]), (1, .box [.p false (.slice (.slice (.int .i64))) r7.1, .p false (.slice (.int .u32)) r7.2])] 2 0 [True, True, True, True, True] (by kernel_rfl) (by kernel_rfl) ⟨trivial, trivial, trivial, trivial, trivial, trivial⟩ ?_
              refine to_then ?_
              refine W_cond (b := ((r18.length : Int) != (r19.length : Int))) (β := false) (by kernel_rfl) (fun hb25 => ?_) (fun hb25 => ?_)
              · replace h := h_if hb25 h
                refine W_seq ?_
                refine W_reg tbok ⟨[], []⟩ [] [] [(8, .p false .bool false)] [] 0 0 [True] (by kernel_rfl) (by kernel_rfl) ⟨trivial, trivial⟩ ?_
                refine to_then ?_
                refine W_ret ?_
                refine thenQ_ret ?_
                obtain rfl := Option.some.inj h
                exact Ret_intro [.bool] (by kernel_rfl)
              · replace h := h_else hb25 h
                refine W_skip_to ?_
                refine to_then ?_
                refine W_seq ?_
                refine W_seq ?_
                refine W_reg tbok ⟨[], []⟩ [] [0, 1] [(9, .adr 0 0 2 0), (10, .adr 1 0 2 0), (18, .p false (.slice (.int .i64)) r18), (19, .p false (.slice (.int .i64)) r19), (103, .p false (.int .i64) (r18.length : Int)), (104, .p false (.int .i64) (0 : Int))] [(0, .box [.p false (.slice (.slice (.int .i64))) r4.1, .p false (.slice (.int .u32)) r4.2]), (1, .box [.p false (.slice (.slice (.int .i64))) r7.1, .p false (.slice (.int .u32)) r7.2])] 2 0 [True, True, True] (by kernel_rfl) (by kernel_rfl) ⟨trivial, trivial, trivial, trivial⟩ ?_
                refine to_then ?_
                refine W_block ?_
                obtain ⟨r21, hp7, h⟩ := h_bind h
                refine W.mono (Q := (postS (postX Try.f7.ntmps 2 (fun (_ : Unit) => mkSt [] [] 0)) (postR tb Try.f7.results.toList (fun (r20 : Bool) => [⟨.bool, r20⟩]))) r21) (W_iter (f := fun (v12 : Int) => mkSt [(9, .adr 0 0 2 0), (10, .adr 1 0 2 0), (18, .p false (.slice (.int .i64)) r18), (19, .p false (.slice (.int .i64)) r19), (103, .p false (.int .i64) (r18.length : Int)), (104, .p false (.int .i64) v12)] [(0, .box [.p false (.slice (.slice (.int .i64))) r4.1, .p false (.slice (.int .u32)) r4.2]), (1, .box [.p false (.slice (.slice (.int .i64))) r7.1, .p false (.slice (.int .u32)) r7.2])] 2) (Q := (postS (postX Try.f7.ntmps 2 (fun (_ : Unit) => mkSt [] [] 0)) (postR tb Try.f7.results.toList (fun (r20 : Bool) => [⟨.bool, r20⟩])))) hp7 (goal_le (gs := []) (f := [0, 1]) (by kernel_rfl) (by kernel_rfl)) (fun v12 o ho => ?_)) (fun e σ' hq => ?_)
                · replace h := ho
                  clear ho hp7
                  unfold stanzalaw05_LeastAlike_L2 at h
                  refine W_seq ?_
                  refine W_reg tbok ⟨[], []⟩ [] [0, 1] [(9, .adr 0 0 2 0), (10, .adr 1 0 2 0), (18, .p false (.slice (.int .i64)) r18), (19, .p false (.slice (.int .i64)) r19), (103, .p false (.int .i64) (r18.length : Int)), (104, .p false (.int .i64) v12), (105, .p false .bool (decide (v12 < (r18.length : Int))))] [(0, .box [.p false (.slice (.slice (.int .i64))) r4.1, .p false (.slice (.int .u32)) r4.2]), (1, .box [.p false (.slice (.slice (.int .i64))) r7.1, .p false (.slice (.int .u32)) r7.2])] 2 0 [True] (by kernel_rfl) (by kernel_rfl) ⟨trivial, trivial⟩ ?_
                  refine to_then ?_
                  refine W_seq ?_
                  refine W_cond (b := (decide (v12 < (r18.length : Int)))) (β := false) (by kernel_rfl) (fun hb30 => ?_) (fun hb30 => ?_)
                  · replace h := h_if hb30 h
                    refine W_skip_to ?_
                    refine to_then ?_
                    refine W_seq ?_
                    refine W_block ?_
                    refine W_seq ?_
                    refine W_reg tbok ⟨[], []⟩ [] [0, 1] [(9, .adr 0 0 2 0), (10, .adr 1 0 2 0), (18, .p false (.slice (.int .i64)) r18), (19, .p false (.slice (.int .i64)) r19), (20, .p false (.int .i64) v12), (103, .p false (.int .i64) (r18.length : Int)), (104, .p false (.int .i64) v12)] [(0, .box [.p false (.slice (.slice (.int .i64))) r4.1, .p false (.slice (.int .u32)) r4.2]), (1, .box [.p false (.slice (.slice (.int .i64))) r7.1, .p false (.slice (.int .u32)) r7.2])] 2 0 [True, True] (by kernel_rfl) (by kernel_rfl) ⟨trivial, trivial, trivial⟩ ?_
                    refine to_then ?_
                    refine W_seq ?_
                    obtain ⟨c57, h⟩ := h_guard h
                    obtain ⟨c58, h⟩ := h_guard h
                    obtain ⟨c59, h⟩ := h_guard h
                    obtain ⟨c60, h⟩ := h_guard h
                    refine W_regD tbok mixed ⟨[], []⟩ [] [0, 1] [(9, .adr 0 0 2 0), (10, .adr 1 0 2 0), (18, .p false (.slice (.int .i64)) r18), (19, .p false (.slice (.int .i64)) r19), (103, .p false (.int .i64) (r18.length : Int)), (104, .p false (.int .i64) v12), (123, .p false .bool ((r4.2.getD ((r18.getD v12.toNat (0 : Int)).toNat) (0 : Int)) != (r7.2.getD ((r19.getD v12.toNat (0 : Int)).toNat) (0 : Int))))] [(0, .box [.p false (.slice (.slice (.int .i64))) r4.1, .p false (.slice (.int .u32)) r4.2]), (1, .box [.p false (.slice (.slice (.int .i64))) r7.1, .p false (.slice (.int .u32)) r7.2])] 2 0 [True, True, True, True, 0 ≤ v12 ∧ v12 < (r18.length : Int), True, 0 ≤ (r18.getD v12.toNat (0 : Int)) ∧ (r18.getD v12.toNat (0 : Int)) < (r4.2.length : Int), True, True, True, True, True, 0 ≤ v12 ∧ v12 < (r19.length : Int), True, 0 ≤ (r19.getD v12.toNat (0 : Int)) ∧ (r19.getD v12.toNat (0 : Int)) < (r7.2.length : Int), True, True] (by kernel_rfl) (by kernel_rfl) ⟨trivial, trivial, trivial, trivial, c57, trivial, c58, trivial, trivial, trivial, trivial, trivial, c59, trivial, c60, trivial, trivial, trivial⟩ ?_
                    refine to_then ?_
                    refine W_cond (b := ((r4.2.getD ((r18.getD v12.toNat (0 : Int)).toNat) (0 : Int)) != (r7.2.getD ((r19.getD v12.toNat (0 : Int)).toNat) (0 : Int)))) (β := false) (by kernel_rfl) (fun hb31 => ?_) (fun hb31 => ?_)
                    · replace h := h_if hb31 h
                      refine W_seq ?_
                      refine W_reg tbok ⟨[], []⟩ [] [] [(8, .p false .bool false)] [] 0 0 [True] (by kernel_rfl) (by kernel_rfl) ⟨trivial, trivial⟩ ?_
                      refine to_then ?_
                      refine W_ret ?_
                      obtain rfl := Option.some.inj h
                      refine blockQ_ret ?_
                      refine thenQ_ret ?_
                      refine round_ret ?_
                      refine postS_rr ?_
                      exact postR_mk (Ret_intro [.bool] (by kernel_rfl))
                    · replace h := h_else hb31 h
                      refine W_skip_to ?_
                      refine to_block ?_
                      refine to_then ?_
                      refine W_reg tbok ⟨[], []⟩ [] [0, 1] [(9, .adr 0 0 2 0), (10, .adr 1 0 2 0), (18, .p false (.slice (.int .i64)) r18), (19, .p false (.slice (.int .i64)) r19), (103, .p false (.int .i64) (r18.length : Int)), (104, .p false (.int .i64) (IntKind.i64.wrap (v12 + (1 : Int))))] [(0, .box [.p false (.slice (.slice (.int .i64))) r4.1, .p false (.slice (.int .u32)) r4.2]), (1, .box [.p false (.slice (.slice (.int .i64))) r7.1, .p false (.slice (.int .u32)) r7.2])] 2 0 [True, True] (by kernel_rfl) (by kernel_rfl) ⟨trivial, trivial, trivial⟩ ?_
                      obtain rfl := Option.some.inj h
                      exact roundB (goal_le (gs := []) (f := [0, 1]) (by kernel_rfl) (by kernel_rfl))
                  · replace h := h_else hb30 h
                    refine W_exit_to ?_
                    refine thenE ?_
                    obtain rfl := Option.some.inj h
                    refine roundE ?_
                    refine postS_l ?_
                    exact postX_to (goal_le (gs := []) (f := []) (by kernel_rfl) (by kernel_rfl))
                · clear hp7
                  rcases r21 with _ | r20
                  · obtain ⟨rfl, hle⟩ := hq
                    refine use_to ?_ hle
                    refine blockE_eq ?_
                    refine to_then ?_
                    refine W_seq ?_
                    refine W_reg tbok ⟨[], []⟩ [] [] [(8, .p false .bool true)] [] 0 0 [True] (by kernel_rfl) (by kernel_rfl) ⟨trivial, trivial⟩ ?_
                    refine to_then ?_
                    refine W_ret ?_
                    obtain rfl := Option.some.inj h
                    exact Ret_intro [.bool] (by kernel_rfl)
                  · obtain ⟨rfl, hr⟩ := hq
                    refine blockQ_ret ?_
                    refine thenQ_ret ?_
                    obtain rfl := Option.some.inj h
                    exact hr

end
end Go.Proofs.Ytnnbofkcfooljaa.T
