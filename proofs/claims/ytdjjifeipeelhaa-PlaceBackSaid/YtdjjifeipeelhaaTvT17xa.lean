/- Functions of the program as functions on data, and that the program's own come to them. -/
import Derived.Test.YtdjjifeipeelhaaTvT17x0
namespace Go.Proofs.Ytdjjifeipeelhaa.T
open Go Go.Tv Go.Proofs
noncomputable section

/-- a loop of 'stanza/stanzahand03.Para': one round -/
def stanzahand03_Para_L1 (d1 : List (Int × Int × Int × Int)) : ((List (Int × Int × Int × Int)) × Int × Int) → Option (((List (Int × Int × Int × Int)) × Int × Int) ⊕ (List (Int × Int × Int × Int))) := fun ((v6, v7, v8) : (List (Int × Int × Int × Int)) × Int × Int) =>
  (((if (decide (v8 < (d1.length : Int))) = true then some ((decide (v7 < (4000 : Int))))
  else some (false))).bind fun (v10 : Bool) => (if v10 = true then (if 0 ≤ v8 ∧ v8 < (d1.length : Int) then (if ¬ (4 : Int) = 0 then (if ¬ (3 : Int) = 0 then (if ¬ (3 : Int) = 0 then (if (v6.length + ([(v7, ((IntKind.i64.wrap ((1 : Int) + (IntKind.i64.wrap (Int.tmod ((d1.getD v8.toNat ((0 : Int), ((0 : Int), ((0 : Int), (0 : Int))))).2.2.1) (4 : Int))))), ((IntKind.i64.wrap (Int.tmod ((d1.getD v8.toNat ((0 : Int), ((0 : Int), ((0 : Int), (0 : Int))))).1) (3 : Int))), (Int.tmod ((d1.getD v8.toNat ((0 : Int), ((0 : Int), ((0 : Int), (0 : Int))))).2.1) (3 : Int)))))] : List (Int × Int × Int × Int)).length) * 32 ≤ 140737488355328 ∧ v6.length + ([(v7, ((IntKind.i64.wrap ((1 : Int) + (IntKind.i64.wrap (Int.tmod ((d1.getD v8.toNat ((0 : Int), ((0 : Int), ((0 : Int), (0 : Int))))).2.2.1) (4 : Int))))), ((IntKind.i64.wrap (Int.tmod ((d1.getD v8.toNat ((0 : Int), ((0 : Int), ((0 : Int), (0 : Int))))).1) (3 : Int))), (Int.tmod ((d1.getD v8.toNat ((0 : Int), ((0 : Int), ((0 : Int), (0 : Int))))).2.1) (3 : Int)))))] : List (Int × Int × Int × Int)).length ≤ 9223372036854775807 then some (Sum.inl ((v6 ++ ([(v7, ((IntKind.i64.wrap ((1 : Int) + (IntKind.i64.wrap (Int.tmod ((d1.getD v8.toNat ((0 : Int), ((0 : Int), ((0 : Int), (0 : Int))))).2.2.1) (4 : Int))))), ((IntKind.i64.wrap (Int.tmod ((d1.getD v8.toNat ((0 : Int), ((0 : Int), ((0 : Int), (0 : Int))))).1) (3 : Int))), (Int.tmod ((d1.getD v8.toNat ((0 : Int), ((0 : Int), ((0 : Int), (0 : Int))))).2.1) (3 : Int)))))] : List (Int × Int × Int × Int))), (IntKind.i64.wrap (v7 + (IntKind.i64.wrap ((1 : Int) + (IntKind.i64.wrap (Int.tmod ((d1.getD v8.toNat ((0 : Int), ((0 : Int), ((0 : Int), (0 : Int))))).2.2.1) (4 : Int))))))), (IntKind.i64.wrap (v8 + (1 : Int))))) else none) else none) else none) else none) else none)
  else some (Sum.inr v6)))

/-- a loop of 'stanza/stanzahand03.Para': one round -/
def stanzahand03_Para_L2 (d1 : List (Int × Int × Int × Int)) (v9 : List (Int × Int × Int × Int)) : ((List Int) × Int) → Option (((List Int) × Int) ⊕ (List Int)) := fun ((v15, v16) : (List Int) × Int) =>
  (if (decide (v16 < (v9.length : Int))) = true then (((if (decide (v16 > (0 : Int))) = true then (if 0 ≤ (IntKind.i64.wrap (v16 - (1 : Int))) ∧ (IntKind.i64.wrap (v16 - (1 : Int))) < (d1.length : Int) then (if ¬ (4 : Int) = 0 then some ((Int.tmod ((d1.getD ((IntKind.i64.wrap (v16 - (1 : Int))).toNat) ((0 : Int), ((0 : Int), ((0 : Int), (0 : Int))))).2.2.2) (4 : Int))) else none) else none)
  else some ((0 : Int)))).bind fun (v18 : Int) => (if (v15.length + ([v18] : List Int).length) * 1 ≤ 140737488355328 ∧ v15.length + ([v18] : List Int).length ≤ 9223372036854775807 then some (Sum.inl ((v15 ++ ([v18] : List Int)), (IntKind.i64.wrap (v16 + (1 : Int))))) else none))
  else some (Sum.inr v15))

/-- 'stanza/stanzahand03.Para' -/
def stanzahand03_Para (d1 : List (Int × Int × Int × Int)) : Option ((List (Int × Int × Int × Int)) × List Int) :=
  ((iter (stanzahand03_Para_L1 d1) (([] : List (Int × Int × Int × Int)), (0 : Int), (0 : Int))).bind fun (v9 : List (Int × Int × Int × Int)) => ((iter (stanzahand03_Para_L2 d1 v9) (([] : List Int), (0 : Int))).bind fun (v17 : List Int) => (if (v17.length + ([(2 : Int)] : List Int).length) * 1 ≤ 140737488355328 ∧ v17.length + ([(2 : Int)] : List Int).length ≤ 9223372036854775807 then some (v9, (v17 ++ ([(2 : Int)] : List Int))) else none)))

set_option maxRecDepth 100000 in
set_option maxHeartbeats 4000000 in
theorem stanzahand03_Para_ok (β0 : Bool) (d1 : List (Int × Int × Int × Int)) (res : (List (Int × Int × Int × Int)) × List Int) (h : stanzahand03_Para d1 = some res) :
    Pure Try.prog 18 [.p β0 (.slice (.prod (.int .u8) (.prod (.int .u8) (.prod (.int .u8) (.int .u8))))) d1] (wrapR (encs false [⟨(.prod (.slice (.prod (.int .i64) (.prod (.int .i64) (.prod (.int .i64) (.int .u8))))) (.slice (.int .u8))), res⟩])) := by
  refine Pure.of_body tbok Try.func18 (by kernel_rfl) rfl (Nat.le_of_ble_eq_true rfl) (fun Bw w0 => ?_) rfl
  unfold stanzahand03_Para at h
  refine W_seq ?_
  refine W_reg tbok ⟨[], []⟩ [] [0] [(0, .p β0 (.slice (.prod (.int .u8) (.prod (.int .u8) (.prod (.int .u8) (.int .u8))))) d1), (2, .adr 0 0 2 0)] [(0, .box [.nils, .nils])] 1 0 [True] (by kernel_rfl) (by kernel_rfl) ⟨trivial, trivial⟩ ?_
  refine to_then ?_
  refine W_seq ?_
  refine W_reg tbok ⟨[], []⟩ [] [0, 9] [(0, .p β0 (.slice (.prod (.int .u8) (.prod (.int .u8) (.prod (.int .u8) (.int .u8))))) d1), (2, .adr 0 0 2 0), (3, .adr 1 0 2 0)] [(0, .box [.nils, .nils]), (1, .box [.nils, .nils])] 2 0 [True, True, True] (by kernel_rfl) (by kernel_rfl) ⟨trivial, trivial, trivial, trivial⟩ ?_
  refine to_then ?_
  refine W_seq ?_
  refine W_reg tbok ⟨[], []⟩ [] [0, 1] [(0, .p β0 (.slice (.prod (.int .u8) (.prod (.int .u8) (.prod (.int .u8) (.int .u8))))) d1), (2, .adr 0 0 2 0), (3, .adr 1 0 2 0), (4, .p false (.int .i64) (0 : Int))] [(0, .box [.nils, .nils]), (1, .box [.nils, .nils])] 2 0 [True] (by kernel_rfl) (by kernel_rfl) ⟨trivial, trivial⟩ ?_
  refine to_then ?_
  refine W_seq ?_
  refine W_seq ?_
  refine W_reg tbok ⟨[], []⟩ [] [0, 1] [(0, .p β0 (.slice (.prod (.int .u8) (.prod (.int .u8) (.prod (.int .u8) (.int .u8))))) d1), (2, .adr 0 0 2 0), (3, .adr 1 0 2 0), (4, .p false (.int .i64) (0 : Int)), (5, .p false (.int .i64) (0 : Int))] [(0, .box [.nils, .nils]), (1, .box [.nils, .nils])] 2 0 [True] (by kernel_rfl) (by kernel_rfl) ⟨trivial, trivial⟩ ?_
  refine to_then ?_
  refine W_block ?_
  obtain ⟨v9, hp4, h⟩ := h_bind h
  refine W.mono (Q := (postX Try.f18.ntmps 0 (fun (v9 : List (Int × Int × Int × Int)) => mkSt [(0, .p β0 (.slice (.prod (.int .u8) (.prod (.int .u8) (.prod (.int .u8) (.int .u8))))) d1), (2, .adr 0 0 2 0), (3, .adr 1 0 2 0)] [(0, .box [.nils, .nils]), (1, .box [.sl 2, .nils]), (2, .arr 56 (.prod (.int .i64) (.prod (.int .i64) (.prod (.int .i64) (.int .u8)))) v9)] 3)) v9) (W_iter (f := fun ((v6, v7, v8) : (List (Int × Int × Int × Int)) × Int × Int) => mkSt [(0, .p β0 (.slice (.prod (.int .u8) (.prod (.int .u8) (.prod (.int .u8) (.int .u8))))) d1), (2, .adr 0 0 2 0), (3, .adr 1 0 2 0), (4, .p false (.int .i64) v7), (5, .p false (.int .i64) v8)] [(0, .box [.nils, .nils]), (1, .box [.sl 2, .nils]), (2, .arr 56 (.prod (.int .i64) (.prod (.int .i64) (.prod (.int .i64) (.int .u8)))) v6)] 3) (Q := (postX Try.f18.ntmps 0 (fun (v9 : List (Int × Int × Int × Int)) => mkSt [(0, .p β0 (.slice (.prod (.int .u8) (.prod (.int .u8) (.prod (.int .u8) (.int .u8))))) d1), (2, .adr 0 0 2 0), (3, .adr 1 0 2 0)] [(0, .box [.nils, .nils]), (1, .box [.sl 2, .nils]), (2, .arr 56 (.prod (.int .i64) (.prod (.int .i64) (.prod (.int .i64) (.int .u8)))) v9)] 3))) hp4 (goal_le (gs := [.nilC 1 0 2 56 (.prod (.int .i64) (.prod (.int .i64) (.prod (.int .i64) (.int .u8))))]) (f := [0, 1, 2]) (by kernel_rfl) (by kernel_rfl)) (fun y o ho => ?_)) (fun e σ' hq => ?_)
  · obtain ⟨v6, v7, v8⟩ := y
    replace h := ho
    clear ho hp4
    unfold stanzahand03_Para_L1 at h
    refine W_seq ?_
    refine W_seq ?_
    obtain ⟨v10, hp3, h⟩ := h_bind h
    refine W.mono (Q := (postN Try.f18.ntmps (fun (v10 : Bool) => mkSt [(0, .p β0 (.slice (.prod (.int .u8) (.prod (.int .u8) (.prod (.int .u8) (.int .u8))))) d1), (2, .adr 0 0 2 0), (3, .adr 1 0 2 0), (4, .p false (.int .i64) v7), (5, .p false (.int .i64) v8), (18, .p false .bool v10)] [(0, .box [.nils, .nils]), (1, .box [.sl 2, .nils]), (2, .arr 56 (.prod (.int .i64) (.prod (.int .i64) (.prod (.int .i64) (.int .u8)))) v6)] 3)) v10) ?_ (fun e σ' hq => ?_)
    · replace h := hp3
      clear hp3
      rcases Bool.eq_false_or_eq_true (decide (v8 < (d1.length : Int))) with hb11 | hb11
      · replace h := h_if hb11 h
        refine W_reg tbok ⟨[(4, true), (7, true)], []⟩ [] [0, 1, 2] [(0, .p β0 (.slice (.prod (.int .u8) (.prod (.int .u8) (.prod (.int .u8) (.int .u8))))) d1), (2, .adr 0 0 2 0), (3, .adr 1 0 2 0), (4, .p false (.int .i64) v7), (5, .p false (.int .i64) v8), (18, .p false .bool (decide (v7 < (4000 : Int))))] [(0, .box [.nils, .nils]), (1, .box [.sl 2, .nils]), (2, .arr 56 (.prod (.int .i64) (.prod (.int .i64) (.prod (.int .i64) (.int .u8)))) v6)] 3 0 [True, True, True, True, True, (decide (v8 < (d1.length : Int))) = true ∧ True, (decide (v8 < (d1.length : Int))) = true ∧ True, (decide (v8 < (d1.length : Int))) = true] (by kernel_rfl) (by kernel_rfl) ⟨trivial, trivial, trivial, trivial, trivial, ⟨hb11, trivial⟩, ⟨hb11, trivial⟩, hb11, trivial⟩ ?_
        obtain rfl := Option.some.inj h
        exact postN_to (goal_le (gs := []) (f := [0, 1, 2]) (by kernel_rfl) (by kernel_rfl))
      · replace h := h_else hb11 h
        refine W_reg tbok ⟨[(4, false), (7, false)], []⟩ [] [0, 1, 2] [(0, .p β0 (.slice (.prod (.int .u8) (.prod (.int .u8) (.prod (.int .u8) (.int .u8))))) d1), (2, .adr 0 0 2 0), (3, .adr 1 0 2 0), (4, .p false (.int .i64) v7), (5, .p false (.int .i64) v8), (18, .p false .bool false)] [(0, .box [.nils, .nils]), (1, .box [.sl 2, .nils]), (2, .arr 56 (.prod (.int .i64) (.prod (.int .i64) (.prod (.int .i64) (.int .u8)))) v6)] 3 0 [True, True, True, True, True, (decide (v8 < (d1.length : Int))) = false, (decide (v8 < (d1.length : Int))) = false, (decide (v8 < (d1.length : Int))) = false] (by kernel_rfl) (by kernel_rfl) ⟨trivial, trivial, trivial, trivial, trivial, hb11, hb11, hb11, trivial⟩ ?_
        obtain rfl := Option.some.inj h
        exact postN_to (goal_le (gs := []) (f := [0, 1, 2]) (by kernel_rfl) (by kernel_rfl))
    · clear hp3
      obtain ⟨rfl, hle⟩ := hq
      refine use_to ?_ hle
      refine to_then ?_
      refine W_cond (b := v10) (β := false) (by kernel_rfl) (fun hb12 => ?_) (fun hb12 => ?_)
      · replace h := h_if hb12 h
        refine W_skip_to ?_
        refine to_then ?_
        refine W_seq ?_
        refine W_block ?_
        refine W_seq ?_
        obtain ⟨c22, h⟩ := h_guard h
        refine W_reg tbok ⟨[], []⟩ [] [0, 1, 2, 35] [(0, .p β0 (.slice (.prod (.int .u8) (.prod (.int .u8) (.prod (.int .u8) (.int .u8))))) d1), (2, .adr 0 0 2 0), (3, .adr 1 0 2 0), (4, .p false (.int .i64) v7), (5, .p false (.int .i64) v8), (6, .adr 3 0 4 0)] [(0, .box [.nils, .nils]), (1, .box [.sl 2, .nils]), (2, .arr 56 (.prod (.int .i64) (.prod (.int .i64) (.prod (.int .i64) (.int .u8)))) v6), (3, .box [.p false (.int .u8) ((d1.getD v8.toNat ((0 : Int), ((0 : Int), ((0 : Int), (0 : Int))))).1), .p false (.int .u8) ((d1.getD v8.toNat ((0 : Int), ((0 : Int), ((0 : Int), (0 : Int))))).2.1), .p false (.int .u8) ((d1.getD v8.toNat ((0 : Int), ((0 : Int), ((0 : Int), (0 : Int))))).2.2.1), .p false (.int .u8) ((d1.getD v8.toNat ((0 : Int), ((0 : Int), ((0 : Int), (0 : Int))))).2.2.2)])] 4 0 [True, True, 0 ≤ v8 ∧ v8 < (d1.length : Int), True, True, True] (by kernel_rfl) (by kernel_rfl) ⟨trivial, trivial, c22, trivial, trivial, trivial, trivial⟩ ?_
        refine to_then ?_
        refine W_seq ?_
        obtain ⟨c26, h⟩ := h_guard h
        obtain ⟨c27, h⟩ := h_guard h
        obtain ⟨c28, h⟩ := h_guard h
        refine W_reg tbok ⟨[], []⟩ [] [0, 1, 2, 116] [(0, .p β0 (.slice (.prod (.int .u8) (.prod (.int .u8) (.prod (.int .u8) (.int .u8))))) d1), (2, .adr 0 0 2 0), (3, .adr 1 0 2 0), (4, .p false (.int .i64) v7), (5, .p false (.int .i64) v8), (7, .adr 3 0 4 0)] [(0, .box [.nils, .nils]), (1, .box [.sl 2, .nils]), (2, .arr 56 (.prod (.int .i64) (.prod (.int .i64) (.prod (.int .i64) (.int .u8)))) v6), (3, .box [.p false (.int .i64) v7, .p false (.int .i64) (IntKind.i64.wrap ((1 : Int) + (IntKind.i64.wrap (Int.tmod ((d1.getD v8.toNat ((0 : Int), ((0 : Int), ((0 : Int), (0 : Int))))).2.2.1) (4 : Int))))), .p false (.int .i64) (IntKind.i64.wrap (Int.tmod ((d1.getD v8.toNat ((0 : Int), ((0 : Int), ((0 : Int), (0 : Int))))).1) (3 : Int))), .p false (.int .u8) (Int.tmod ((d1.getD v8.toNat ((0 : Int), ((0 : Int), ((0 : Int), (0 : Int))))).2.1) (3 : Int))])] 4 0 [True, True, True, ¬ (4 : Int) = 0, True, True, True, True, ¬ (3 : Int) = 0, True, True, True, ¬ (3 : Int) = 0, True, True, True] (by kernel_rfl) (by kernel_rfl) ⟨trivial, trivial, trivial, c26, trivial, trivial, trivial, trivial, c27, trivial, trivial, trivial, c28, trivial, trivial, trivial, trivial⟩ ?_
        refine to_then ?_
        refine W_seq ?_
        refine W_reg tbok ⟨[], []⟩ [] [0, 1, 2, 3] [(0, .p β0 (.slice (.prod (.int .u8) (.prod (.int .u8) (.prod (.int .u8) (.int .u8))))) d1), (2, .adr 0 0 2 0), (3, .adr 1 0 2 0), (4, .p false (.int .i64) (IntKind.i64.wrap (v7 + (IntKind.i64.wrap ((1 : Int) + (IntKind.i64.wrap (Int.tmod ((d1.getD v8.toNat ((0 : Int), ((0 : Int), ((0 : Int), (0 : Int))))).2.2.1) (4 : Int)))))))), (5, .p false (.int .i64) v8), (7, .adr 3 0 4 0)] [(0, .box [.nils, .nils]), (1, .box [.sl 2, .nils]), (2, .arr 56 (.prod (.int .i64) (.prod (.int .i64) (.prod (.int .i64) (.int .u8)))) v6), (3, .box [.p false (.int .i64) v7, .p false (.int .i64) (IntKind.i64.wrap ((1 : Int) + (IntKind.i64.wrap (Int.tmod ((d1.getD v8.toNat ((0 : Int), ((0 : Int), ((0 : Int), (0 : Int))))).2.2.1) (4 : Int))))), .p false (.int .i64) (IntKind.i64.wrap (Int.tmod ((d1.getD v8.toNat ((0 : Int), ((0 : Int), ((0 : Int), (0 : Int))))).1) (3 : Int))), .p false (.int .u8) (Int.tmod ((d1.getD v8.toNat ((0 : Int), ((0 : Int), ((0 : Int), (0 : Int))))).2.1) (3 : Int))])] 4 0 [True, True, True, True, True] (by kernel_rfl) (by kernel_rfl) ⟨trivial, trivial, trivial, trivial, trivial, trivial⟩ ?_
        refine to_then ?_
        obtain ⟨c30, h⟩ := h_guard h
        refine W_reg tbok ⟨[], []⟩ [] [0, 1, 36] [(0, .p β0 (.slice (.prod (.int .u8) (.prod (.int .u8) (.prod (.int .u8) (.int .u8))))) d1), (2, .adr 0 0 2 0), (3, .adr 1 0 2 0), (4, .p false (.int .i64) (IntKind.i64.wrap (v7 + (IntKind.i64.wrap ((1 : Int) + (IntKind.i64.wrap (Int.tmod ((d1.getD v8.toNat ((0 : Int), ((0 : Int), ((0 : Int), (0 : Int))))).2.2.1) (4 : Int)))))))), (5, .p false (.int .i64) v8)] [(0, .box [.nils, .nils]), (1, .box [.sl 2, .nils]), (2, .arr 56 (.prod (.int .i64) (.prod (.int .i64) (.prod (.int .i64) (.int .u8)))) (v6 ++ ([(v7, ((IntKind.i64.wrap ((1 : Int) + (IntKind.i64.wrap (Int.tmod ((d1.getD v8.toNat ((0 : Int), ((0 : Int), ((0 : Int), (0 : Int))))).2.2.1) (4 : Int))))), ((IntKind.i64.wrap (Int.tmod ((d1.getD v8.toNat ((0 : Int), ((0 : Int), ((0 : Int), (0 : Int))))).1) (3 : Int))), (Int.tmod ((d1.getD v8.toNat ((0 : Int), ((0 : Int), ((0 : Int), (0 : Int))))).2.1) (3 : Int)))))] : List (Int × Int × Int × Int))))] 3 0 [True, True, True, True, (v6.length + ([(v7, ((IntKind.i64.wrap ((1 : Int) + (IntKind.i64.wrap (Int.tmod ((d1.getD v8.toNat ((0 : Int), ((0 : Int), ((0 : Int), (0 : Int))))).2.2.1) (4 : Int))))), ((IntKind.i64.wrap (Int.tmod ((d1.getD v8.toNat ((0 : Int), ((0 : Int), ((0 : Int), (0 : Int))))).1) (3 : Int))), (Int.tmod ((d1.getD v8.toNat ((0 : Int), ((0 : Int), ((0 : Int), (0 : Int))))).2.1) (3 : Int)))))] : List (Int × Int × Int × Int)).length) * 32 ≤ 140737488355328 ∧ v6.length + ([(v7, ((IntKind.i64.wrap ((1 : Int) + (IntKind.i64.wrap (Int.tmod ((d1.getD v8.toNat ((0 : Int), ((0 : Int), ((0 : Int), (0 : Int))))).2.2.1) (4 : Int))))), ((IntKind.i64.wrap (Int.tmod ((d1.getD v8.toNat ((0 : Int), ((0 : Int), ((0 : Int), (0 : Int))))).1) (3 : Int))), (Int.tmod ((d1.getD v8.toNat ((0 : Int), ((0 : Int), ((0 : Int), (0 : Int))))).2.1) (3 : Int)))))] : List (Int × Int × Int × Int)).length ≤ 9223372036854775807, True, True] (by kernel_rfl) (by kernel_rfl) ⟨trivial, trivial, trivial, trivial, c30, trivial, trivial, trivial⟩ ?_
        refine to_block ?_
        refine to_then ?_
        refine W_reg tbok ⟨[], []⟩ [] [0, 1, 2] [(0, .p β0 (.slice (.prod (.int .u8) (.prod (.int .u8) (.prod (.int .u8) (.int .u8))))) d1), (2, .adr 0 0 2 0), (3, .adr 1 0 2 0), (4, .p false (.int .i64) (IntKind.i64.wrap (v7 + (IntKind.i64.wrap ((1 : Int) + (IntKind.i64.wrap (Int.tmod ((d1.getD v8.toNat ((0 : Int), ((0 : Int), ((0 : Int), (0 : Int))))).2.2.1) (4 : Int)))))))), (5, .p false (.int .i64) (IntKind.i64.wrap (v8 + (1 : Int))))] [(0, .box [.nils, .nils]), (1, .box [.sl 2, .nils]), (2, .arr 56 (.prod (.int .i64) (.prod (.int .i64) (.prod (.int .i64) (.int .u8)))) (v6 ++ ([(v7, ((IntKind.i64.wrap ((1 : Int) + (IntKind.i64.wrap (Int.tmod ((d1.getD v8.toNat ((0 : Int), ((0 : Int), ((0 : Int), (0 : Int))))).2.2.1) (4 : Int))))), ((IntKind.i64.wrap (Int.tmod ((d1.getD v8.toNat ((0 : Int), ((0 : Int), ((0 : Int), (0 : Int))))).1) (3 : Int))), (Int.tmod ((d1.getD v8.toNat ((0 : Int), ((0 : Int), ((0 : Int), (0 : Int))))).2.1) (3 : Int)))))] : List (Int × Int × Int × Int))))] 3 0 [True, True, True] (by kernel_rfl) (by kernel_rfl) ⟨trivial, trivial, trivial, trivial⟩ ?_
        obtain rfl := Option.some.inj h
        exact roundB (goal_le (gs := []) (f := [0, 1, 2]) (by kernel_rfl) (by kernel_rfl))
      · replace h := h_else hb12 h
        refine W_exit_to ?_
        refine thenE ?_
        obtain rfl := Option.some.inj h
        refine roundE ?_
        exact postX_to (goal_le (gs := []) (f := [0, 1, 2]) (by kernel_rfl) (by kernel_rfl))
  · clear hp4
    obtain ⟨rfl, hle⟩ := hq
    refine use_to ?_ hle
    refine blockE_eq ?_
    refine to_then ?_
    refine W_seq ?_
    refine W_seq ?_
    refine W_reg tbok ⟨[], []⟩ [] [0, 1, 2] [(0, .p β0 (.slice (.prod (.int .u8) (.prod (.int .u8) (.prod (.int .u8) (.int .u8))))) d1), (2, .adr 0 0 2 0), (3, .adr 1 0 2 0), (8, .p false (.int .i64) (0 : Int))] [(0, .box [.nils, .nils]), (1, .box [.sl 2, .nils]), (2, .arr 56 (.prod (.int .i64) (.prod (.int .i64) (.prod (.int .i64) (.int .u8)))) v9)] 3 0 [True] (by kernel_rfl) (by kernel_rfl) ⟨trivial, trivial⟩ ?_
    refine to_then ?_
    refine W_block ?_
    obtain ⟨v17, hp8, h⟩ := h_bind h
    refine W.mono (Q := (postX Try.f18.ntmps 2 (fun (v17 : List Int) => mkSt [(2, .adr 0 0 2 0), (3, .adr 1 0 2 0)] [(0, .box [.nils, .nils]), (1, .box [.sl 2, .sl 3]), (2, .arr 56 (.prod (.int .i64) (.prod (.int .i64) (.prod (.int .i64) (.int .u8)))) v9), (3, .arr 58 (.int .u8) v17)] 4)) v17) (W_iter (f := fun ((v15, v16) : (List Int) × Int) => mkSt [(0, .p β0 (.slice (.prod (.int .u8) (.prod (.int .u8) (.prod (.int .u8) (.int .u8))))) d1), (2, .adr 0 0 2 0), (3, .adr 1 0 2 0), (8, .p false (.int .i64) v16)] [(0, .box [.nils, .nils]), (1, .box [.sl 2, .sl 3]), (2, .arr 56 (.prod (.int .i64) (.prod (.int .i64) (.prod (.int .i64) (.int .u8)))) v9), (3, .arr 58 (.int .u8) v15)] 4) (Q := (postX Try.f18.ntmps 2 (fun (v17 : List Int) => mkSt [(2, .adr 0 0 2 0), (3, .adr 1 0 2 0)] [(0, .box [.nils, .nils]), (1, .box [.sl 2, .sl 3]), (2, .arr 56 (.prod (.int .i64) (.prod (.int .i64) (.prod (.int .i64) (.int .u8)))) v9), (3, .arr 58 (.int .u8) v17)] 4))) hp8 (goal_le (gs := [.nilC 1 1 3 58 (.int .u8)]) (f := [0, 1, 2, 3]) (by kernel_rfl) (by kernel_rfl)) (fun y o ho => ?_)) (fun e σ' hq => ?_)
    · obtain ⟨v15, v16⟩ := y
      replace h := ho
      clear ho hp8
      unfold stanzahand03_Para_L2 at h
      refine W_seq ?_
      refine W_seq ?_
      refine W_reg tbok ⟨[], []⟩ [] [0, 1, 2, 3] [(0, .p β0 (.slice (.prod (.int .u8) (.prod (.int .u8) (.prod (.int .u8) (.int .u8))))) d1), (2, .adr 0 0 2 0), (3, .adr 1 0 2 0), (8, .p false (.int .i64) v16), (53, .p false .bool (decide (v16 < (v9.length : Int))))] [(0, .box [.nils, .nils]), (1, .box [.sl 2, .sl 3]), (2, .arr 56 (.prod (.int .i64) (.prod (.int .i64) (.prod (.int .i64) (.int .u8)))) v9), (3, .arr 58 (.int .u8) v15)] 4 0 [True, True, True, True, True] (by kernel_rfl) (by kernel_rfl) ⟨trivial, trivial, trivial, trivial, trivial, trivial⟩ ?_
      refine to_then ?_
      refine W_cond (b := (decide (v16 < (v9.length : Int)))) (β := false) (by kernel_rfl) (fun hb19 => ?_) (fun hb19 => ?_)
      · replace h := h_if hb19 h
        refine W_skip_to ?_
        refine to_then ?_
        refine W_seq ?_
        refine W_block ?_
        refine W_seq ?_
        refine W_reg tbok ⟨[], []⟩ [] [0, 1, 2, 3] [(0, .p β0 (.slice (.prod (.int .u8) (.prod (.int .u8) (.prod (.int .u8) (.int .u8))))) d1), (2, .adr 0 0 2 0), (3, .adr 1 0 2 0), (8, .p false (.int .i64) v16), (9, .p false (.int .u8) (0 : Int))] [(0, .box [.nils, .nils]), (1, .box [.sl 2, .sl 3]), (2, .arr 56 (.prod (.int .i64) (.prod (.int .i64) (.prod (.int .i64) (.int .u8)))) v9), (3, .arr 58 (.int .u8) v15)] 4 0 [True] (by kernel_rfl) (by kernel_rfl) ⟨trivial, trivial⟩ ?_
        refine to_then ?_
        refine W_seq ?_
        refine W_seq ?_
        refine W_reg tbok ⟨[], []⟩ [] [0, 1, 2, 3] [(0, .p β0 (.slice (.prod (.int .u8) (.prod (.int .u8) (.prod (.int .u8) (.int .u8))))) d1), (2, .adr 0 0 2 0), (3, .adr 1 0 2 0), (8, .p false (.int .i64) v16), (9, .p false (.int .u8) (0 : Int)), (57, .p false .bool (decide (v16 > (0 : Int))))] [(0, .box [.nils, .nils]), (1, .box [.sl 2, .sl 3]), (2, .arr 56 (.prod (.int .i64) (.prod (.int .i64) (.prod (.int .i64) (.int .u8)))) v9), (3, .arr 58 (.int .u8) v15)] 4 0 [True, True] (by kernel_rfl) (by kernel_rfl) ⟨trivial, trivial, trivial⟩ ?_
        refine to_then ?_
        obtain ⟨v18, hp7, h⟩ := h_bind h
        refine W.mono (Q := (postN Try.f18.ntmps (fun (v18 : Int) => mkSt [(0, .p β0 (.slice (.prod (.int .u8) (.prod (.int .u8) (.prod (.int .u8) (.int .u8))))) d1), (2, .adr 0 0 2 0), (3, .adr 1 0 2 0), (8, .p false (.int .i64) v16), (9, .p false (.int .u8) v18)] [(0, .box [.nils, .nils]), (1, .box [.sl 2, .sl 3]), (2, .arr 56 (.prod (.int .i64) (.prod (.int .i64) (.prod (.int .i64) (.int .u8)))) v9), (3, .arr 58 (.int .u8) v15)] 4)) v18) ?_ (fun e σ' hq => ?_)
        · replace h := hp7
          clear hp7
          refine W_cond (b := (decide (v16 > (0 : Int)))) (β := false) (by kernel_rfl) (fun hb21 => ?_) (fun hb21 => ?_)
          · replace h := h_if hb21 h
            obtain ⟨c57, h⟩ := h_guard h
            obtain ⟨c58, h⟩ := h_guard h
            refine W_reg tbok ⟨[], []⟩ [] [0, 1, 2, 3] [(0, .p β0 (.slice (.prod (.int .u8) (.prod (.int .u8) (.prod (.int .u8) (.int .u8))))) d1), (2, .adr 0 0 2 0), (3, .adr 1 0 2 0), (8, .p false (.int .i64) v16), (9, .p false (.int .u8) (Int.tmod ((d1.getD ((IntKind.i64.wrap (v16 - (1 : Int))).toNat) ((0 : Int), ((0 : Int), ((0 : Int), (0 : Int))))).2.2.2) (4 : Int)))] [(0, .box [.nils, .nils]), (1, .box [.sl 2, .sl 3]), (2, .arr 56 (.prod (.int .i64) (.prod (.int .i64) (.prod (.int .i64) (.int .u8)))) v9), (3, .arr 58 (.int .u8) v15)] 4 0 [True, True, True, 0 ≤ (IntKind.i64.wrap (v16 - (1 : Int))) ∧ (IntKind.i64.wrap (v16 - (1 : Int))) < (d1.length : Int), True, True, ¬ (4 : Int) = 0, True] (by kernel_rfl) (by kernel_rfl) ⟨trivial, trivial, trivial, c57, trivial, trivial, c58, trivial, trivial⟩ ?_
            obtain rfl := Option.some.inj h
            exact postN_to (goal_le (gs := []) (f := [0, 1, 2, 3]) (by kernel_rfl) (by kernel_rfl))
          · replace h := h_else hb21 h
            refine W_skip_to ?_
            obtain rfl := Option.some.inj h
            exact postN_to (goal_le (gs := []) (f := [0, 1, 2, 3]) (by kernel_rfl) (by kernel_rfl))
        · clear hp7
          obtain ⟨rfl, hle⟩ := hq
          refine use_to ?_ hle
          refine to_then ?_
          obtain ⟨c60, h⟩ := h_guard h
          refine W_reg tbok ⟨[], []⟩ [] [0, 1, 2, 36] [(0, .p β0 (.slice (.prod (.int .u8) (.prod (.int .u8) (.prod (.int .u8) (.int .u8))))) d1), (2, .adr 0 0 2 0), (3, .adr 1 0 2 0), (8, .p false (.int .i64) v16)] [(0, .box [.nils, .nils]), (1, .box [.sl 2, .sl 3]), (2, .arr 56 (.prod (.int .i64) (.prod (.int .i64) (.prod (.int .i64) (.int .u8)))) v9), (3, .arr 58 (.int .u8) (v15 ++ ([v18] : List Int)))] 4 0 [True, True, True, True, (v15.length + ([v18] : List Int).length) * 1 ≤ 140737488355328 ∧ v15.length + ([v18] : List Int).length ≤ 9223372036854775807, True, True] (by kernel_rfl) (by kernel_rfl) ⟨trivial, trivial, trivial, trivial, c60, trivial, trivial, trivial⟩ ?_
          refine to_block ?_
          refine to_then ?_
          refine W_reg tbok ⟨[], []⟩ [] [0, 1, 2, 3] [(0, .p β0 (.slice (.prod (.int .u8) (.prod (.int .u8) (.prod (.int .u8) (.int .u8))))) d1), (2, .adr 0 0 2 0), (3, .adr 1 0 2 0), (8, .p false (.int .i64) (IntKind.i64.wrap (v16 + (1 : Int))))] [(0, .box [.nils, .nils]), (1, .box [.sl 2, .sl 3]), (2, .arr 56 (.prod (.int .i64) (.prod (.int .i64) (.prod (.int .i64) (.int .u8)))) v9), (3, .arr 58 (.int .u8) (v15 ++ ([v18] : List Int)))] 4 0 [True, True, True] (by kernel_rfl) (by kernel_rfl) ⟨trivial, trivial, trivial, trivial⟩ ?_
          obtain rfl := Option.some.inj h
          exact roundB (goal_le (gs := []) (f := [0, 1, 2, 3]) (by kernel_rfl) (by kernel_rfl))
      · replace h := h_else hb19 h
        refine W_exit_to ?_
        refine thenE ?_
        obtain rfl := Option.some.inj h
        refine roundE ?_
        exact postX_to (goal_le (gs := []) (f := [0, 1, 2, 3]) (by kernel_rfl) (by kernel_rfl))
    · clear hp8
      obtain ⟨rfl, hle⟩ := hq
      refine use_to ?_ hle
      refine blockE_eq ?_
      refine to_then ?_
      refine W_seq ?_
      obtain ⟨c62, h⟩ := h_guard h
      refine W_reg tbok ⟨[], []⟩ [] [0, 1, 2, 28] [(2, .adr 0 0 2 0), (3, .adr 1 0 2 0)] [(0, .box [.nils, .nils]), (1, .box [.sl 2, .sl 3]), (2, .arr 56 (.prod (.int .i64) (.prod (.int .i64) (.prod (.int .i64) (.int .u8)))) v9), (3, .arr 58 (.int .u8) (v17 ++ ([(2 : Int)] : List Int)))] 4 0 [True, True, True, (v17.length + ([(2 : Int)] : List Int).length) * 1 ≤ 140737488355328 ∧ v17.length + ([(2 : Int)] : List Int).length ≤ 9223372036854775807, True, True] (by kernel_rfl) (by kernel_rfl) ⟨trivial, trivial, trivial, c62, trivial, trivial, trivial⟩ ?_
      refine to_then ?_
      refine W_seq ?_
      refine W_reg tbok ⟨[], []⟩ [] [0, 2, 3] [(2, .adr 0 0 2 0)] [(0, .box [.sl 1, .sl 2]), (1, .arr 56 (.prod (.int .i64) (.prod (.int .i64) (.prod (.int .i64) (.int .u8)))) v9), (2, .arr 58 (.int .u8) (v17 ++ ([(2 : Int)] : List Int)))] 3 0 [True, True] (by kernel_rfl) (by kernel_rfl) ⟨trivial, trivial, trivial⟩ ?_
      refine to_then ?_
      refine W_ret ?_
      obtain rfl := Option.some.inj h
      exact Ret_intro [(.prod (.slice (.prod (.int .i64) (.prod (.int .i64) (.prod (.int .i64) (.int .u8))))) (.slice (.int .u8)))] (by kernel_rfl)

/-- 'stanza/span.Next' -/
def span_Next (c1 : Int) (c2 : Int) (c3 : Int) (c4 : Int) (col1 : Int) (tab1 : Int) : Option (Int) :=
  (if (c4 == (2 : Int)) = true then (if ¬ tab1 = 0 then some (IntKind.i64.wrap ((IntKind.i64.wrap (col1 + tab1)) - (Int.tmod col1 tab1))) else none)
  else some (IntKind.i64.wrap (col1 + c3)))

set_option maxRecDepth 100000 in
set_option maxHeartbeats 4000000 in
theorem span_Next_ok (c1 : Int) (c2 : Int) (c3 : Int) (c4 : Int) (col1 : Int) (tab1 : Int) (res : Int) (h : span_Next c1 c2 c3 c4 col1 tab1 = some res) :
    Pure Try.prog 38 [.agg [.p false (.int .i64) c1, .p false (.int .i64) c2, .p false (.int .i64) c3, .p false (.int .u8) c4], .p false (.int .i64) col1, .p false (.int .i64) tab1] (wrapR (encs false [⟨(.int .i64), res⟩])) := by
  refine Pure.of_body tbok Try.func38 (by kernel_rfl) rfl (Nat.le_of_ble_eq_true rfl) (fun Bw w0 => ?_) rfl
  unfold span_Next at h
  refine W_seq ?_
  refine W_reg tbok ⟨[], []⟩ [] [0] [(1, .p false (.int .i64) col1), (2, .p false (.int .i64) tab1), (3, .adr 0 0 4 0)] [(0, .box [.p false (.int .i64) c1, .p false (.int .i64) c2, .p false (.int .i64) c3, .p false (.int .u8) c4])] 1 0 [True, True] (by kernel_rfl) (by kernel_rfl) ⟨trivial, trivial, trivial⟩ ?_
  refine to_then ?_
  refine W_seq ?_
  refine W_seq ?_
  refine W_reg tbok ⟨[], []⟩ [] [0] [(1, .p false (.int .i64) col1), (2, .p false (.int .i64) tab1), (3, .adr 0 0 4 0), (9, .p false .bool (c4 == (2 : Int)))] [(0, .box [.p false (.int .i64) c1, .p false (.int .i64) c2, .p false (.int .i64) c3, .p false (.int .u8) c4])] 1 0 [True, True, True] (by kernel_rfl) (by kernel_rfl) ⟨trivial, trivial, trivial, trivial⟩ ?_
  refine to_then ?_
  refine W_cond (b := (c4 == (2 : Int))) (β := false) (by kernel_rfl) (fun hb1 => ?_) (fun hb1 => ?_)
  · replace h := h_if hb1 h
    refine W_seq ?_
    obtain ⟨c2, h⟩ := h_guard h
    refine W_reg tbok ⟨[], []⟩ [] [] [(6, .p false (.int .i64) (IntKind.i64.wrap ((IntKind.i64.wrap (col1 + tab1)) - (Int.tmod col1 tab1))))] [] 0 0 [True, True, True, True, True, ¬ tab1 = 0, True, True] (by kernel_rfl) (by kernel_rfl) ⟨trivial, trivial, trivial, trivial, trivial, c2, trivial, trivial, trivial⟩ ?_
    refine to_then ?_
    refine W_ret ?_
    refine thenQ_ret ?_
    obtain rfl := Option.some.inj h
    exact Ret_intro [(.int .i64)] (by kernel_rfl)
  · replace h := h_else hb1 h
    refine W_skip_to ?_
    refine to_then ?_
    refine W_seq ?_
    refine W_reg tbok ⟨[], []⟩ [] [] [(6, .p false (.int .i64) (IntKind.i64.wrap (col1 + c3)))] [] 0 0 [True, True, True, True, True] (by kernel_rfl) (by kernel_rfl) ⟨trivial, trivial, trivial, trivial, trivial, trivial⟩ ?_
    refine to_then ?_
    refine W_ret ?_
    obtain rfl := Option.some.inj h
    exact Ret_intro [(.int .i64)] (by kernel_rfl)

/-- a loop of 'stanza/span.Columns': one round -/
def span_Columns_L1 (p1 : List (Int × Int × Int × Int)) (to1 : Int) (tab1 : Int) : ((List Int) × Int) → Option (((List Int) × Int) ⊕ (List Int)) := fun ((out2, i2) : (List Int) × Int) =>
  (if (decide (i2 < to1)) = true then (if 0 ≤ i2 ∧ i2 < (p1.length : Int) then (if 0 ≤ (IntKind.i64.wrap ((out2.length : Int) - (1 : Int))) ∧ (IntKind.i64.wrap ((out2.length : Int) - (1 : Int))) < (out2.length : Int) then (if (IntKind.i64.wrap ((out2.length : Int) - (1 : Int))).toNat < out2.length then ((span_Next ((p1.getD i2.toNat ((0 : Int), ((0 : Int), ((0 : Int), (0 : Int))))).1) ((p1.getD i2.toNat ((0 : Int), ((0 : Int), ((0 : Int), (0 : Int))))).2.1) ((p1.getD i2.toNat ((0 : Int), ((0 : Int), ((0 : Int), (0 : Int))))).2.2.1) ((p1.getD i2.toNat ((0 : Int), ((0 : Int), ((0 : Int), (0 : Int))))).2.2.2) (out2.getD ((IntKind.i64.wrap ((out2.length : Int) - (1 : Int))).toNat) (0 : Int)) tab1).bind fun (r6 : Int) =>
  (if (out2.length + ([r6] : List Int).length) * 8 ≤ 140737488355328 ∧ out2.length + ([r6] : List Int).length ≤ 9223372036854775807 then some (Sum.inl ((out2 ++ ([r6] : List Int)), (IntKind.i64.wrap (i2 + (1 : Int))))) else none)) else none) else none) else none)
  else some (Sum.inr out2))

/-- 'stanza/span.Columns' -/
def span_Columns (p1 : List (Int × Int × Int × Int)) (p2 : List Int) (from1 : Int) (to1 : Int) (tab1 : Int) : Option (List Int) :=
  ((iter (span_Columns_L1 p1 to1 tab1) (([(0 : Int)] : List Int), from1)).bind fun (out3 : List Int) => some out3)

set_option maxRecDepth 100000 in
set_option maxHeartbeats 4000000 in
theorem span_Columns_ok (β0 β1 : Bool) (p1 : List (Int × Int × Int × Int)) (p2 : List Int) (from1 : Int) (to1 : Int) (tab1 : Int) (res : List Int) (h : span_Columns p1 p2 from1 to1 tab1 = some res) :
    Pure Try.prog 31 [.agg [.p β0 (.slice (.prod (.int .i64) (.prod (.int .i64) (.prod (.int .i64) (.int .u8))))) p1, .p β1 (.slice (.int .u8)) p2], .p false (.int .i64) from1, .p false (.int .i64) to1, .p false (.int .i64) tab1] (wrapR (encs false [⟨(.slice (.int .i64)), res⟩])) := by
  refine Pure.of_body tbok Try.func31 (by kernel_rfl) rfl (Nat.le_of_ble_eq_true rfl) (fun Bw w0 => ?_) rfl
  unfold span_Columns at h
  refine W_seq ?_
  refine W_reg tbok ⟨[], []⟩ [] [0] [(1, .p false (.int .i64) from1), (2, .p false (.int .i64) to1), (3, .p false (.int .i64) tab1), (4, .adr 0 0 2 0)] [(0, .box [.p β0 (.slice (.prod (.int .i64) (.prod (.int .i64) (.prod (.int .i64) (.int .u8))))) p1, .p β1 (.slice (.int .u8)) p2])] 1 0 [True, True] (by kernel_rfl) (by kernel_rfl) ⟨trivial, trivial, trivial⟩ ?_
  refine to_then ?_
  refine W_seq ?_
  refine W_reg tbok ⟨[], []⟩ [] [0, 1] [(1, .p false (.int .i64) from1), (2, .p false (.int .i64) to1), (3, .p false (.int .i64) tab1), (4, .adr 0 0 2 0), (9, .sl 1)] [(0, .box [.p β0 (.slice (.prod (.int .i64) (.prod (.int .i64) (.prod (.int .i64) (.int .u8))))) p1, .p β1 (.slice (.int .u8)) p2]), (1, .arr 3 (.int .i64) ([(0 : Int)] : List Int))] 2 0 [True, True] (by kernel_rfl) (by kernel_rfl) ⟨trivial, trivial, trivial⟩ ?_
  refine to_then ?_
  refine W_seq ?_
  refine W_seq ?_
  refine W_reg tbok ⟨[], []⟩ [] [0, 1] [(2, .p false (.int .i64) to1), (3, .p false (.int .i64) tab1), (4, .adr 0 0 2 0), (9, .sl 1), (10, .p false (.int .i64) from1)] [(0, .box [.p β0 (.slice (.prod (.int .i64) (.prod (.int .i64) (.prod (.int .i64) (.int .u8))))) p1, .p β1 (.slice (.int .u8)) p2]), (1, .arr 3 (.int .i64) ([(0 : Int)] : List Int))] 2 0 [True, True] (by kernel_rfl) (by kernel_rfl) ⟨trivial, trivial, trivial⟩ ?_
  refine to_then ?_
  refine W_block ?_
  obtain ⟨out3, hp1, h⟩ := h_bind h
  refine W.mono (Q := (postX Try.f31.ntmps 0 (fun (out3 : List Int) => mkSt [(9, .sl 0)] [(0, .arr 3 (.int .i64) out3)] 1)) out3) (W_iter (f := fun ((out2, i2) : (List Int) × Int) => mkSt [(2, .p false (.int .i64) to1), (3, .p false (.int .i64) tab1), (4, .adr 0 0 2 0), (9, .sl 1), (10, .p false (.int .i64) i2)] [(0, .box [.p β0 (.slice (.prod (.int .i64) (.prod (.int .i64) (.prod (.int .i64) (.int .u8))))) p1, .p β1 (.slice (.int .u8)) p2]), (1, .arr 3 (.int .i64) out2)] 2) (Q := (postX Try.f31.ntmps 0 (fun (out3 : List Int) => mkSt [(9, .sl 0)] [(0, .arr 3 (.int .i64) out3)] 1))) hp1 (goal_le (gs := []) (f := [0, 1]) (by kernel_rfl) (by kernel_rfl)) (fun y o ho => ?_)) (fun e σ' hq => ?_)
  · obtain ⟨out2, i2⟩ := y
    replace h := ho
    clear ho hp1
    unfold span_Columns_L1 at h
    refine W_seq ?_
    refine W_seq ?_
    refine W_reg tbok ⟨[], []⟩ [] [0, 1] [(2, .p false (.int .i64) to1), (3, .p false (.int .i64) tab1), (4, .adr 0 0 2 0), (9, .sl 1), (10, .p false (.int .i64) i2), (15, .p false .bool (decide (i2 < to1)))] [(0, .box [.p β0 (.slice (.prod (.int .i64) (.prod (.int .i64) (.prod (.int .i64) (.int .u8))))) p1, .p β1 (.slice (.int .u8)) p2]), (1, .arr 3 (.int .i64) out2)] 2 0 [True, True, True] (by kernel_rfl) (by kernel_rfl) ⟨trivial, trivial, trivial, trivial⟩ ?_
    refine to_then ?_
    refine W_cond (b := (decide (i2 < to1))) (β := false) (by kernel_rfl) (fun hb3 => ?_) (fun hb3 => ?_)
    · replace h := h_if hb3 h
      refine W_skip_to ?_
      refine to_then ?_
      refine W_seq ?_
      refine W_block ?_
      obtain ⟨c21, h⟩ := h_guard h
      obtain ⟨c22, h⟩ := h_guard h
      obtain ⟨c23, h⟩ := h_guard h
      obtain ⟨r6, q6, h⟩ := h_bind h
      obtain ⟨c24, h⟩ := h_guard h
      refine W_regD tbok mixed ⟨[], [(13, ⟨.p false (.int .i64) r6, [false, false, false], false, [true, true, true], [], []⟩)]⟩ [] [0, 122] [(2, .p false (.int .i64) to1), (3, .p false (.int .i64) tab1), (4, .adr 0 0 2 0), (9, .sl 1), (10, .p false (.int .i64) i2)] [(0, .box [.p β0 (.slice (.prod (.int .i64) (.prod (.int .i64) (.prod (.int .i64) (.int .u8))))) p1, .p β1 (.slice (.int .u8)) p2]), (1, .arr 3 (.int .i64) (out2 ++ ([r6] : List Int)))] 2 0 [True, True, True, True, 0 ≤ i2 ∧ i2 < (p1.length : Int), True, True, True, True, True, 0 ≤ (IntKind.i64.wrap ((out2.length : Int) - (1 : Int))) ∧ (IntKind.i64.wrap ((out2.length : Int) - (1 : Int))) < (out2.length : Int), (IntKind.i64.wrap ((out2.length : Int) - (1 : Int))).toNat < out2.length, True, Pure Try.prog 38 [.agg [.p false (.int .i64) ((p1.getD i2.toNat ((0 : Int), ((0 : Int), ((0 : Int), (0 : Int))))).1), .p false (.int .i64) ((p1.getD i2.toNat ((0 : Int), ((0 : Int), ((0 : Int), (0 : Int))))).2.1), .p false (.int .i64) ((p1.getD i2.toNat ((0 : Int), ((0 : Int), ((0 : Int), (0 : Int))))).2.2.1), .p false (.int .u8) ((p1.getD i2.toNat ((0 : Int), ((0 : Int), ((0 : Int), (0 : Int))))).2.2.2)], .p false (.int .i64) (out2.getD ((IntKind.i64.wrap ((out2.length : Int) - (1 : Int))).toNat) (0 : Int)), .p false (.int .i64) tab1] (.p false (.int .i64) r6), True, (out2.length + ([r6] : List Int).length) * 8 ≤ 140737488355328 ∧ out2.length + ([r6] : List Int).length ≤ 9223372036854775807, True] (by kernel_rfl) (by kernel_rfl) ⟨trivial, trivial, trivial, trivial, c21, trivial, trivial, trivial, trivial, trivial, c22, c23, trivial, (span_Next_ok ((p1.getD i2.toNat ((0 : Int), ((0 : Int), ((0 : Int), (0 : Int))))).1) ((p1.getD i2.toNat ((0 : Int), ((0 : Int), ((0 : Int), (0 : Int))))).2.1) ((p1.getD i2.toNat ((0 : Int), ((0 : Int), ((0 : Int), (0 : Int))))).2.2.1) ((p1.getD i2.toNat ((0 : Int), ((0 : Int), ((0 : Int), (0 : Int))))).2.2.2) (out2.getD ((IntKind.i64.wrap ((out2.length : Int) - (1 : Int))).toNat) (0 : Int)) tab1 _ q6), trivial, c24, trivial, trivial⟩ ?_
      refine to_block ?_
      refine to_then ?_
      refine W_reg tbok ⟨[], []⟩ [] [0, 1] [(2, .p false (.int .i64) to1), (3, .p false (.int .i64) tab1), (4, .adr 0 0 2 0), (9, .sl 1), (10, .p false (.int .i64) (IntKind.i64.wrap (i2 + (1 : Int))))] [(0, .box [.p β0 (.slice (.prod (.int .i64) (.prod (.int .i64) (.prod (.int .i64) (.int .u8))))) p1, .p β1 (.slice (.int .u8)) p2]), (1, .arr 3 (.int .i64) (out2 ++ ([r6] : List Int)))] 2 0 [True, True, True] (by kernel_rfl) (by kernel_rfl) ⟨trivial, trivial, trivial, trivial⟩ ?_
      obtain rfl := Option.some.inj h
      exact roundB (goal_le (gs := []) (f := [0, 1]) (by kernel_rfl) (by kernel_rfl))
    · replace h := h_else hb3 h
      refine W_exit_to ?_
      refine thenE ?_
      obtain rfl := Option.some.inj h
      refine roundE ?_
      exact postX_to (goal_le (gs := []) (f := [1]) (by kernel_rfl) (by kernel_rfl))
  · clear hp1
    obtain ⟨rfl, hle⟩ := hq
    refine use_to ?_ hle
    refine blockE_eq ?_
    refine to_then ?_
    refine W_seq ?_
    refine W_reg tbok ⟨[], []⟩ [] [0] [(8, .sl 0)] [(0, .arr 3 (.int .i64) out3)] 1 0 [True, True] (by kernel_rfl) (by kernel_rfl) ⟨trivial, trivial, trivial⟩ ?_
    refine to_then ?_
    refine W_ret ?_
    obtain rfl := Option.some.inj h
    exact Ret_intro [(.slice (.int .i64))] (by kernel_rfl)

/-- a loop of 'stanza/place.Make': one round -/
def place_Make_L1 (p1 : List (Int × Int × Int × Int)) (p2 : List Int) (tab1 : Int) (m5 : List (Int × Int × Int × Int)) : ((List (List Int)) × Int) → Option (((List (List Int)) × Int) ⊕ (List (List Int))) := fun ((m7, v4) : (List (List Int)) × Int) =>
  (if (decide (v4 < (m5.length : Int))) = true then (if 0 ≤ v4 ∧ v4 < (m5.length : Int) then ((span_Columns p1 p2 ((m5.getD v4.toNat ((0 : Int), ((0 : Int), ((0 : Int), (0 : Int))))).1) ((m5.getD v4.toNat ((0 : Int), ((0 : Int), ((0 : Int), (0 : Int))))).2.1) tab1).bind fun (r12 : List Int) =>
  (if (m7.length + ([r12] : List (List Int)).length) * 24 ≤ 140737488355328 ∧ m7.length + ([r12] : List (List Int)).length ≤ 9223372036854775807 then some (Sum.inl ((m7 ++ ([r12] : List (List Int))), (IntKind.i64.wrap (v4 + (1 : Int))))) else none)) else none)
  else some (Sum.inr m7))

/-- 'stanza/place.Make' -/
def place_Make (p1 : List (Int × Int × Int × Int)) (p2 : List Int) (l1 : List (Int × Int × Int × Int)) (tab1 : Int) : Option ((List (Int × Int × Int × Int)) × (List Int) × (List (Int × Int × Int × Int)) × List (List Int)) :=
  (((if ((l1.length : Int) == (0 : Int)) = true then some (([((0 : Int), ((0 : Int), ((0 : Int), (0 : Int))))] : List (Int × Int × Int × Int)))
  else some (l1))).bind fun (m5 : List (Int × Int × Int × Int)) => ((iter (place_Make_L1 p1 p2 tab1 m5) (([] : List (List Int)), (0 : Int))).bind fun (m8 : List (List Int)) => some (p1, p2, m5, m8)))

set_option maxRecDepth 100000 in
set_option maxHeartbeats 4000000 in
theorem place_Make_ok (p1 : List (Int × Int × Int × Int)) (p2 : List Int) (l1 : List (Int × Int × Int × Int)) (tab1 : Int) (res : (List (Int × Int × Int × Int)) × (List Int) × (List (Int × Int × Int × Int)) × List (List Int)) (h : place_Make p1 p2 l1 tab1 = some res) :
    Owns Try.prog 19 [.agg [.p false (.slice (.prod (.int .i64) (.prod (.int .i64) (.prod (.int .i64) (.int .u8))))) p1, .p false (.slice (.int .u8)) p2], .p false (.slice (.prod (.int .i64) (.prod (.int .i64) (.prod (.int .i64) (.int .u8))))) l1, .p false (.int .i64) tab1] [] (.adr 0 0 4 0) [(0, .box [.p false (.slice (.prod (.int .i64) (.prod (.int .i64) (.prod (.int .i64) (.int .u8))))) res.1, .p false (.slice (.int .u8)) res.2.1, .p false (.slice (.prod (.int .i64) (.prod (.int .i64) (.prod (.int .i64) (.int .u8))))) res.2.2.1, .sl 1]), (1, .arr 46 (.slice (.int .i64)) res.2.2.2)] := by
  refine Owns.of_body tbok Try.func19 (by kernel_rfl) rfl (Nat.le_of_ble_eq_true rfl) (fun Bw w0 => ?_)
  unfold place_Make at h
  refine W_seq ?_
  refine W_reg tbok ⟨[], []⟩ [] [0] [(1, .p false (.slice (.prod (.int .i64) (.prod (.int .i64) (.prod (.int .i64) (.int .u8))))) l1), (2, .p false (.int .i64) tab1), (3, .adr 0 0 2 0)] [(0, .box [.p false (.slice (.prod (.int .i64) (.prod (.int .i64) (.prod (.int .i64) (.int .u8))))) p1, .p false (.slice (.int .u8)) p2])] 1 0 [True, True] (by kernel_rfl) (by kernel_rfl) ⟨trivial, trivial, trivial⟩ ?_
  refine to_then ?_
  refine W_seq ?_
  refine W_reg tbok ⟨[], []⟩ [] [0, 25] [(1, .p false (.slice (.prod (.int .i64) (.prod (.int .i64) (.prod (.int .i64) (.int .u8))))) l1), (2, .p false (.int .i64) tab1), (3, .adr 0 0 2 0), (7, .adr 1 0 4 0)] [(0, .box [.p false (.slice (.prod (.int .i64) (.prod (.int .i64) (.prod (.int .i64) (.int .u8))))) p1, .p false (.slice (.int .u8)) p2]), (1, .box [.p false (.slice (.prod (.int .i64) (.prod (.int .i64) (.prod (.int .i64) (.int .u8))))) p1, .p false (.slice (.int .u8)) p2, .p false (.slice (.prod (.int .i64) (.prod (.int .i64) (.prod (.int .i64) (.int .u8))))) l1, .nils])] 2 0 [True, True, True, True, True] (by kernel_rfl) (by kernel_rfl) ⟨trivial, trivial, trivial, trivial, trivial, trivial⟩ ?_
  refine to_then ?_
  refine W_seq ?_
  refine W_seq ?_
  refine W_reg tbok ⟨[], []⟩ [] [0, 1] [(2, .p false (.int .i64) tab1), (3, .adr 0 0 2 0), (7, .adr 1 0 4 0), (16, .p false .bool ((l1.length : Int) == (0 : Int)))] [(0, .box [.p false (.slice (.prod (.int .i64) (.prod (.int .i64) (.prod (.int .i64) (.int .u8))))) p1, .p false (.slice (.int .u8)) p2]), (1, .box [.p false (.slice (.prod (.int .i64) (.prod (.int .i64) (.prod (.int .i64) (.int .u8))))) p1, .p false (.slice (.int .u8)) p2, .p false (.slice (.prod (.int .i64) (.prod (.int .i64) (.prod (.int .i64) (.int .u8))))) l1, .nils])] 2 0 [True, True, True] (by kernel_rfl) (by kernel_rfl) ⟨trivial, trivial, trivial, trivial⟩ ?_
  refine to_then ?_
  obtain ⟨m5, hp3, h⟩ := h_bind h
  refine W.mono (Q := (postN Try.f19.ntmps (fun (m5 : List (Int × Int × Int × Int)) => mkSt [(2, .p false (.int .i64) tab1), (3, .adr 0 0 2 0), (7, .adr 1 0 4 0)] [(0, .box [.p false (.slice (.prod (.int .i64) (.prod (.int .i64) (.prod (.int .i64) (.int .u8))))) p1, .p false (.slice (.int .u8)) p2]), (1, .box [.p false (.slice (.prod (.int .i64) (.prod (.int .i64) (.prod (.int .i64) (.int .u8))))) p1, .p false (.slice (.int .u8)) p2, .p false (.slice (.prod (.int .i64) (.prod (.int .i64) (.prod (.int .i64) (.int .u8))))) m5, .nils])] 2)) m5) ?_ (fun e σ' hq => ?_)
  · replace h := hp3
    clear hp3
    refine W_cond (b := ((l1.length : Int) == (0 : Int))) (β := false) (by kernel_rfl) (fun hb7 => ?_) (fun hb7 => ?_)
    · replace h := h_if hb7 h
      refine W_reg tbok ⟨[], []⟩ [] [0, 1, 18] [(2, .p false (.int .i64) tab1), (3, .adr 0 0 2 0), (7, .adr 1 0 4 0)] [(0, .box [.p false (.slice (.prod (.int .i64) (.prod (.int .i64) (.prod (.int .i64) (.int .u8))))) p1, .p false (.slice (.int .u8)) p2]), (1, .box [.p false (.slice (.prod (.int .i64) (.prod (.int .i64) (.prod (.int .i64) (.int .u8))))) p1, .p false (.slice (.int .u8)) p2, .sl 2, .nils]), (2, .arr 60 (.prod (.int .i64) (.prod (.int .i64) (.prod (.int .i64) (.int .u8)))) ([((0 : Int), ((0 : Int), ((0 : Int), (0 : Int))))] : List (Int × Int × Int × Int)))] 3 0 [True, True, True, True, True, True] (by kernel_rfl) (by kernel_rfl) ⟨trivial, trivial, trivial, trivial, trivial, trivial, trivial⟩ ?_
      obtain rfl := Option.some.inj h
      exact postN_to (goal_le (gs := [.frzC 1 2]) (f := [0, 1]) (by kernel_rfl) (by kernel_rfl))
    · replace h := h_else hb7 h
      refine W_skip_to ?_
      obtain rfl := Option.some.inj h
      exact postN_to (goal_le (gs := []) (f := [0, 1]) (by kernel_rfl) (by kernel_rfl))
  · clear hp3
    obtain ⟨rfl, hle⟩ := hq
    refine use_to ?_ hle
    refine to_then ?_
    refine W_seq ?_
    refine W_seq ?_
    refine W_reg tbok ⟨[], []⟩ [] [0, 1] [(2, .p false (.int .i64) tab1), (3, .adr 0 0 2 0), (7, .adr 1 0 4 0), (25, .p false (.slice (.prod (.int .i64) (.prod (.int .i64) (.prod (.int .i64) (.int .u8))))) m5), (26, .p false (.int .i64) (m5.length : Int)), (27, .p false (.int .i64) (0 : Int))] [(0, .box [.p false (.slice (.prod (.int .i64) (.prod (.int .i64) (.prod (.int .i64) (.int .u8))))) p1, .p false (.slice (.int .u8)) p2]), (1, .box [.p false (.slice (.prod (.int .i64) (.prod (.int .i64) (.prod (.int .i64) (.int .u8))))) p1, .p false (.slice (.int .u8)) p2, .p false (.slice (.prod (.int .i64) (.prod (.int .i64) (.prod (.int .i64) (.int .u8))))) m5, .nils])] 2 0 [True, True, True, True, True, True] (by kernel_rfl) (by kernel_rfl) ⟨trivial, trivial, trivial, trivial, trivial, trivial, trivial⟩ ?_
    refine to_then ?_
    refine W_block ?_
    obtain ⟨m8, hp4, h⟩ := h_bind h
    refine W.mono (Q := (postX Try.f19.ntmps 0 (fun (m8 : List (List Int)) => mkSt [(7, .adr 0 0 4 0)] [(0, .box [.p false (.slice (.prod (.int .i64) (.prod (.int .i64) (.prod (.int .i64) (.int .u8))))) p1, .p false (.slice (.int .u8)) p2, .p false (.slice (.prod (.int .i64) (.prod (.int .i64) (.prod (.int .i64) (.int .u8))))) m5, .sl 1]), (1, .arr 46 (.slice (.int .i64)) m8)] 2)) m8) (W_iter (f := fun ((m7, v4) : (List (List Int)) × Int) => mkSt [(2, .p false (.int .i64) tab1), (3, .adr 0 0 2 0), (7, .adr 1 0 4 0), (25, .p false (.slice (.prod (.int .i64) (.prod (.int .i64) (.prod (.int .i64) (.int .u8))))) m5), (26, .p false (.int .i64) (m5.length : Int)), (27, .p false (.int .i64) v4)] [(0, .box [.p false (.slice (.prod (.int .i64) (.prod (.int .i64) (.prod (.int .i64) (.int .u8))))) p1, .p false (.slice (.int .u8)) p2]), (1, .box [.p false (.slice (.prod (.int .i64) (.prod (.int .i64) (.prod (.int .i64) (.int .u8))))) p1, .p false (.slice (.int .u8)) p2, .p false (.slice (.prod (.int .i64) (.prod (.int .i64) (.prod (.int .i64) (.int .u8))))) m5, .sl 2]), (2, .arr 46 (.slice (.int .i64)) m7)] 3) (Q := (postX Try.f19.ntmps 0 (fun (m8 : List (List Int)) => mkSt [(7, .adr 0 0 4 0)] [(0, .box [.p false (.slice (.prod (.int .i64) (.prod (.int .i64) (.prod (.int .i64) (.int .u8))))) p1, .p false (.slice (.int .u8)) p2, .p false (.slice (.prod (.int .i64) (.prod (.int .i64) (.prod (.int .i64) (.int .u8))))) m5, .sl 1]), (1, .arr 46 (.slice (.int .i64)) m8)] 2))) hp4 (goal_le (gs := [.nilC 1 3 2 46 (.slice (.int .i64))]) (f := [0, 1, 2]) (by kernel_rfl) (by kernel_rfl)) (fun y o ho => ?_)) (fun e σ' hq => ?_)
    · obtain ⟨m7, v4⟩ := y
      replace h := ho
      clear ho hp4
      unfold place_Make_L1 at h
      refine W_seq ?_
      refine W_reg tbok ⟨[], []⟩ [] [0, 1, 2] [(2, .p false (.int .i64) tab1), (3, .adr 0 0 2 0), (7, .adr 1 0 4 0), (25, .p false (.slice (.prod (.int .i64) (.prod (.int .i64) (.prod (.int .i64) (.int .u8))))) m5), (26, .p false (.int .i64) (m5.length : Int)), (27, .p false (.int .i64) v4), (28, .p false .bool (decide (v4 < (m5.length : Int))))] [(0, .box [.p false (.slice (.prod (.int .i64) (.prod (.int .i64) (.prod (.int .i64) (.int .u8))))) p1, .p false (.slice (.int .u8)) p2]), (1, .box [.p false (.slice (.prod (.int .i64) (.prod (.int .i64) (.prod (.int .i64) (.int .u8))))) p1, .p false (.slice (.int .u8)) p2, .p false (.slice (.prod (.int .i64) (.prod (.int .i64) (.prod (.int .i64) (.int .u8))))) m5, .sl 2]), (2, .arr 46 (.slice (.int .i64)) m7)] 3 0 [True] (by kernel_rfl) (by kernel_rfl) ⟨trivial, trivial⟩ ?_
      refine to_then ?_
      refine W_seq ?_
      refine W_cond (b := (decide (v4 < (m5.length : Int)))) (β := false) (by kernel_rfl) (fun hb10 => ?_) (fun hb10 => ?_)
      · replace h := h_if hb10 h
        refine W_skip_to ?_
        refine to_then ?_
        refine W_seq ?_
        refine W_block ?_
        refine W_seq ?_
        obtain ⟨c22, h⟩ := h_guard h
        refine W_reg tbok ⟨[], []⟩ [] [0, 1, 2, 19] [(2, .p false (.int .i64) tab1), (3, .adr 0 0 2 0), (7, .adr 1 0 4 0), (9, .adr 3 0 4 0), (25, .p false (.slice (.prod (.int .i64) (.prod (.int .i64) (.prod (.int .i64) (.int .u8))))) m5), (26, .p false (.int .i64) (m5.length : Int)), (27, .p false (.int .i64) v4)] [(0, .box [.p false (.slice (.prod (.int .i64) (.prod (.int .i64) (.prod (.int .i64) (.int .u8))))) p1, .p false (.slice (.int .u8)) p2]), (1, .box [.p false (.slice (.prod (.int .i64) (.prod (.int .i64) (.prod (.int .i64) (.int .u8))))) p1, .p false (.slice (.int .u8)) p2, .p false (.slice (.prod (.int .i64) (.prod (.int .i64) (.prod (.int .i64) (.int .u8))))) m5, .sl 2]), (2, .arr 46 (.slice (.int .i64)) m7), (3, .box [.p false (.int .i64) ((m5.getD v4.toNat ((0 : Int), ((0 : Int), ((0 : Int), (0 : Int))))).1), .p false (.int .i64) ((m5.getD v4.toNat ((0 : Int), ((0 : Int), ((0 : Int), (0 : Int))))).2.1), .p false (.int .i64) ((m5.getD v4.toNat ((0 : Int), ((0 : Int), ((0 : Int), (0 : Int))))).2.2.1), .p false (.int .u8) ((m5.getD v4.toNat ((0 : Int), ((0 : Int), ((0 : Int), (0 : Int))))).2.2.2)])] 4 0 [0 ≤ v4 ∧ v4 < (m5.length : Int), True, True, True] (by kernel_rfl) (by kernel_rfl) ⟨c22, trivial, trivial, trivial, trivial⟩ ?_
        refine to_then ?_
        obtain ⟨r12, q12, h⟩ := h_bind h
        obtain ⟨c24, h⟩ := h_guard h
        refine W_regD tbok mixed ⟨[], [(11, ⟨.p false (.slice (.int .i64)) r12, [false, false, false, false], false, [true, true, true, true], [], []⟩)]⟩ [] [0, 1, 108] [(2, .p false (.int .i64) tab1), (3, .adr 0 0 2 0), (7, .adr 1 0 4 0), (25, .p false (.slice (.prod (.int .i64) (.prod (.int .i64) (.prod (.int .i64) (.int .u8))))) m5), (26, .p false (.int .i64) (m5.length : Int)), (27, .p false (.int .i64) v4)] [(0, .box [.p false (.slice (.prod (.int .i64) (.prod (.int .i64) (.prod (.int .i64) (.int .u8))))) p1, .p false (.slice (.int .u8)) p2]), (1, .box [.p false (.slice (.prod (.int .i64) (.prod (.int .i64) (.prod (.int .i64) (.int .u8))))) p1, .p false (.slice (.int .u8)) p2, .p false (.slice (.prod (.int .i64) (.prod (.int .i64) (.prod (.int .i64) (.int .u8))))) m5, .sl 2]), (2, .arr 46 (.slice (.int .i64)) (m7 ++ ([r12] : List (List Int))))] 3 0 [True, True, True, True, True, True, True, True, True, True, True, Pure Try.prog 31 [.agg [.p false (.slice (.prod (.int .i64) (.prod (.int .i64) (.prod (.int .i64) (.int .u8))))) p1, .p false (.slice (.int .u8)) p2], .p false (.int .i64) ((m5.getD v4.toNat ((0 : Int), ((0 : Int), ((0 : Int), (0 : Int))))).1), .p false (.int .i64) ((m5.getD v4.toNat ((0 : Int), ((0 : Int), ((0 : Int), (0 : Int))))).2.1), .p false (.int .i64) tab1] (.p false (.slice (.int .i64)) r12), True, (m7.length + ([r12] : List (List Int)).length) * 24 ≤ 140737488355328 ∧ m7.length + ([r12] : List (List Int)).length ≤ 9223372036854775807, True, True, True] (by kernel_rfl) (by kernel_rfl) ⟨trivial, trivial, trivial, trivial, trivial, trivial, trivial, trivial, trivial, trivial, trivial, (span_Columns_ok false false p1 p2 ((m5.getD v4.toNat ((0 : Int), ((0 : Int), ((0 : Int), (0 : Int))))).1) ((m5.getD v4.toNat ((0 : Int), ((0 : Int), ((0 : Int), (0 : Int))))).2.1) tab1 _ q12), trivial, c24, trivial, trivial, trivial, trivial⟩ ?_
        refine to_block ?_
        refine to_then ?_
        refine W_reg tbok ⟨[], []⟩ [] [0, 1, 2] [(2, .p false (.int .i64) tab1), (3, .adr 0 0 2 0), (7, .adr 1 0 4 0), (25, .p false (.slice (.prod (.int .i64) (.prod (.int .i64) (.prod (.int .i64) (.int .u8))))) m5), (26, .p false (.int .i64) (m5.length : Int)), (27, .p false (.int .i64) (IntKind.i64.wrap (v4 + (1 : Int))))] [(0, .box [.p false (.slice (.prod (.int .i64) (.prod (.int .i64) (.prod (.int .i64) (.int .u8))))) p1, .p false (.slice (.int .u8)) p2]), (1, .box [.p false (.slice (.prod (.int .i64) (.prod (.int .i64) (.prod (.int .i64) (.int .u8))))) p1, .p false (.slice (.int .u8)) p2, .p false (.slice (.prod (.int .i64) (.prod (.int .i64) (.prod (.int .i64) (.int .u8))))) m5, .sl 2]), (2, .arr 46 (.slice (.int .i64)) (m7 ++ ([r12] : List (List Int))))] 3 0 [True, True] (by kernel_rfl) (by kernel_rfl) ⟨trivial, trivial, trivial⟩ ?_
        obtain rfl := Option.some.inj h
        exact roundB (goal_le (gs := []) (f := [0, 1, 2]) (by kernel_rfl) (by kernel_rfl))
      · replace h := h_else hb10 h
        refine W_exit_to ?_
        refine thenE ?_
        obtain rfl := Option.some.inj h
        refine roundE ?_
        exact postX_to (goal_le (gs := []) (f := [1, 2]) (by kernel_rfl) (by kernel_rfl))
    · clear hp4
      obtain ⟨rfl, hle⟩ := hq
      refine use_to ?_ hle
      refine blockE_eq ?_
      refine to_then ?_
      refine W_seq ?_
      refine W_reg tbok ⟨[], []⟩ [] [0, 1] [(6, .adr 0 0 4 0)] [(0, .box [.p false (.slice (.prod (.int .i64) (.prod (.int .i64) (.prod (.int .i64) (.int .u8))))) p1, .p false (.slice (.int .u8)) p2, .p false (.slice (.prod (.int .i64) (.prod (.int .i64) (.prod (.int .i64) (.int .u8))))) m5, .sl 1]), (1, .arr 46 (.slice (.int .i64)) m8)] 2 0 [True, True] (by kernel_rfl) (by kernel_rfl) ⟨trivial, trivial, trivial⟩ ?_
      refine to_then ?_
      refine W_ret ?_
      obtain rfl := Option.some.inj h
      exact RetO_intro [none] [] [0, 1] [(6, .adr 0 0 4 0)] [(0, .box [.p false (.slice (.prod (.int .i64) (.prod (.int .i64) (.prod (.int .i64) (.int .u8))))) p1, .p false (.slice (.int .u8)) p2, .p false (.slice (.prod (.int .i64) (.prod (.int .i64) (.prod (.int .i64) (.int .u8))))) m5, .sl 1]), (1, .arr 46 (.slice (.int .i64)) m8)] 2 0 (by kernel_rfl) (by kernel_rfl) (by kernel_rfl)

/-- '(*stanza/place.Map).end' -/
def place_Map_end (m1 : List (Int × Int × Int × Int)) (m2 : List Int) (m3 : List (Int × Int × Int × Int)) (m4 : List (List Int)) : Option (Int) :=
  (if (decide ((m1.length : Int) > (0 : Int))) = true then (if 0 ≤ (IntKind.i64.wrap ((m1.length : Int) - (1 : Int))) ∧ (IntKind.i64.wrap ((m1.length : Int) - (1 : Int))) < (m1.length : Int) then (if 0 ≤ (IntKind.i64.wrap ((m1.length : Int) - (1 : Int))) ∧ (IntKind.i64.wrap ((m1.length : Int) - (1 : Int))) < (m1.length : Int) then some (IntKind.i64.wrap (((m1.getD ((IntKind.i64.wrap ((m1.length : Int) - (1 : Int))).toNat) ((0 : Int), ((0 : Int), ((0 : Int), (0 : Int))))).1) + ((m1.getD ((IntKind.i64.wrap ((m1.length : Int) - (1 : Int))).toNat) ((0 : Int), ((0 : Int), ((0 : Int), (0 : Int))))).2.1))) else none) else none)
  else some (0 : Int))

set_option maxRecDepth 100000 in
set_option maxHeartbeats 4000000 in
theorem place_Map_end_ok (β0 β1 β2 β3 : Bool) (m1 : List (Int × Int × Int × Int)) (m2 : List Int) (m3 : List (Int × Int × Int × Int)) (m4 : List (List Int)) (res : Int) (h : place_Map_end m1 m2 m3 m4 = some res) :
    Pure Try.prog 20 [.fad true [.p β0 (.slice (.prod (.int .i64) (.prod (.int .i64) (.prod (.int .i64) (.int .u8))))) m1, .p β1 (.slice (.int .u8)) m2, .p β2 (.slice (.prod (.int .i64) (.prod (.int .i64) (.prod (.int .i64) (.int .u8))))) m3, .p β3 (.slice (.slice (.int .i64))) m4] 0] (wrapR (encs false [⟨(.int .i64), res⟩])) := by
  refine Pure.of_body tbok Try.func20 (by kernel_rfl) rfl (Nat.le_of_ble_eq_true rfl) (fun Bw w0 => ?_) rfl
  unfold place_Map_end at h
  refine W_seq ?_
  refine W_reg tbok ⟨[], []⟩ [] [] [(0, .fad true [.p β0 (.slice (.prod (.int .i64) (.prod (.int .i64) (.prod (.int .i64) (.int .u8))))) m1, .p β1 (.slice (.int .u8)) m2, .p β2 (.slice (.prod (.int .i64) (.prod (.int .i64) (.prod (.int .i64) (.int .u8))))) m3, .p β3 (.slice (.slice (.int .i64))) m4] 0)] [] 0 0 [True] (by kernel_rfl) (by kernel_rfl) ⟨trivial, trivial⟩ ?_
  refine to_then ?_
  refine W_seq ?_
  refine W_seq ?_
  refine W_reg tbok ⟨[], []⟩ [] [] [(0, .fad true [.p β0 (.slice (.prod (.int .i64) (.prod (.int .i64) (.prod (.int .i64) (.int .u8))))) m1, .p β1 (.slice (.int .u8)) m2, .p β2 (.slice (.prod (.int .i64) (.prod (.int .i64) (.prod (.int .i64) (.int .u8))))) m3, .p β3 (.slice (.slice (.int .i64))) m4] 0), (3, .p false (.int .i64) (m1.length : Int))] [] 0 0 [True, True, True, True, True, True, True] (by kernel_rfl) (by kernel_rfl) ⟨trivial, trivial, trivial, trivial, trivial, trivial, trivial, trivial⟩ ?_
  refine to_then ?_
  refine W_seq ?_
  refine W_reg tbok ⟨[], []⟩ [] [] [(0, .fad true [.p β0 (.slice (.prod (.int .i64) (.prod (.int .i64) (.prod (.int .i64) (.int .u8))))) m1, .p β1 (.slice (.int .u8)) m2, .p β2 (.slice (.prod (.int .i64) (.prod (.int .i64) (.prod (.int .i64) (.int .u8))))) m3, .p β3 (.slice (.slice (.int .i64))) m4] 0), (3, .p false (.int .i64) (m1.length : Int)), (11, .p false .bool (decide ((m1.length : Int) > (0 : Int))))] [] 0 0 [True, True] (by kernel_rfl) (by kernel_rfl) ⟨trivial, trivial, trivial⟩ ?_
  refine to_then ?_
  refine W_cond (b := (decide ((m1.length : Int) > (0 : Int)))) (β := false) (by kernel_rfl) (fun hb1 => ?_) (fun hb1 => ?_)
  · replace h := h_if hb1 h
    refine W_seq ?_
    obtain ⟨c3, h⟩ := h_guard h
    obtain ⟨c4, h⟩ := h_guard h
    refine W_regD tbok mixed ⟨[], []⟩ [] [] [(2, .p false (.int .i64) (IntKind.i64.wrap (((m1.getD ((IntKind.i64.wrap ((m1.length : Int) - (1 : Int))).toNat) ((0 : Int), ((0 : Int), ((0 : Int), (0 : Int))))).1) + ((m1.getD ((IntKind.i64.wrap ((m1.length : Int) - (1 : Int))).toNat) ((0 : Int), ((0 : Int), ((0 : Int), (0 : Int))))).2.1))))] [] 0 0 [True, True, True, True, True, True, True, 0 ≤ (IntKind.i64.wrap ((m1.length : Int) - (1 : Int))) ∧ (IntKind.i64.wrap ((m1.length : Int) - (1 : Int))) < (m1.length : Int), True, True, True, True, True, True, True, True, True, 0 ≤ (IntKind.i64.wrap ((m1.length : Int) - (1 : Int))) ∧ (IntKind.i64.wrap ((m1.length : Int) - (1 : Int))) < (m1.length : Int), True, True, True, True] (by kernel_rfl) (by kernel_rfl) ⟨trivial, trivial, trivial, trivial, trivial, trivial, trivial, c3, trivial, trivial, trivial, trivial, trivial, trivial, trivial, trivial, trivial, c4, trivial, trivial, trivial, trivial, trivial⟩ ?_
    refine to_then ?_
    refine W_ret ?_
    refine thenQ_ret ?_
    obtain rfl := Option.some.inj h
    exact Ret_intro [(.int .i64)] (by kernel_rfl)
  · replace h := h_else hb1 h
    refine W_skip_to ?_
    refine to_then ?_
    refine W_seq ?_
    refine W_reg tbok ⟨[], []⟩ [] [] [(2, .p false (.int .i64) (0 : Int))] [] 0 0 [True] (by kernel_rfl) (by kernel_rfl) ⟨trivial, trivial⟩ ?_
    refine to_then ?_
    refine W_ret ?_
    obtain rfl := Option.some.inj h
    exact Ret_intro [(.int .i64)] (by kernel_rfl)

/-- '(*stanza/place.Map).Spot$1' -/
def place_Map_Spot_1 (c1 : Int) (c2 : Int) (c3 : Int) (c4 : Int) (x1 : Int) : Option (Bool) :=
  some (decide ((IntKind.i64.wrap (c1 + c2)) > x1))

set_option maxRecDepth 100000 in
set_option maxHeartbeats 4000000 in
theorem place_Map_Spot_1_ok (c1 : Int) (c2 : Int) (c3 : Int) (c4 : Int) (x1 : Int) (res : Bool) (h : place_Map_Spot_1 c1 c2 c3 c4 x1 = some res) :
    Pure Try.prog 22 [.agg [.p false (.int .i64) c1, .p false (.int .i64) c2, .p false (.int .i64) c3, .p false (.int .u8) c4], .fad true [.p false (.int .i64) x1] 0] (wrapR (encs false [⟨.bool, res⟩])) := by
  refine Pure.of_body tbok Try.func22 (by kernel_rfl) rfl (Nat.le_of_ble_eq_true rfl) (fun Bw w0 => ?_) rfl
  unfold place_Map_Spot_1 at h
  refine W_seq ?_
  refine W_reg tbok ⟨[], []⟩ [] [0] [(1, .fad true [.p false (.int .i64) x1] 0), (2, .adr 0 0 4 0)] [(0, .box [.p false (.int .i64) c1, .p false (.int .i64) c2, .p false (.int .i64) c3, .p false (.int .u8) c4])] 1 0 [True, True] (by kernel_rfl) (by kernel_rfl) ⟨trivial, trivial, trivial⟩ ?_
  refine to_then ?_
  refine W_seq ?_
  refine W_reg tbok ⟨[], []⟩ [] [] [(3, .p false .bool (decide ((IntKind.i64.wrap (c1 + c2)) > x1)))] [] 0 0 [True, True, True, True, True, True, True, True] (by kernel_rfl) (by kernel_rfl) ⟨trivial, trivial, trivial, trivial, trivial, trivial, trivial, trivial, trivial⟩ ?_
  refine to_then ?_
  refine W_ret ?_
  obtain rfl := Option.some.inj h
  exact Ret_intro [.bool] (by kernel_rfl)

/-- 'stanza/place.ahead[stanza/api.Cluster]$1' -/
def api_Cluster_1 (i1 : Int) (x1 : Int) (x2 : List (Int × Int × Int × Int)) : Option (Bool) :=
  (if 0 ≤ i1 ∧ i1 < (x2.length : Int) then ((place_Map_Spot_1 ((x2.getD i1.toNat ((0 : Int), ((0 : Int), ((0 : Int), (0 : Int))))).1) ((x2.getD i1.toNat ((0 : Int), ((0 : Int), ((0 : Int), (0 : Int))))).2.1) ((x2.getD i1.toNat ((0 : Int), ((0 : Int), ((0 : Int), (0 : Int))))).2.2.1) ((x2.getD i1.toNat ((0 : Int), ((0 : Int), ((0 : Int), (0 : Int))))).2.2.2) x1).bind fun (r2 : Bool) =>
  some r2) else none)

set_option maxRecDepth 100000 in
set_option maxHeartbeats 4000000 in
theorem api_Cluster_1_ok (β2 : Bool) (i1 : Int) (x1 : Int) (x2 : List (Int × Int × Int × Int)) (res : Bool) (h : api_Cluster_1 i1 x1 x2 = some res) :
    Pure Try.prog 33 [.p false (.int .i64) i1, .fad true [.fn 22 [.fad true [.p false (.int .i64) x1] 0]] 0, .fad true [.p β2 (.slice (.prod (.int .i64) (.prod (.int .i64) (.prod (.int .i64) (.int .u8))))) x2] 0] (wrapR (encs false [⟨.bool, res⟩])) := by
  refine Pure.of_body tbok Try.func33 (by kernel_rfl) rfl (Nat.le_of_ble_eq_true rfl) (fun Bw w0 => ?_) rfl
  unfold api_Cluster_1 at h
  refine W_seq ?_
  refine W_reg tbok ⟨[], []⟩ [] [] [(0, .p false (.int .i64) i1), (1, .fad true [.fn 22 [.fad true [.p false (.int .i64) x1] 0]] 0), (2, .fad true [.p β2 (.slice (.prod (.int .i64) (.prod (.int .i64) (.prod (.int .i64) (.int .u8))))) x2] 0)] [] 0 0 [True] (by kernel_rfl) (by kernel_rfl) ⟨trivial, trivial⟩ ?_
  refine to_then ?_
  refine W_seq ?_
  obtain ⟨c2, h⟩ := h_guard h
  obtain ⟨r2, q2, h⟩ := h_bind h
  refine W_regD tbok mixed ⟨[], [(5, ⟨.p false .bool r2, [false], false, [true], [], []⟩)]⟩ [] [] [(4, .p false .bool r2)] [] 0 0 [True, True, True, 0 ≤ i1 ∧ i1 < (x2.length : Int), True, Pure Try.prog 22 [.agg [.p false (.int .i64) ((x2.getD i1.toNat ((0 : Int), ((0 : Int), ((0 : Int), (0 : Int))))).1), .p false (.int .i64) ((x2.getD i1.toNat ((0 : Int), ((0 : Int), ((0 : Int), (0 : Int))))).2.1), .p false (.int .i64) ((x2.getD i1.toNat ((0 : Int), ((0 : Int), ((0 : Int), (0 : Int))))).2.2.1), .p false (.int .u8) ((x2.getD i1.toNat ((0 : Int), ((0 : Int), ((0 : Int), (0 : Int))))).2.2.2)], .fad true [.p false (.int .i64) x1] 0] (.p false .bool r2), True] (by kernel_rfl) (by kernel_rfl) ⟨trivial, trivial, trivial, c2, trivial, (place_Map_Spot_1_ok ((x2.getD i1.toNat ((0 : Int), ((0 : Int), ((0 : Int), (0 : Int))))).1) ((x2.getD i1.toNat ((0 : Int), ((0 : Int), ((0 : Int), (0 : Int))))).2.1) ((x2.getD i1.toNat ((0 : Int), ((0 : Int), ((0 : Int), (0 : Int))))).2.2.1) ((x2.getD i1.toNat ((0 : Int), ((0 : Int), ((0 : Int), (0 : Int))))).2.2.2) x1 _ q2), trivial, trivial⟩ ?_
  refine to_then ?_
  refine W_ret ?_
  obtain rfl := Option.some.inj h
  exact Ret_intro [.bool] (by kernel_rfl)

/-- a loop of 'sort.Search': one round -/
def sort_Search_L1 (f1 : Int) (f2 : List (Int × Int × Int × Int)) : (Int × Int) → Option ((Int × Int) ⊕ (Int)) := fun ((i2, j2) : Int × Int) =>
  (if (decide (i2 < j2)) = true then (if 0 ≤ (1 : Int) then ((api_Cluster_1 (IntKind.i64.wrap (Int.fdiv (IntKind.u64.wrap (IntKind.i64.wrap (i2 + j2))) (2 ^ (min (1 : Int).toNat IntKind.u64.bits)))) f1 f2).bind fun (r6 : Bool) =>
  (if (!r6) = true then some (Sum.inl ((IntKind.i64.wrap ((IntKind.i64.wrap (Int.fdiv (IntKind.u64.wrap (IntKind.i64.wrap (i2 + j2))) (2 ^ (min (1 : Int).toNat IntKind.u64.bits)))) + (1 : Int))), j2))
  else some (Sum.inl (i2, (IntKind.i64.wrap (Int.fdiv (IntKind.u64.wrap (IntKind.i64.wrap (i2 + j2))) (2 ^ (min (1 : Int).toNat IntKind.u64.bits)))))))) else none)
  else some (Sum.inr i2))

/-- 'sort.Search' -/
def sort_Search (n1 : Int) (f1 : Int) (f2 : List (Int × Int × Int × Int)) : Option (Int) :=
  ((iter (sort_Search_L1 f1 f2) ((0 : Int), n1)).bind fun (i3 : Int) => some i3)

set_option maxRecDepth 100000 in
set_option maxHeartbeats 4000000 in
theorem sort_Search_ok (β2 : Bool) (n1 : Int) (f1 : Int) (f2 : List (Int × Int × Int × Int)) (res : Int) (h : sort_Search n1 f1 f2 = some res) :
    Pure Try.prog 32 [.p false (.int .i64) n1, .fn 33 [.fad true [.fn 22 [.fad true [.p false (.int .i64) f1] 0]] 0, .fad true [.p β2 (.slice (.prod (.int .i64) (.prod (.int .i64) (.prod (.int .i64) (.int .u8))))) f2] 0]] (wrapR (encs false [⟨(.int .i64), res⟩])) := by
  refine Pure.of_body tbok Try.func32 (by kernel_rfl) rfl (Nat.le_of_ble_eq_true rfl) (fun Bw w0 => ?_) rfl
  unfold sort_Search at h
  refine W_seq ?_
  refine W_reg tbok ⟨[], []⟩ [] [] [(0, .p false (.int .i64) n1), (1, .fn 33 [.fad true [.fn 22 [.fad true [.p false (.int .i64) f1] 0]] 0, .fad true [.p β2 (.slice (.prod (.int .i64) (.prod (.int .i64) (.prod (.int .i64) (.int .u8))))) f2] 0])] [] 0 0 [True] (by kernel_rfl) (by kernel_rfl) ⟨trivial, trivial⟩ ?_
  refine to_then ?_
  refine W_seq ?_
  refine W_reg tbok ⟨[], []⟩ [] [] [(1, .fn 33 [.fad true [.fn 22 [.fad true [.p false (.int .i64) f1] 0]] 0, .fad true [.p β2 (.slice (.prod (.int .i64) (.prod (.int .i64) (.prod (.int .i64) (.int .u8))))) f2] 0]), (5, .p false (.int .i64) (0 : Int)), (6, .p false (.int .i64) n1)] [] 0 0 [True, True, True] (by kernel_rfl) (by kernel_rfl) ⟨trivial, trivial, trivial, trivial⟩ ?_
  refine to_then ?_
  refine W_seq ?_
  refine W_block ?_
  obtain ⟨i3, hp1, h⟩ := h_bind h
  refine W.mono (Q := (postX Try.f32.ntmps 0 (fun (i3 : Int) => mkSt [(5, .p false (.int .i64) i3)] [] 0)) i3) (W_iter (f := fun ((i2, j2) : Int × Int) => mkSt [(1, .fn 33 [.fad true [.fn 22 [.fad true [.p false (.int .i64) f1] 0]] 0, .fad true [.p β2 (.slice (.prod (.int .i64) (.prod (.int .i64) (.prod (.int .i64) (.int .u8))))) f2] 0]), (5, .p false (.int .i64) i2), (6, .p false (.int .i64) j2)] [] 0) (Q := (postX Try.f32.ntmps 0 (fun (i3 : Int) => mkSt [(5, .p false (.int .i64) i3)] [] 0))) hp1 (goal_le (gs := []) (f := []) (by kernel_rfl) (by kernel_rfl)) (fun y o ho => ?_)) (fun e σ' hq => ?_)
  · obtain ⟨i2, j2⟩ := y
    replace h := ho
    clear ho hp1
    unfold sort_Search_L1 at h
    refine W_seq ?_
    refine W_seq ?_
    refine W_reg tbok ⟨[], []⟩ [] [] [(1, .fn 33 [.fad true [.fn 22 [.fad true [.p false (.int .i64) f1] 0]] 0, .fad true [.p β2 (.slice (.prod (.int .i64) (.prod (.int .i64) (.prod (.int .i64) (.int .u8))))) f2] 0]), (5, .p false (.int .i64) i2), (6, .p false (.int .i64) j2), (11, .p false .bool (decide (i2 < j2)))] [] 0 0 [True, True, True] (by kernel_rfl) (by kernel_rfl) ⟨trivial, trivial, trivial, trivial⟩ ?_
    refine to_then ?_
    refine W_cond (b := (decide (i2 < j2))) (β := false) (by kernel_rfl) (fun hb5 => ?_) (fun hb5 => ?_)
    · replace h := h_if hb5 h
      refine W_skip_to ?_
      refine to_then ?_
      refine W_block ?_
      refine W_seq ?_
      obtain ⟨c6, h⟩ := h_guard h
      refine W_reg tbok ⟨[], []⟩ [] [] [(1, .fn 33 [.fad true [.fn 22 [.fad true [.p false (.int .i64) f1] 0]] 0, .fad true [.p β2 (.slice (.prod (.int .i64) (.prod (.int .i64) (.prod (.int .i64) (.int .u8))))) f2] 0]), (5, .p false (.int .i64) i2), (6, .p false (.int .i64) j2), (7, .p false (.int .i64) (IntKind.i64.wrap (Int.fdiv (IntKind.u64.wrap (IntKind.i64.wrap (i2 + j2))) (2 ^ (min (1 : Int).toNat IntKind.u64.bits)))))] [] 0 0 [True, True, True, True, 0 ≤ (1 : Int), True, True] (by kernel_rfl) (by kernel_rfl) ⟨trivial, trivial, trivial, trivial, c6, trivial, trivial, trivial⟩ ?_
      refine to_then ?_
      refine W_seq ?_
      obtain ⟨r6, q6, h⟩ := h_bind h
      refine W_reg tbok ⟨[], [(2, ⟨.p false .bool r6, [false], false, [true], [], []⟩)]⟩ [] [] [(1, .fn 33 [.fad true [.fn 22 [.fad true [.p false (.int .i64) f1] 0]] 0, .fad true [.p β2 (.slice (.prod (.int .i64) (.prod (.int .i64) (.prod (.int .i64) (.int .u8))))) f2] 0]), (5, .p false (.int .i64) i2), (6, .p false (.int .i64) j2), (7, .p false (.int .i64) (IntKind.i64.wrap (Int.fdiv (IntKind.u64.wrap (IntKind.i64.wrap (i2 + j2))) (2 ^ (min (1 : Int).toNat IntKind.u64.bits))))), (21, .p false .bool (!r6))] [] 0 0 [True, True, Pure Try.prog 33 [.p false (.int .i64) (IntKind.i64.wrap (Int.fdiv (IntKind.u64.wrap (IntKind.i64.wrap (i2 + j2))) (2 ^ (min (1 : Int).toNat IntKind.u64.bits)))), .fad true [.fn 22 [.fad true [.p false (.int .i64) f1] 0]] 0, .fad true [.p β2 (.slice (.prod (.int .i64) (.prod (.int .i64) (.prod (.int .i64) (.int .u8))))) f2] 0] (.p false .bool r6), True] (by kernel_rfl) (by kernel_rfl) ⟨trivial, trivial, (api_Cluster_1_ok β2 (IntKind.i64.wrap (Int.fdiv (IntKind.u64.wrap (IntKind.i64.wrap (i2 + j2))) (2 ^ (min (1 : Int).toNat IntKind.u64.bits)))) f1 f2 _ q6), trivial, trivial⟩ ?_
      refine to_then ?_
      refine W_cond (b := (!r6)) (β := false) (by kernel_rfl) (fun hb6 => ?_) (fun hb6 => ?_)
      · replace h := h_if hb6 h
        refine W_reg tbok ⟨[], []⟩ [] [] [(1, .fn 33 [.fad true [.fn 22 [.fad true [.p false (.int .i64) f1] 0]] 0, .fad true [.p β2 (.slice (.prod (.int .i64) (.prod (.int .i64) (.prod (.int .i64) (.int .u8))))) f2] 0]), (5, .p false (.int .i64) (IntKind.i64.wrap ((IntKind.i64.wrap (Int.fdiv (IntKind.u64.wrap (IntKind.i64.wrap (i2 + j2))) (2 ^ (min (1 : Int).toNat IntKind.u64.bits)))) + (1 : Int)))), (6, .p false (.int .i64) j2)] [] 0 0 [True, True, True] (by kernel_rfl) (by kernel_rfl) ⟨trivial, trivial, trivial, trivial⟩ ?_
        refine to_block ?_
        obtain rfl := Option.some.inj h
        exact roundB (goal_le (gs := []) (f := []) (by kernel_rfl) (by kernel_rfl))
      · replace h := h_else hb6 h
        refine W_reg tbok ⟨[], []⟩ [] [] [(1, .fn 33 [.fad true [.fn 22 [.fad true [.p false (.int .i64) f1] 0]] 0, .fad true [.p β2 (.slice (.prod (.int .i64) (.prod (.int .i64) (.prod (.int .i64) (.int .u8))))) f2] 0]), (5, .p false (.int .i64) i2), (6, .p false (.int .i64) (IntKind.i64.wrap (Int.fdiv (IntKind.u64.wrap (IntKind.i64.wrap (i2 + j2))) (2 ^ (min (1 : Int).toNat IntKind.u64.bits)))))] [] 0 0 [True, True] (by kernel_rfl) (by kernel_rfl) ⟨trivial, trivial, trivial⟩ ?_
        refine to_block ?_
        obtain rfl := Option.some.inj h
        exact roundB (goal_le (gs := []) (f := []) (by kernel_rfl) (by kernel_rfl))
    · replace h := h_else hb5 h
      refine W_exit_to ?_
      refine thenE ?_
      obtain rfl := Option.some.inj h
      refine roundE ?_
      exact postX_to (goal_le (gs := []) (f := []) (by kernel_rfl) (by kernel_rfl))
  · clear hp1
    obtain ⟨rfl, hle⟩ := hq
    refine use_to ?_ hle
    refine blockE_eq ?_
    refine to_then ?_
    refine W_seq ?_
    refine W_reg tbok ⟨[], []⟩ [] [] [(4, .p false (.int .i64) i3)] [] 0 0 [True, True] (by kernel_rfl) (by kernel_rfl) ⟨trivial, trivial, trivial⟩ ?_
    refine to_then ?_
    refine W_ret ?_
    obtain rfl := Option.some.inj h
    exact Ret_intro [(.int .i64)] (by kernel_rfl)

/-- 'stanza/place.ahead[stanza/api.Cluster]' -/
def api_Cluster (l1 : List (Int × Int × Int × Int)) (is1 : Int) : Option (Int) :=
  ((sort_Search (l1.length : Int) is1 l1).bind fun (r2 : Int) =>
  some r2)

set_option maxRecDepth 100000 in
set_option maxHeartbeats 4000000 in
theorem api_Cluster_ok (β0 : Bool) (l1 : List (Int × Int × Int × Int)) (is1 : Int) (res : Int) (h : api_Cluster l1 is1 = some res) :
    Pure Try.prog 21 [.p β0 (.slice (.prod (.int .i64) (.prod (.int .i64) (.prod (.int .i64) (.int .u8))))) l1, .fn 22 [.fad true [.p false (.int .i64) is1] 0]] (wrapR (encs false [⟨(.int .i64), res⟩])) := by
  refine Pure.of_body tbok Try.func21 (by kernel_rfl) rfl (Nat.le_of_ble_eq_true rfl) (fun Bw w0 => ?_) rfl
  unfold api_Cluster at h
  refine W_seq ?_
  refine W_reg tbok ⟨[], []⟩ [] [0, 8] [(2, .adr 0 0 1 0), (3, .adr 1 0 1 0)] [(0, .box [.p β0 (.slice (.prod (.int .i64) (.prod (.int .i64) (.prod (.int .i64) (.int .u8))))) l1]), (1, .box [.fn 22 [.fad true [.p false (.int .i64) is1] 0]])] 2 0 [True, True, True] (by kernel_rfl) (by kernel_rfl) ⟨trivial, trivial, trivial, trivial⟩ ?_
  refine to_then ?_
  refine W_seq ?_
  obtain ⟨r2, q2, h⟩ := h_bind h
  refine W_reg tbok ⟨[], [(3, ⟨.p false (.int .i64) r2, [false, false], false, [true, true], [], []⟩)]⟩ [] [] [(4, .p false (.int .i64) r2)] [] 0 0 [True, True, True, Pure Try.prog 32 [.p false (.int .i64) (l1.length : Int), .fn 33 [.fad true [.fn 22 [.fad true [.p false (.int .i64) is1] 0]] 0, .fad true [.p β0 (.slice (.prod (.int .i64) (.prod (.int .i64) (.prod (.int .i64) (.int .u8))))) l1] 0]] (.p false (.int .i64) r2), True] (by kernel_rfl) (by kernel_rfl) ⟨trivial, trivial, trivial, (sort_Search_ok β0 (l1.length : Int) is1 l1 _ q2), trivial, trivial⟩ ?_
  refine to_then ?_
  refine W_ret ?_
  obtain rfl := Option.some.inj h
  exact Ret_intro [(.int .i64)] (by kernel_rfl)

/-- '(*stanza/place.Map).Spot$2' -/
def place_Map_Spot_2 (l1 : Int) (l2 : Int) (l3 : Int) (l4 : Int) (x1 : Int) : Option (Bool) :=
  some (decide (l2 > x1))

set_option maxRecDepth 100000 in
set_option maxHeartbeats 4000000 in
theorem place_Map_Spot_2_ok (l1 : Int) (l2 : Int) (l3 : Int) (l4 : Int) (x1 : Int) (res : Bool) (h : place_Map_Spot_2 l1 l2 l3 l4 x1 = some res) :
    Pure Try.prog 24 [.agg [.p false (.int .i64) l1, .p false (.int .i64) l2, .p false (.int .i64) l3, .p false (.int .u8) l4], .fad true [.p false (.int .i64) x1] 0] (wrapR (encs false [⟨.bool, res⟩])) := by
  refine Pure.of_body tbok Try.func24 (by kernel_rfl) rfl (Nat.le_of_ble_eq_true rfl) (fun Bw w0 => ?_) rfl
  unfold place_Map_Spot_2 at h
  refine W_seq ?_
  refine W_reg tbok ⟨[], []⟩ [] [0] [(1, .fad true [.p false (.int .i64) x1] 0), (2, .adr 0 0 4 0)] [(0, .box [.p false (.int .i64) l1, .p false (.int .i64) l2, .p false (.int .i64) l3, .p false (.int .u8) l4])] 1 0 [True, True] (by kernel_rfl) (by kernel_rfl) ⟨trivial, trivial, trivial⟩ ?_
  refine to_then ?_
  refine W_seq ?_
  refine W_reg tbok ⟨[], []⟩ [] [] [(3, .p false .bool (decide (l2 > x1)))] [] 0 0 [True, True, True, True, True] (by kernel_rfl) (by kernel_rfl) ⟨trivial, trivial, trivial, trivial, trivial, trivial⟩ ?_
  refine to_then ?_
  refine W_ret ?_
  obtain rfl := Option.some.inj h
  exact Ret_intro [.bool] (by kernel_rfl)

/-- 'stanza/place.ahead[stanza/api.Line]$1' -/
def api_Line_1 (i1 : Int) (x1 : Int) (x2 : List (Int × Int × Int × Int)) : Option (Bool) :=
  (if 0 ≤ i1 ∧ i1 < (x2.length : Int) then ((place_Map_Spot_2 ((x2.getD i1.toNat ((0 : Int), ((0 : Int), ((0 : Int), (0 : Int))))).1) ((x2.getD i1.toNat ((0 : Int), ((0 : Int), ((0 : Int), (0 : Int))))).2.1) ((x2.getD i1.toNat ((0 : Int), ((0 : Int), ((0 : Int), (0 : Int))))).2.2.1) ((x2.getD i1.toNat ((0 : Int), ((0 : Int), ((0 : Int), (0 : Int))))).2.2.2) x1).bind fun (r2 : Bool) =>
  some r2) else none)

set_option maxRecDepth 100000 in
set_option maxHeartbeats 4000000 in
theorem api_Line_1_ok (β2 : Bool) (i1 : Int) (x1 : Int) (x2 : List (Int × Int × Int × Int)) (res : Bool) (h : api_Line_1 i1 x1 x2 = some res) :
    Pure Try.prog 34 [.p false (.int .i64) i1, .fad true [.fn 24 [.fad true [.p false (.int .i64) x1] 0]] 0, .fad true [.p β2 (.slice (.prod (.int .i64) (.prod (.int .i64) (.prod (.int .i64) (.int .u8))))) x2] 0] (wrapR (encs false [⟨.bool, res⟩])) := by
  refine Pure.of_body tbok Try.func34 (by kernel_rfl) rfl (Nat.le_of_ble_eq_true rfl) (fun Bw w0 => ?_) rfl
  unfold api_Line_1 at h
  refine W_seq ?_
  refine W_reg tbok ⟨[], []⟩ [] [] [(0, .p false (.int .i64) i1), (1, .fad true [.fn 24 [.fad true [.p false (.int .i64) x1] 0]] 0), (2, .fad true [.p β2 (.slice (.prod (.int .i64) (.prod (.int .i64) (.prod (.int .i64) (.int .u8))))) x2] 0)] [] 0 0 [True] (by kernel_rfl) (by kernel_rfl) ⟨trivial, trivial⟩ ?_
  refine to_then ?_
  refine W_seq ?_
  obtain ⟨c2, h⟩ := h_guard h
  obtain ⟨r2, q2, h⟩ := h_bind h
  refine W_regD tbok mixed ⟨[], [(5, ⟨.p false .bool r2, [false], false, [true], [], []⟩)]⟩ [] [] [(4, .p false .bool r2)] [] 0 0 [True, True, True, 0 ≤ i1 ∧ i1 < (x2.length : Int), True, Pure Try.prog 24 [.agg [.p false (.int .i64) ((x2.getD i1.toNat ((0 : Int), ((0 : Int), ((0 : Int), (0 : Int))))).1), .p false (.int .i64) ((x2.getD i1.toNat ((0 : Int), ((0 : Int), ((0 : Int), (0 : Int))))).2.1), .p false (.int .i64) ((x2.getD i1.toNat ((0 : Int), ((0 : Int), ((0 : Int), (0 : Int))))).2.2.1), .p false (.int .u8) ((x2.getD i1.toNat ((0 : Int), ((0 : Int), ((0 : Int), (0 : Int))))).2.2.2)], .fad true [.p false (.int .i64) x1] 0] (.p false .bool r2), True] (by kernel_rfl) (by kernel_rfl) ⟨trivial, trivial, trivial, c2, trivial, (place_Map_Spot_2_ok ((x2.getD i1.toNat ((0 : Int), ((0 : Int), ((0 : Int), (0 : Int))))).1) ((x2.getD i1.toNat ((0 : Int), ((0 : Int), ((0 : Int), (0 : Int))))).2.1) ((x2.getD i1.toNat ((0 : Int), ((0 : Int), ((0 : Int), (0 : Int))))).2.2.1) ((x2.getD i1.toNat ((0 : Int), ((0 : Int), ((0 : Int), (0 : Int))))).2.2.2) x1 _ q2), trivial, trivial⟩ ?_
  refine to_then ?_
  refine W_ret ?_
  obtain rfl := Option.some.inj h
  exact Ret_intro [.bool] (by kernel_rfl)

/-- a loop of 'sort.Search': one round -/
def sort_Search_v1_L1 (f1 : Int) (f2 : List (Int × Int × Int × Int)) : (Int × Int) → Option ((Int × Int) ⊕ (Int)) := fun ((i2, j2) : Int × Int) =>
  (if (decide (i2 < j2)) = true then (if 0 ≤ (1 : Int) then ((api_Line_1 (IntKind.i64.wrap (Int.fdiv (IntKind.u64.wrap (IntKind.i64.wrap (i2 + j2))) (2 ^ (min (1 : Int).toNat IntKind.u64.bits)))) f1 f2).bind fun (r6 : Bool) =>
  (if (!r6) = true then some (Sum.inl ((IntKind.i64.wrap ((IntKind.i64.wrap (Int.fdiv (IntKind.u64.wrap (IntKind.i64.wrap (i2 + j2))) (2 ^ (min (1 : Int).toNat IntKind.u64.bits)))) + (1 : Int))), j2))
  else some (Sum.inl (i2, (IntKind.i64.wrap (Int.fdiv (IntKind.u64.wrap (IntKind.i64.wrap (i2 + j2))) (2 ^ (min (1 : Int).toNat IntKind.u64.bits)))))))) else none)
  else some (Sum.inr i2))

/-- 'sort.Search' -/
def sort_Search_v1 (n1 : Int) (f1 : Int) (f2 : List (Int × Int × Int × Int)) : Option (Int) :=
  ((iter (sort_Search_v1_L1 f1 f2) ((0 : Int), n1)).bind fun (i3 : Int) => some i3)

set_option maxRecDepth 100000 in
set_option maxHeartbeats 4000000 in
theorem sort_Search_v1_ok (β2 : Bool) (n1 : Int) (f1 : Int) (f2 : List (Int × Int × Int × Int)) (res : Int) (h : sort_Search_v1 n1 f1 f2 = some res) :
    Pure Try.prog 32 [.p false (.int .i64) n1, .fn 34 [.fad true [.fn 24 [.fad true [.p false (.int .i64) f1] 0]] 0, .fad true [.p β2 (.slice (.prod (.int .i64) (.prod (.int .i64) (.prod (.int .i64) (.int .u8))))) f2] 0]] (wrapR (encs false [⟨(.int .i64), res⟩])) := by
  refine Pure.of_body tbok Try.func32 (by kernel_rfl) rfl (Nat.le_of_ble_eq_true rfl) (fun Bw w0 => ?_) rfl
  unfold sort_Search_v1 at h
  refine W_seq ?_
  refine W_reg tbok ⟨[], []⟩ [] [] [(0, .p false (.int .i64) n1), (1, .fn 34 [.fad true [.fn 24 [.fad true [.p false (.int .i64) f1] 0]] 0, .fad true [.p β2 (.slice (.prod (.int .i64) (.prod (.int .i64) (.prod (.int .i64) (.int .u8))))) f2] 0])] [] 0 0 [True] (by kernel_rfl) (by kernel_rfl) ⟨trivial, trivial⟩ ?_
  refine to_then ?_
  refine W_seq ?_
  refine W_reg tbok ⟨[], []⟩ [] [] [(1, .fn 34 [.fad true [.fn 24 [.fad true [.p false (.int .i64) f1] 0]] 0, .fad true [.p β2 (.slice (.prod (.int .i64) (.prod (.int .i64) (.prod (.int .i64) (.int .u8))))) f2] 0]), (5, .p false (.int .i64) (0 : Int)), (6, .p false (.int .i64) n1)] [] 0 0 [True, True, True] (by kernel_rfl) (by kernel_rfl) ⟨trivial, trivial, trivial, trivial⟩ ?_
  refine to_then ?_
  refine W_seq ?_
  refine W_block ?_
  obtain ⟨i3, hp1, h⟩ := h_bind h
  refine W.mono (Q := (postX Try.f32.ntmps 0 (fun (i3 : Int) => mkSt [(5, .p false (.int .i64) i3)] [] 0)) i3) (W_iter (f := fun ((i2, j2) : Int × Int) => mkSt [(1, .fn 34 [.fad true [.fn 24 [.fad true [.p false (.int .i64) f1] 0]] 0, .fad true [.p β2 (.slice (.prod (.int .i64) (.prod (.int .i64) (.prod (.int .i64) (.int .u8))))) f2] 0]), (5, .p false (.int .i64) i2), (6, .p false (.int .i64) j2)] [] 0) (Q := (postX Try.f32.ntmps 0 (fun (i3 : Int) => mkSt [(5, .p false (.int .i64) i3)] [] 0))) hp1 (goal_le (gs := []) (f := []) (by kernel_rfl) (by kernel_rfl)) (fun y o ho => ?_)) (fun e σ' hq => ?_)
  · obtain ⟨i2, j2⟩ := y
    replace h := ho
    clear ho hp1
    unfold sort_Search_v1_L1 at h
    refine W_seq ?_
    refine W_seq ?_
    refine W_reg tbok ⟨[], []⟩ [] [] [(1, .fn 34 [.fad true [.fn 24 [.fad true [.p false (.int .i64) f1] 0]] 0, .fad true [.p β2 (.slice (.prod (.int .i64) (.prod (.int .i64) (.prod (.int .i64) (.int .u8))))) f2] 0]), (5, .p false (.int .i64) i2), (6, .p false (.int .i64) j2), (11, .p false .bool (decide (i2 < j2)))] [] 0 0 [True, True, True] (by kernel_rfl) (by kernel_rfl) ⟨trivial, trivial, trivial, trivial⟩ ?_
    refine to_then ?_
    refine W_cond (b := (decide (i2 < j2))) (β := false) (by kernel_rfl) (fun hb5 => ?_) (fun hb5 => ?_)
    · replace h := h_if hb5 h
      refine W_skip_to ?_
      refine to_then ?_
      refine W_block ?_
      refine W_seq ?_
      obtain ⟨c6, h⟩ := h_guard h
      refine W_reg tbok ⟨[], []⟩ [] [] [(1, .fn 34 [.fad true [.fn 24 [.fad true [.p false (.int .i64) f1] 0]] 0, .fad true [.p β2 (.slice (.prod (.int .i64) (.prod (.int .i64) (.prod (.int .i64) (.int .u8))))) f2] 0]), (5, .p false (.int .i64) i2), (6, .p false (.int .i64) j2), (7, .p false (.int .i64) (IntKind.i64.wrap (Int.fdiv (IntKind.u64.wrap (IntKind.i64.wrap (i2 + j2))) (2 ^ (min (1 : Int).toNat IntKind.u64.bits)))))] [] 0 0 [True, True, True, True, 0 ≤ (1 : Int), True, True] (by kernel_rfl) (by kernel_rfl) ⟨trivial, trivial, trivial, trivial, c6, trivial, trivial, trivial⟩ ?_
      refine to_then ?_
      refine W_seq ?_
      obtain ⟨r6, q6, h⟩ := h_bind h
      refine W_reg tbok ⟨[], [(2, ⟨.p false .bool r6, [false], false, [true], [], []⟩)]⟩ [] [] [(1, .fn 34 [.fad true [.fn 24 [.fad true [.p false (.int .i64) f1] 0]] 0, .fad true [.p β2 (.slice (.prod (.int .i64) (.prod (.int .i64) (.prod (.int .i64) (.int .u8))))) f2] 0]), (5, .p false (.int .i64) i2), (6, .p false (.int .i64) j2), (7, .p false (.int .i64) (IntKind.i64.wrap (Int.fdiv (IntKind.u64.wrap (IntKind.i64.wrap (i2 + j2))) (2 ^ (min (1 : Int).toNat IntKind.u64.bits))))), (21, .p false .bool (!r6))] [] 0 0 [True, True, Pure Try.prog 34 [.p false (.int .i64) (IntKind.i64.wrap (Int.fdiv (IntKind.u64.wrap (IntKind.i64.wrap (i2 + j2))) (2 ^ (min (1 : Int).toNat IntKind.u64.bits)))), .fad true [.fn 24 [.fad true [.p false (.int .i64) f1] 0]] 0, .fad true [.p β2 (.slice (.prod (.int .i64) (.prod (.int .i64) (.prod (.int .i64) (.int .u8))))) f2] 0] (.p false .bool r6), True] (by kernel_rfl) (by kernel_rfl) ⟨trivial, trivial, (api_Line_1_ok β2 (IntKind.i64.wrap (Int.fdiv (IntKind.u64.wrap (IntKind.i64.wrap (i2 + j2))) (2 ^ (min (1 : Int).toNat IntKind.u64.bits)))) f1 f2 _ q6), trivial, trivial⟩ ?_
      refine to_then ?_
      refine W_cond (b := (!r6)) (β := false) (by kernel_rfl) (fun hb6 => ?_) (fun hb6 => ?_)
      · replace h := h_if hb6 h
        refine W_reg tbok ⟨[], []⟩ [] [] [(1, .fn 34 [.fad true [.fn 24 [.fad true [.p false (.int .i64) f1] 0]] 0, .fad true [.p β2 (.slice (.prod (.int .i64) (.prod (.int .i64) (.prod (.int .i64) (.int .u8))))) f2] 0]), (5, .p false (.int .i64) (IntKind.i64.wrap ((IntKind.i64.wrap (Int.fdiv (IntKind.u64.wrap (IntKind.i64.wrap (i2 + j2))) (2 ^ (min (1 : Int).toNat IntKind.u64.bits)))) + (1 : Int)))), (6, .p false (.int .i64) j2)] [] 0 0 [True, True, True] (by kernel_rfl) (by kernel_rfl) ⟨trivial, trivial, trivial, trivial⟩ ?_
        refine to_block ?_
        obtain rfl := Option.some.inj h
        exact roundB (goal_le (gs := []) (f := []) (by kernel_rfl) (by kernel_rfl))
      · replace h := h_else hb6 h
        refine W_reg tbok ⟨[], []⟩ [] [] [(1, .fn 34 [.fad true [.fn 24 [.fad true [.p false (.int .i64) f1] 0]] 0, .fad true [.p β2 (.slice (.prod (.int .i64) (.prod (.int .i64) (.prod (.int .i64) (.int .u8))))) f2] 0]), (5, .p false (.int .i64) i2), (6, .p false (.int .i64) (IntKind.i64.wrap (Int.fdiv (IntKind.u64.wrap (IntKind.i64.wrap (i2 + j2))) (2 ^ (min (1 : Int).toNat IntKind.u64.bits)))))] [] 0 0 [True, True] (by kernel_rfl) (by kernel_rfl) ⟨trivial, trivial, trivial⟩ ?_
        refine to_block ?_
        obtain rfl := Option.some.inj h
        exact roundB (goal_le (gs := []) (f := []) (by kernel_rfl) (by kernel_rfl))
    · replace h := h_else hb5 h
      refine W_exit_to ?_
      refine thenE ?_
      obtain rfl := Option.some.inj h
      refine roundE ?_
      exact postX_to (goal_le (gs := []) (f := []) (by kernel_rfl) (by kernel_rfl))
  · clear hp1
    obtain ⟨rfl, hle⟩ := hq
    refine use_to ?_ hle
    refine blockE_eq ?_
    refine to_then ?_
    refine W_seq ?_
    refine W_reg tbok ⟨[], []⟩ [] [] [(4, .p false (.int .i64) i3)] [] 0 0 [True, True] (by kernel_rfl) (by kernel_rfl) ⟨trivial, trivial, trivial⟩ ?_
    refine to_then ?_
    refine W_ret ?_
    obtain rfl := Option.some.inj h
    exact Ret_intro [(.int .i64)] (by kernel_rfl)

/-- 'stanza/place.ahead[stanza/api.Line]' -/
def api_Line (l1 : List (Int × Int × Int × Int)) (is1 : Int) : Option (Int) :=
  ((sort_Search_v1 (l1.length : Int) is1 l1).bind fun (r2 : Int) =>
  some r2)

set_option maxRecDepth 100000 in
set_option maxHeartbeats 4000000 in
theorem api_Line_ok (β0 : Bool) (l1 : List (Int × Int × Int × Int)) (is1 : Int) (res : Int) (h : api_Line l1 is1 = some res) :
    Pure Try.prog 23 [.p β0 (.slice (.prod (.int .i64) (.prod (.int .i64) (.prod (.int .i64) (.int .u8))))) l1, .fn 24 [.fad true [.p false (.int .i64) is1] 0]] (wrapR (encs false [⟨(.int .i64), res⟩])) := by
  refine Pure.of_body tbok Try.func23 (by kernel_rfl) rfl (Nat.le_of_ble_eq_true rfl) (fun Bw w0 => ?_) rfl
  unfold api_Line at h
  refine W_seq ?_
  refine W_reg tbok ⟨[], []⟩ [] [0, 8] [(2, .adr 0 0 1 0), (3, .adr 1 0 1 0)] [(0, .box [.p β0 (.slice (.prod (.int .i64) (.prod (.int .i64) (.prod (.int .i64) (.int .u8))))) l1]), (1, .box [.fn 24 [.fad true [.p false (.int .i64) is1] 0]])] 2 0 [True, True, True] (by kernel_rfl) (by kernel_rfl) ⟨trivial, trivial, trivial, trivial⟩ ?_
  refine to_then ?_
  refine W_seq ?_
  obtain ⟨r2, q2, h⟩ := h_bind h
  refine W_reg tbok ⟨[], [(3, ⟨.p false (.int .i64) r2, [false, false], false, [true, true], [], []⟩)]⟩ [] [] [(4, .p false (.int .i64) r2)] [] 0 0 [True, True, True, Pure Try.prog 32 [.p false (.int .i64) (l1.length : Int), .fn 34 [.fad true [.fn 24 [.fad true [.p false (.int .i64) is1] 0]] 0, .fad true [.p β0 (.slice (.prod (.int .i64) (.prod (.int .i64) (.prod (.int .i64) (.int .u8))))) l1] 0]] (.p false (.int .i64) r2), True] (by kernel_rfl) (by kernel_rfl) ⟨trivial, trivial, trivial, (sort_Search_v1_ok β0 (l1.length : Int) is1 l1 _ q2), trivial, trivial⟩ ?_
  refine to_then ?_
  refine W_ret ?_
  obtain rfl := Option.some.inj h
  exact Ret_intro [(.int .i64)] (by kernel_rfl)

/-- '(*stanza/place.Map).Spot' -/
def place_Map_Spot (d1 : List (Int × Int × Int × Int)) (d2 : List Int) (d3 : List (Int × Int × Int × Int)) (d4 : List (List Int)) (i1 : Int) (x1 : Bool) : Option ((Int × Int) × Int) :=
  (((if (decide (i1 < (0 : Int))) = true then some (true)
  else ((place_Map_end d1 d2 d3 d4).bind fun (r3 : Int) =>
  some ((decide (i1 > r3)))))).bind fun (v1 : Bool) => (if v1 = true then some (((0 : Int), (0 : Int)), (2 : Int))
  else ((api_Cluster d1 i1).bind fun (r5 : Int) =>
  ((api_Line d3 r5).bind fun (r7 : Int) =>
  (((if (r7 == (d3.length : Int)) = true then some (true)
  else (if x1 = true then (if (decide (r7 > (0 : Int))) = true then (if 0 ≤ r7 ∧ r7 < (d3.length : Int) then some ((((d3.getD r7.toNat ((0 : Int), ((0 : Int), ((0 : Int), (0 : Int))))).1) == r5)) else none)
  else some (false))
  else some (false)))).bind fun (v2 : Bool) => (((if v2 = true then some ((IntKind.i64.wrap (r7 - (1 : Int))))
  else some (r7))).bind fun (v3 : Int) => (if 0 ≤ v3 ∧ v3 < (d4.length : Int) then (if 0 ≤ v3 ∧ v3 < (d3.length : Int) then (if 0 ≤ (IntKind.i64.wrap (r5 - ((d3.getD v3.toNat ((0 : Int), ((0 : Int), ((0 : Int), (0 : Int))))).1))) ∧ (IntKind.i64.wrap (r5 - ((d3.getD v3.toNat ((0 : Int), ((0 : Int), ((0 : Int), (0 : Int))))).1))) < ((d4.getD v3.toNat ([] : List Int)).length : Int) then some ((v3, ((d4.getD v3.toNat ([] : List Int)).getD ((IntKind.i64.wrap (r5 - ((d3.getD v3.toNat ((0 : Int), ((0 : Int), ((0 : Int), (0 : Int))))).1))).toNat) (0 : Int))), (0 : Int)) else none) else none) else none)))))))

set_option maxRecDepth 100000 in
set_option maxHeartbeats 4000000 in
theorem place_Map_Spot_ok (β0 β1 β2 β3 : Bool) (d1 : List (Int × Int × Int × Int)) (d2 : List Int) (d3 : List (Int × Int × Int × Int)) (d4 : List (List Int)) (i1 : Int) (x1 : Bool) (res : (Int × Int) × Int) (h : place_Map_Spot d1 d2 d3 d4 i1 x1 = some res) :
    Pure Try.prog 11 [.fad true [.p β0 (.slice (.prod (.int .i64) (.prod (.int .i64) (.prod (.int .i64) (.int .u8))))) d1, .p β1 (.slice (.int .u8)) d2, .p β2 (.slice (.prod (.int .i64) (.prod (.int .i64) (.prod (.int .i64) (.int .u8))))) d3, .p β3 (.slice (.slice (.int .i64))) d4] 0, .p false (.int .i64) i1, .p false .bool x1] (wrapR (encs false [⟨(.prod (.int .i64) (.int .i64)), res.1⟩, ⟨(.int .i64), res.2⟩])) := by
  refine Pure.of_body tbok Try.func11 (by kernel_rfl) rfl (Nat.le_of_ble_eq_true rfl) (fun Bw w0 => ?_) rfl
  unfold place_Map_Spot at h
  refine W_seq ?_
  refine W_reg tbok ⟨[], []⟩ [] [0, 8] [(0, .fad true [.p β0 (.slice (.prod (.int .i64) (.prod (.int .i64) (.prod (.int .i64) (.int .u8))))) d1, .p β1 (.slice (.int .u8)) d2, .p β2 (.slice (.prod (.int .i64) (.prod (.int .i64) (.prod (.int .i64) (.int .u8))))) d3, .p β3 (.slice (.slice (.int .i64))) d4] 0), (2, .p false .bool x1), (4, .adr 0 0 1 0), (6, .adr 1 0 2 0)] [(0, .box [.p false (.int .i64) i1]), (1, .box [.p false (.int .i64) (0 : Int), .p false (.int .i64) (0 : Int)])] 2 0 [True, True, True] (by kernel_rfl) (by kernel_rfl) ⟨trivial, trivial, trivial, trivial⟩ ?_
  refine to_then ?_
  refine W_seq ?_
  refine W_seq ?_
  refine W_reg tbok ⟨[], []⟩ [] [0, 1] [(0, .fad true [.p β0 (.slice (.prod (.int .i64) (.prod (.int .i64) (.prod (.int .i64) (.int .u8))))) d1, .p β1 (.slice (.int .u8)) d2, .p β2 (.slice (.prod (.int .i64) (.prod (.int .i64) (.prod (.int .i64) (.int .u8))))) d3, .p β3 (.slice (.slice (.int .i64))) d4] 0), (2, .p false .bool x1), (4, .adr 0 0 1 0), (6, .adr 1 0 2 0), (11, .p false .bool false)] [(0, .box [.p false (.int .i64) i1]), (1, .box [.p false (.int .i64) (0 : Int), .p false (.int .i64) (0 : Int)])] 2 0 [True, ∃ e, Try.prog.underlying 25 = some (.pointer e)] (by kernel_rfl) (by kernel_rfl) ⟨trivial, ⟨_, rfl⟩, trivial⟩ ?_
  refine to_then ?_
  refine W_cond (b := false) (β := false) (by kernel_rfl) (fun hb16 => ?_) (fun hb16 => ?_)
  · exact absurd (hb16.symm.trans rfl) (by decide)
  · refine W_skip_to ?_
    refine to_then ?_
    refine W_seq ?_
    refine W_seq ?_
    obtain ⟨v1, hp1, h⟩ := h_bind h
    refine W.mono (Q := (postN Try.f11.ntmps (fun (v1 : Bool) => mkSt [(0, .fad true [.p β0 (.slice (.prod (.int .i64) (.prod (.int .i64) (.prod (.int .i64) (.int .u8))))) d1, .p β1 (.slice (.int .u8)) d2, .p β2 (.slice (.prod (.int .i64) (.prod (.int .i64) (.prod (.int .i64) (.int .u8))))) d3, .p β3 (.slice (.slice (.int .i64))) d4] 0), (2, .p false .bool x1), (4, .adr 0 0 1 0), (6, .adr 1 0 2 0), (20, .p false .bool v1)] [(0, .box [.p false (.int .i64) i1]), (1, .box [.p false (.int .i64) (0 : Int), .p false (.int .i64) (0 : Int)])] 2)) v1) ?_ (fun e σ' hq => ?_)
    · replace h := hp1
      clear hp1
      rcases Bool.eq_false_or_eq_true (decide (i1 < (0 : Int))) with hb3 | hb3
      · replace h := h_if hb3 h
        refine W_regD tbok mixed ⟨[(2, true), (7, true)], []⟩ [] [0, 1] [(0, .fad true [.p β0 (.slice (.prod (.int .i64) (.prod (.int .i64) (.prod (.int .i64) (.int .u8))))) d1, .p β1 (.slice (.int .u8)) d2, .p β2 (.slice (.prod (.int .i64) (.prod (.int .i64) (.prod (.int .i64) (.int .u8))))) d3, .p β3 (.slice (.slice (.int .i64))) d4] 0), (2, .p false .bool x1), (4, .adr 0 0 1 0), (6, .adr 1 0 2 0), (20, .p false .bool true)] [(0, .box [.p false (.int .i64) i1]), (1, .box [.p false (.int .i64) (0 : Int), .p false (.int .i64) (0 : Int)])] 2 0 [True, True, True, (decide (i1 < (0 : Int))) = true, (decide (i1 < (0 : Int))) = true, (decide (i1 < (0 : Int))) = true, (decide (i1 < (0 : Int))) = true, (decide (i1 < (0 : Int))) = true] (by kernel_rfl) (by kernel_rfl) ⟨trivial, trivial, trivial, hb3, hb3, hb3, hb3, hb3, trivial⟩ ?_
        obtain rfl := Option.some.inj h
        exact postN_to (goal_le (gs := []) (f := [0, 1]) (by kernel_rfl) (by kernel_rfl))
      · replace h := h_else hb3 h
        obtain ⟨r3, q3, h⟩ := h_bind h
        refine W_regD tbok mixed ⟨[(2, false), (7, false)], [(5, ⟨.p false (.int .i64) r3, [false], false, [true], [], []⟩)]⟩ [] [0, 1] [(0, .fad true [.p β0 (.slice (.prod (.int .i64) (.prod (.int .i64) (.prod (.int .i64) (.int .u8))))) d1, .p β1 (.slice (.int .u8)) d2, .p β2 (.slice (.prod (.int .i64) (.prod (.int .i64) (.prod (.int .i64) (.int .u8))))) d3, .p β3 (.slice (.slice (.int .i64))) d4] 0), (2, .p false .bool x1), (4, .adr 0 0 1 0), (6, .adr 1 0 2 0), (20, .p false .bool (decide (i1 > r3)))] [(0, .box [.p false (.int .i64) i1]), (1, .box [.p false (.int .i64) (0 : Int), .p false (.int .i64) (0 : Int)])] 2 0 [True, True, True, (decide (i1 < (0 : Int))) = false ∧ True, (decide (i1 < (0 : Int))) = false ∧ True, (decide (i1 < (0 : Int))) = false ∧ Pure Try.prog 20 [.fad true [.p β0 (.slice (.prod (.int .i64) (.prod (.int .i64) (.prod (.int .i64) (.int .u8))))) d1, .p β1 (.slice (.int .u8)) d2, .p β2 (.slice (.prod (.int .i64) (.prod (.int .i64) (.prod (.int .i64) (.int .u8))))) d3, .p β3 (.slice (.slice (.int .i64))) d4] 0] (.p false (.int .i64) r3), (decide (i1 < (0 : Int))) = false ∧ True, (decide (i1 < (0 : Int))) = false] (by kernel_rfl) (by kernel_rfl) ⟨trivial, trivial, trivial, ⟨hb3, trivial⟩, ⟨hb3, trivial⟩, ⟨hb3, (place_Map_end_ok β0 β1 β2 β3 d1 d2 d3 d4 _ q3)⟩, ⟨hb3, trivial⟩, hb3, trivial⟩ ?_
        obtain rfl := Option.some.inj h
        exact postN_to (goal_le (gs := []) (f := [0, 1]) (by kernel_rfl) (by kernel_rfl))
    · clear hp1
      obtain ⟨rfl, hle⟩ := hq
      refine use_to ?_ hle
      refine to_then ?_
      refine W_cond (b := v1) (β := false) (by kernel_rfl) (fun hb4 => ?_) (fun hb4 => ?_)
      · replace h := h_if hb4 h
        refine W_seq ?_
        refine W_reg tbok ⟨[], []⟩ [] [1] [(6, .adr 0 0 2 0), (7, .p false (.int .i64) (2 : Int))] [(0, .box [.p false (.int .i64) (0 : Int), .p false (.int .i64) (0 : Int)])] 1 0 [True, True, True] (by kernel_rfl) (by kernel_rfl) ⟨trivial, trivial, trivial, trivial⟩ ?_
        refine to_then ?_
        refine W_ret ?_
        refine thenQ_ret ?_
        obtain rfl := Option.some.inj h
        exact Ret_intro [(.prod (.int .i64) (.int .i64)), (.int .i64)] (by kernel_rfl)
      · replace h := h_else hb4 h
        refine W_skip_to ?_
        refine to_then ?_
        refine W_seq ?_
        obtain ⟨r5, q5, h⟩ := h_bind h
        refine W_reg tbok ⟨[], [(6, ⟨.p false (.int .i64) r5, [false, false], false, [true, true], [], []⟩)]⟩ [] [1, 58] [(0, .fad true [.p β0 (.slice (.prod (.int .i64) (.prod (.int .i64) (.prod (.int .i64) (.int .u8))))) d1, .p β1 (.slice (.int .u8)) d2, .p β2 (.slice (.prod (.int .i64) (.prod (.int .i64) (.prod (.int .i64) (.int .u8))))) d3, .p β3 (.slice (.slice (.int .i64))) d4] 0), (2, .p false .bool x1), (6, .adr 0 0 2 0), (8, .adr 1 0 1 0)] [(0, .box [.p false (.int .i64) (0 : Int), .p false (.int .i64) (0 : Int)]), (1, .box [.p false (.int .i64) r5])] 2 0 [True, True, True, True, True, True, Pure Try.prog 21 [.p β0 (.slice (.prod (.int .i64) (.prod (.int .i64) (.prod (.int .i64) (.int .u8))))) d1, .fn 22 [.fad true [.p false (.int .i64) i1] 0]] (.p false (.int .i64) r5), True, True] (by kernel_rfl) (by kernel_rfl) ⟨trivial, trivial, trivial, trivial, trivial, trivial, (api_Cluster_ok β0 d1 i1 _ q5), trivial, trivial, trivial⟩ ?_
        refine to_then ?_
        refine W_seq ?_
        obtain ⟨r7, q7, h⟩ := h_bind h
        refine W_reg tbok ⟨[], [(5, ⟨.p false (.int .i64) r7, [false, false], false, [true, true], [], []⟩)]⟩ [] [0, 1] [(0, .fad true [.p β0 (.slice (.prod (.int .i64) (.prod (.int .i64) (.prod (.int .i64) (.int .u8))))) d1, .p β1 (.slice (.int .u8)) d2, .p β2 (.slice (.prod (.int .i64) (.prod (.int .i64) (.prod (.int .i64) (.int .u8))))) d3, .p β3 (.slice (.slice (.int .i64))) d4] 0), (2, .p false .bool x1), (6, .adr 0 0 2 0), (8, .adr 1 0 1 0), (9, .p false (.int .i64) r7)] [(0, .box [.p false (.int .i64) (0 : Int), .p false (.int .i64) (0 : Int)]), (1, .box [.p false (.int .i64) r5])] 2 0 [True, True, True, True, True, Pure Try.prog 23 [.p β2 (.slice (.prod (.int .i64) (.prod (.int .i64) (.prod (.int .i64) (.int .u8))))) d3, .fn 24 [.fad true [.p false (.int .i64) r5] 0]] (.p false (.int .i64) r7), True] (by kernel_rfl) (by kernel_rfl) ⟨trivial, trivial, trivial, trivial, trivial, (api_Line_ok β2 d3 r5 _ q7), trivial, trivial⟩ ?_
        refine to_then ?_
        refine W_seq ?_
        refine W_seq ?_
        obtain ⟨v2, hp2, h⟩ := h_bind h
        refine W.mono (Q := (postN Try.f11.ntmps (fun (v2 : Bool) => mkSt [(0, .fad true [.p β0 (.slice (.prod (.int .i64) (.prod (.int .i64) (.prod (.int .i64) (.int .u8))))) d1, .p β1 (.slice (.int .u8)) d2, .p β2 (.slice (.prod (.int .i64) (.prod (.int .i64) (.prod (.int .i64) (.int .u8))))) d3, .p β3 (.slice (.slice (.int .i64))) d4] 0), (6, .adr 0 0 2 0), (8, .adr 1 0 1 0), (9, .p false (.int .i64) r7), (60, .p false .bool v2)] [(0, .box [.p false (.int .i64) (0 : Int), .p false (.int .i64) (0 : Int)]), (1, .box [.p false (.int .i64) r5])] 2)) v2) ?_ (fun e σ' hq => ?_)
        · replace h := hp2
          clear hp2
          rcases Bool.eq_false_or_eq_true (r7 == (d3.length : Int)) with hb11 | hb11
          · replace h := h_if hb11 h
            refine W_regD tbok mixed ⟨[(7, true), (25, true)], []⟩ [] [0, 1] [(0, .fad true [.p β0 (.slice (.prod (.int .i64) (.prod (.int .i64) (.prod (.int .i64) (.int .u8))))) d1, .p β1 (.slice (.int .u8)) d2, .p β2 (.slice (.prod (.int .i64) (.prod (.int .i64) (.prod (.int .i64) (.int .u8))))) d3, .p β3 (.slice (.slice (.int .i64))) d4] 0), (6, .adr 0 0 2 0), (8, .adr 1 0 1 0), (9, .p false (.int .i64) r7), (60, .p false .bool true)] [(0, .box [.p false (.int .i64) (0 : Int), .p false (.int .i64) (0 : Int)]), (1, .box [.p false (.int .i64) r5])] 2 0 [True, True, True, True, True, True, True, True, (r7 == (d3.length : Int)) = true, (r7 == (d3.length : Int)) = true, True, True, (r7 == (d3.length : Int)) = true, (r7 == (d3.length : Int)) = true, True, True, True, True, True, True, True, True, True, True, (r7 == (d3.length : Int)) = true, (r7 == (d3.length : Int)) = true] (by kernel_rfl) (by kernel_rfl) ⟨trivial, trivial, trivial, trivial, trivial, trivial, trivial, trivial, hb11, hb11, trivial, trivial, hb11, hb11, trivial, trivial, trivial, trivial, trivial, trivial, trivial, trivial, trivial, trivial, hb11, hb11, trivial⟩ ?_
            obtain rfl := Option.some.inj h
            exact postN_to (goal_le (gs := []) (f := [0, 1]) (by kernel_rfl) (by kernel_rfl))
          · replace h := h_else hb11 h
            rcases Bool.eq_false_or_eq_true x1 with hb12 | hb12
            · replace h := h_if hb12 h
              rcases Bool.eq_false_or_eq_true (decide (r7 > (0 : Int))) with hb13 | hb13
              · replace h := h_if hb13 h
                obtain ⟨c3, h⟩ := h_guard h
                refine W_regD tbok mixed ⟨[(7, false), (9, true), (12, true), (13, true), (24, true), (25, false)], []⟩ [] [0, 1] [(0, .fad true [.p β0 (.slice (.prod (.int .i64) (.prod (.int .i64) (.prod (.int .i64) (.int .u8))))) d1, .p β1 (.slice (.int .u8)) d2, .p β2 (.slice (.prod (.int .i64) (.prod (.int .i64) (.prod (.int .i64) (.int .u8))))) d3, .p β3 (.slice (.slice (.int .i64))) d4] 0), (6, .adr 0 0 2 0), (8, .adr 1 0 1 0), (9, .p false (.int .i64) r7), (60, .p false .bool (((d3.getD r7.toNat ((0 : Int), ((0 : Int), ((0 : Int), (0 : Int))))).1) == r5))] [(0, .box [.p false (.int .i64) (0 : Int), .p false (.int .i64) (0 : Int)]), (1, .box [.p false (.int .i64) r5])] 2 0 [True, True, True, True, True, True, True, True, (r7 == (d3.length : Int)) = false ∧ True, (r7 == (d3.length : Int)) = false ∧ True, x1 = true ∧ True, x1 = true ∧ True, (r7 == (d3.length : Int)) = false ∧ x1 = true, (r7 == (d3.length : Int)) = false ∧ True, (decide (r7 > (0 : Int))) = true ∧ True, (decide (r7 > (0 : Int))) = true ∧ True, (decide (r7 > (0 : Int))) = true ∧ True, (decide (r7 > (0 : Int))) = true ∧ True, (decide (r7 > (0 : Int))) = true ∧ True, (decide (r7 > (0 : Int))) = true ∧ 0 ≤ r7 ∧ r7 < (d3.length : Int), (decide (r7 > (0 : Int))) = true ∧ True, (decide (r7 > (0 : Int))) = true ∧ True, (decide (r7 > (0 : Int))) = true ∧ True, (decide (r7 > (0 : Int))) = true ∧ True, (r7 == (d3.length : Int)) = false ∧ (decide (r7 > (0 : Int))) = true, (r7 == (d3.length : Int)) = false] (by kernel_rfl) (by kernel_rfl) ⟨trivial, trivial, trivial, trivial, trivial, trivial, trivial, trivial, ⟨hb11, trivial⟩, ⟨hb11, trivial⟩, ⟨hb12, trivial⟩, ⟨hb12, trivial⟩, ⟨hb11, hb12⟩, ⟨hb11, trivial⟩, ⟨hb13, trivial⟩, ⟨hb13, trivial⟩, ⟨hb13, trivial⟩, ⟨hb13, trivial⟩, ⟨hb13, trivial⟩, ⟨hb13, c3⟩, ⟨hb13, trivial⟩, ⟨hb13, trivial⟩, ⟨hb13, trivial⟩, ⟨hb13, trivial⟩, ⟨hb11, hb13⟩, hb11, trivial⟩ ?_
                obtain rfl := Option.some.inj h
                exact postN_to (goal_le (gs := []) (f := [0, 1]) (by kernel_rfl) (by kernel_rfl))
              · replace h := h_else hb13 h
                refine W_regD tbok mixed ⟨[(7, false), (9, true), (12, true), (13, false), (24, false), (25, false)], []⟩ [] [0, 1] [(0, .fad true [.p β0 (.slice (.prod (.int .i64) (.prod (.int .i64) (.prod (.int .i64) (.int .u8))))) d1, .p β1 (.slice (.int .u8)) d2, .p β2 (.slice (.prod (.int .i64) (.prod (.int .i64) (.prod (.int .i64) (.int .u8))))) d3, .p β3 (.slice (.slice (.int .i64))) d4] 0), (6, .adr 0 0 2 0), (8, .adr 1 0 1 0), (9, .p false (.int .i64) r7), (60, .p false .bool false)] [(0, .box [.p false (.int .i64) (0 : Int), .p false (.int .i64) (0 : Int)]), (1, .box [.p false (.int .i64) r5])] 2 0 [True, True, True, True, True, True, True, True, (r7 == (d3.length : Int)) = false ∧ True, (r7 == (d3.length : Int)) = false ∧ True, x1 = true ∧ True, x1 = true ∧ True, (r7 == (d3.length : Int)) = false ∧ x1 = true, (r7 == (d3.length : Int)) = false ∧ True, (decide (r7 > (0 : Int))) = false, (decide (r7 > (0 : Int))) = false, (decide (r7 > (0 : Int))) = false, (decide (r7 > (0 : Int))) = false, (decide (r7 > (0 : Int))) = false, (decide (r7 > (0 : Int))) = false, (decide (r7 > (0 : Int))) = false, (decide (r7 > (0 : Int))) = false, (decide (r7 > (0 : Int))) = false, (decide (r7 > (0 : Int))) = false, (r7 == (d3.length : Int)) = false ∧ (decide (r7 > (0 : Int))) = false, (r7 == (d3.length : Int)) = false] (by kernel_rfl) (by kernel_rfl) ⟨trivial, trivial, trivial, trivial, trivial, trivial, trivial, trivial, ⟨hb11, trivial⟩, ⟨hb11, trivial⟩, ⟨hb12, trivial⟩, ⟨hb12, trivial⟩, ⟨hb11, hb12⟩, ⟨hb11, trivial⟩, hb13, hb13, hb13, hb13, hb13, hb13, hb13, hb13, hb13, hb13, ⟨hb11, hb13⟩, hb11, trivial⟩ ?_
                obtain rfl := Option.some.inj h
                exact postN_to (goal_le (gs := []) (f := [0, 1]) (by kernel_rfl) (by kernel_rfl))
            · replace h := h_else hb12 h
              refine W_regD tbok mixed ⟨[(7, false), (9, false), (12, false), (13, false), (24, false), (25, false)], []⟩ [] [0, 1] [(0, .fad true [.p β0 (.slice (.prod (.int .i64) (.prod (.int .i64) (.prod (.int .i64) (.int .u8))))) d1, .p β1 (.slice (.int .u8)) d2, .p β2 (.slice (.prod (.int .i64) (.prod (.int .i64) (.prod (.int .i64) (.int .u8))))) d3, .p β3 (.slice (.slice (.int .i64))) d4] 0), (6, .adr 0 0 2 0), (8, .adr 1 0 1 0), (9, .p false (.int .i64) r7), (60, .p false .bool false)] [(0, .box [.p false (.int .i64) (0 : Int), .p false (.int .i64) (0 : Int)]), (1, .box [.p false (.int .i64) r5])] 2 0 [True, True, True, True, True, True, True, True, (r7 == (d3.length : Int)) = false ∧ True, (r7 == (d3.length : Int)) = false ∧ True, x1 = false, x1 = false, (r7 == (d3.length : Int)) = false ∧ x1 = false, (r7 == (d3.length : Int)) = false ∧ True, false = false, false = false, false = false, false = false, false = false, false = false, false = false, false = false, false = false, false = false, (r7 == (d3.length : Int)) = false ∧ false = false, (r7 == (d3.length : Int)) = false] (by kernel_rfl) (by kernel_rfl) ⟨trivial, trivial, trivial, trivial, trivial, trivial, trivial, trivial, ⟨hb11, trivial⟩, ⟨hb11, trivial⟩, hb12, hb12, ⟨hb11, hb12⟩, ⟨hb11, trivial⟩, rfl, rfl, rfl, rfl, rfl, rfl, rfl, rfl, rfl, rfl, ⟨hb11, rfl⟩, hb11, trivial⟩ ?_
              obtain rfl := Option.some.inj h
              exact postN_to (goal_le (gs := []) (f := [0, 1]) (by kernel_rfl) (by kernel_rfl))
        · clear hp2
          obtain ⟨rfl, hle⟩ := hq
          refine use_to ?_ hle
          refine to_then ?_
          obtain ⟨v3, hp3, h⟩ := h_bind h
          refine W.mono (Q := (postN Try.f11.ntmps (fun (v3 : Int) => mkSt [(0, .fad true [.p β0 (.slice (.prod (.int .i64) (.prod (.int .i64) (.prod (.int .i64) (.int .u8))))) d1, .p β1 (.slice (.int .u8)) d2, .p β2 (.slice (.prod (.int .i64) (.prod (.int .i64) (.prod (.int .i64) (.int .u8))))) d3, .p β3 (.slice (.slice (.int .i64))) d4] 0), (6, .adr 0 0 2 0), (8, .adr 1 0 1 0), (9, .p false (.int .i64) v3)] [(0, .box [.p false (.int .i64) (0 : Int), .p false (.int .i64) (0 : Int)]), (1, .box [.p false (.int .i64) r5])] 2)) v3) ?_ (fun e σ' hq => ?_)
          · replace h := hp3
            clear hp3
            refine W_cond (b := v2) (β := false) (by kernel_rfl) (fun hb15 => ?_) (fun hb15 => ?_)
            · replace h := h_if hb15 h
              refine W_reg tbok ⟨[], []⟩ [] [0, 1] [(0, .fad true [.p β0 (.slice (.prod (.int .i64) (.prod (.int .i64) (.prod (.int .i64) (.int .u8))))) d1, .p β1 (.slice (.int .u8)) d2, .p β2 (.slice (.prod (.int .i64) (.prod (.int .i64) (.prod (.int .i64) (.int .u8))))) d3, .p β3 (.slice (.slice (.int .i64))) d4] 0), (6, .adr 0 0 2 0), (8, .adr 1 0 1 0), (9, .p false (.int .i64) (IntKind.i64.wrap (r7 - (1 : Int))))] [(0, .box [.p false (.int .i64) (0 : Int), .p false (.int .i64) (0 : Int)]), (1, .box [.p false (.int .i64) r5])] 2 0 [True, True, True] (by kernel_rfl) (by kernel_rfl) ⟨trivial, trivial, trivial, trivial⟩ ?_
              obtain rfl := Option.some.inj h
              exact postN_to (goal_le (gs := []) (f := [0, 1]) (by kernel_rfl) (by kernel_rfl))
            · replace h := h_else hb15 h
              refine W_skip_to ?_
              obtain rfl := Option.some.inj h
              exact postN_to (goal_le (gs := []) (f := [0, 1]) (by kernel_rfl) (by kernel_rfl))
          · clear hp3
            obtain ⟨rfl, hle⟩ := hq
            refine use_to ?_ hle
            refine to_then ?_
            refine W_seq ?_
            obtain ⟨c7, h⟩ := h_guard h
            obtain ⟨c8, h⟩ := h_guard h
            obtain ⟨c9, h⟩ := h_guard h
            refine W_regD tbok mixed ⟨[], []⟩ [] [0] [(6, .adr 0 0 2 0), (7, .p false (.int .i64) (0 : Int))] [(0, .box [.p false (.int .i64) v3, .p false (.int .i64) ((d4.getD v3.toNat ([] : List Int)).getD ((IntKind.i64.wrap (r5 - ((d3.getD v3.toNat ((0 : Int), ((0 : Int), ((0 : Int), (0 : Int))))).1))).toNat) (0 : Int))])] 1 0 [True, True, True, True, True, True, 0 ≤ v3 ∧ v3 < (d4.length : Int), True, True, True, True, True, True, True, 0 ≤ v3 ∧ v3 < (d3.length : Int), True, True, True, 0 ≤ (IntKind.i64.wrap (r5 - ((d3.getD v3.toNat ((0 : Int), ((0 : Int), ((0 : Int), (0 : Int))))).1))) ∧ (IntKind.i64.wrap (r5 - ((d3.getD v3.toNat ((0 : Int), ((0 : Int), ((0 : Int), (0 : Int))))).1))) < ((d4.getD v3.toNat ([] : List Int)).length : Int), True, True, True, True] (by kernel_rfl) (by kernel_rfl) ⟨trivial, trivial, trivial, trivial, trivial, trivial, c7, trivial, trivial, trivial, trivial, trivial, trivial, trivial, c8, trivial, trivial, trivial, c9, trivial, trivial, trivial, trivial, trivial⟩ ?_
            refine to_then ?_
            refine W_ret ?_
            obtain rfl := Option.some.inj h
            exact Ret_intro [(.prod (.int .i64) (.int .i64)), (.int .i64)] (by kernel_rfl)

/-- '(*stanza/place.Map).Byte$1' -/
def place_Map_Byte_1 (col1 : Int) (x1 : Int) (x2 : Int) : Option (Bool) :=
  some (decide (col1 > x2))

set_option maxRecDepth 100000 in
set_option maxHeartbeats 4000000 in
theorem place_Map_Byte_1_ok (col1 : Int) (x1 : Int) (x2 : Int) (res : Bool) (h : place_Map_Byte_1 col1 x1 x2 = some res) :
    Pure Try.prog 26 [.p false (.int .i64) col1, .fad true [.p false (.int .i64) x1, .p false (.int .i64) x2] 0] (wrapR (encs false [⟨.bool, res⟩])) := by
  refine Pure.of_body tbok Try.func26 (by kernel_rfl) rfl (Nat.le_of_ble_eq_true rfl) (fun Bw w0 => ?_) rfl
  unfold place_Map_Byte_1 at h
  refine W_seq ?_
  refine W_reg tbok ⟨[], []⟩ [] [] [(0, .p false (.int .i64) col1), (1, .fad true [.p false (.int .i64) x1, .p false (.int .i64) x2] 0)] [] 0 0 [True] (by kernel_rfl) (by kernel_rfl) ⟨trivial, trivial⟩ ?_
  refine to_then ?_
  refine W_seq ?_
  refine W_reg tbok ⟨[], []⟩ [] [] [(3, .p false .bool (decide (col1 > x2)))] [] 0 0 [True, True, True, True, True] (by kernel_rfl) (by kernel_rfl) ⟨trivial, trivial, trivial, trivial, trivial, trivial⟩ ?_
  refine to_then ?_
  refine W_ret ?_
  obtain rfl := Option.some.inj h
  exact Ret_intro [.bool] (by kernel_rfl)

/-- 'stanza/place.ahead[int]$1' -/
def place_ahead_int_1 (i1 : Int) (x1 : Int) (x2 : Int) (x3 : List Int) : Option (Bool) :=
  (if 0 ≤ i1 ∧ i1 < (x3.length : Int) then ((place_Map_Byte_1 (x3.getD i1.toNat (0 : Int)) x1 x2).bind fun (r2 : Bool) =>
  some r2) else none)

set_option maxRecDepth 100000 in
set_option maxHeartbeats 4000000 in
theorem place_ahead_int_1_ok (β3 : Bool) (i1 : Int) (x1 : Int) (x2 : Int) (x3 : List Int) (res : Bool) (h : place_ahead_int_1 i1 x1 x2 x3 = some res) :
    Pure Try.prog 35 [.p false (.int .i64) i1, .fad true [.fn 26 [.fad true [.p false (.int .i64) x1, .p false (.int .i64) x2] 0]] 0, .fad true [.p β3 (.slice (.int .i64)) x3] 0] (wrapR (encs false [⟨.bool, res⟩])) := by
  refine Pure.of_body tbok Try.func35 (by kernel_rfl) rfl (Nat.le_of_ble_eq_true rfl) (fun Bw w0 => ?_) rfl
  unfold place_ahead_int_1 at h
  refine W_seq ?_
  refine W_reg tbok ⟨[], []⟩ [] [] [(0, .p false (.int .i64) i1), (1, .fad true [.fn 26 [.fad true [.p false (.int .i64) x1, .p false (.int .i64) x2] 0]] 0), (2, .fad true [.p β3 (.slice (.int .i64)) x3] 0)] [] 0 0 [True] (by kernel_rfl) (by kernel_rfl) ⟨trivial, trivial⟩ ?_
  refine to_then ?_
  refine W_seq ?_
  obtain ⟨c2, h⟩ := h_guard h
  obtain ⟨r2, q2, h⟩ := h_bind h
  refine W_regD tbok mixed ⟨[], [(5, ⟨.p false .bool r2, [false], false, [true], [], []⟩)]⟩ [] [] [(4, .p false .bool r2)] [] 0 0 [True, True, True, 0 ≤ i1 ∧ i1 < (x3.length : Int), True, Pure Try.prog 26 [.p false (.int .i64) (x3.getD i1.toNat (0 : Int)), .fad true [.p false (.int .i64) x1, .p false (.int .i64) x2] 0] (.p false .bool r2), True] (by kernel_rfl) (by kernel_rfl) ⟨trivial, trivial, trivial, c2, trivial, (place_Map_Byte_1_ok (x3.getD i1.toNat (0 : Int)) x1 x2 _ q2), trivial, trivial⟩ ?_
  refine to_then ?_
  refine W_ret ?_
  obtain rfl := Option.some.inj h
  exact Ret_intro [.bool] (by kernel_rfl)

/-- a loop of 'sort.Search': one round -/
def sort_Search_v2_L1 (f1 : Int) (f2 : Int) (f3 : List Int) : (Int × Int) → Option ((Int × Int) ⊕ (Int)) := fun ((i2, j2) : Int × Int) =>
  (if (decide (i2 < j2)) = true then (if 0 ≤ (1 : Int) then ((place_ahead_int_1 (IntKind.i64.wrap (Int.fdiv (IntKind.u64.wrap (IntKind.i64.wrap (i2 + j2))) (2 ^ (min (1 : Int).toNat IntKind.u64.bits)))) f1 f2 f3).bind fun (r6 : Bool) =>
  (if (!r6) = true then some (Sum.inl ((IntKind.i64.wrap ((IntKind.i64.wrap (Int.fdiv (IntKind.u64.wrap (IntKind.i64.wrap (i2 + j2))) (2 ^ (min (1 : Int).toNat IntKind.u64.bits)))) + (1 : Int))), j2))
  else some (Sum.inl (i2, (IntKind.i64.wrap (Int.fdiv (IntKind.u64.wrap (IntKind.i64.wrap (i2 + j2))) (2 ^ (min (1 : Int).toNat IntKind.u64.bits)))))))) else none)
  else some (Sum.inr i2))

/-- 'sort.Search' -/
def sort_Search_v2 (n1 : Int) (f1 : Int) (f2 : Int) (f3 : List Int) : Option (Int) :=
  ((iter (sort_Search_v2_L1 f1 f2 f3) ((0 : Int), n1)).bind fun (i3 : Int) => some i3)

set_option maxRecDepth 100000 in
set_option maxHeartbeats 4000000 in
theorem sort_Search_v2_ok (β3 : Bool) (n1 : Int) (f1 : Int) (f2 : Int) (f3 : List Int) (res : Int) (h : sort_Search_v2 n1 f1 f2 f3 = some res) :
    Pure Try.prog 32 [.p false (.int .i64) n1, .fn 35 [.fad true [.fn 26 [.fad true [.p false (.int .i64) f1, .p false (.int .i64) f2] 0]] 0, .fad true [.p β3 (.slice (.int .i64)) f3] 0]] (wrapR (encs false [⟨(.int .i64), res⟩])) := by
  refine Pure.of_body tbok Try.func32 (by kernel_rfl) rfl (Nat.le_of_ble_eq_true rfl) (fun Bw w0 => ?_) rfl
  unfold sort_Search_v2 at h
  refine W_seq ?_
  refine W_reg tbok ⟨[], []⟩ [] [] [(0, .p false (.int .i64) n1), (1, .fn 35 [.fad true [.fn 26 [.fad true [.p false (.int .i64) f1, .p false (.int .i64) f2] 0]] 0, .fad true [.p β3 (.slice (.int .i64)) f3] 0])] [] 0 0 [True] (by kernel_rfl) (by kernel_rfl) ⟨trivial, trivial⟩ ?_
  refine to_then ?_
  refine W_seq ?_
  refine W_reg tbok ⟨[], []⟩ [] [] [(1, .fn 35 [.fad true [.fn 26 [.fad true [.p false (.int .i64) f1, .p false (.int .i64) f2] 0]] 0, .fad true [.p β3 (.slice (.int .i64)) f3] 0]), (5, .p false (.int .i64) (0 : Int)), (6, .p false (.int .i64) n1)] [] 0 0 [True, True, True] (by kernel_rfl) (by kernel_rfl) ⟨trivial, trivial, trivial, trivial⟩ ?_
  refine to_then ?_
  refine W_seq ?_
  refine W_block ?_
  obtain ⟨i3, hp1, h⟩ := h_bind h
  refine W.mono (Q := (postX Try.f32.ntmps 0 (fun (i3 : Int) => mkSt [(5, .p false (.int .i64) i3)] [] 0)) i3) (W_iter (f := fun ((i2, j2) : Int × Int) => mkSt [(1, .fn 35 [.fad true [.fn 26 [.fad true [.p false (.int .i64) f1, .p false (.int .i64) f2] 0]] 0, .fad true [.p β3 (.slice (.int .i64)) f3] 0]), (5, .p false (.int .i64) i2), (6, .p false (.int .i64) j2)] [] 0) (Q := (postX Try.f32.ntmps 0 (fun (i3 : Int) => mkSt [(5, .p false (.int .i64) i3)] [] 0))) hp1 (goal_le (gs := []) (f := []) (by kernel_rfl) (by kernel_rfl)) (fun y o ho => ?_)) (fun e σ' hq => ?_)
  · obtain ⟨i2, j2⟩ := y
    replace h := ho
    clear ho hp1
    unfold sort_Search_v2_L1 at h
    refine W_seq ?_
    refine W_seq ?_
    refine W_reg tbok ⟨[], []⟩ [] [] [(1, .fn 35 [.fad true [.fn 26 [.fad true [.p false (.int .i64) f1, .p false (.int .i64) f2] 0]] 0, .fad true [.p β3 (.slice (.int .i64)) f3] 0]), (5, .p false (.int .i64) i2), (6, .p false (.int .i64) j2), (11, .p false .bool (decide (i2 < j2)))] [] 0 0 [True, True, True] (by kernel_rfl) (by kernel_rfl) ⟨trivial, trivial, trivial, trivial⟩ ?_
    refine to_then ?_
    refine W_cond (b := (decide (i2 < j2))) (β := false) (by kernel_rfl) (fun hb5 => ?_) (fun hb5 => ?_)
    · replace h := h_if hb5 h
      refine W_skip_to ?_
      refine to_then ?_
      refine W_block ?_
      refine W_seq ?_
      obtain ⟨c6, h⟩ := h_guard h
      refine W_reg tbok ⟨[], []⟩ [] [] [(1, .fn 35 [.fad true [.fn 26 [.fad true [.p false (.int .i64) f1, .p false (.int .i64) f2] 0]] 0, .fad true [.p β3 (.slice (.int .i64)) f3] 0]), (5, .p false (.int .i64) i2), (6, .p false (.int .i64) j2), (7, .p false (.int .i64) (IntKind.i64.wrap (Int.fdiv (IntKind.u64.wrap (IntKind.i64.wrap (i2 + j2))) (2 ^ (min (1 : Int).toNat IntKind.u64.bits)))))] [] 0 0 [True, True, True, True, 0 ≤ (1 : Int), True, True] (by kernel_rfl) (by kernel_rfl) ⟨trivial, trivial, trivial, trivial, c6, trivial, trivial, trivial⟩ ?_
      refine to_then ?_
      refine W_seq ?_
      obtain ⟨r6, q6, h⟩ := h_bind h
      refine W_reg tbok ⟨[], [(2, ⟨.p false .bool r6, [false], false, [true], [], []⟩)]⟩ [] [] [(1, .fn 35 [.fad true [.fn 26 [.fad true [.p false (.int .i64) f1, .p false (.int .i64) f2] 0]] 0, .fad true [.p β3 (.slice (.int .i64)) f3] 0]), (5, .p false (.int .i64) i2), (6, .p false (.int .i64) j2), (7, .p false (.int .i64) (IntKind.i64.wrap (Int.fdiv (IntKind.u64.wrap (IntKind.i64.wrap (i2 + j2))) (2 ^ (min (1 : Int).toNat IntKind.u64.bits))))), (21, .p false .bool (!r6))] [] 0 0 [True, True, Pure Try.prog 35 [.p false (.int .i64) (IntKind.i64.wrap (Int.fdiv (IntKind.u64.wrap (IntKind.i64.wrap (i2 + j2))) (2 ^ (min (1 : Int).toNat IntKind.u64.bits)))), .fad true [.fn 26 [.fad true [.p false (.int .i64) f1, .p false (.int .i64) f2] 0]] 0, .fad true [.p β3 (.slice (.int .i64)) f3] 0] (.p false .bool r6), True] (by kernel_rfl) (by kernel_rfl) ⟨trivial, trivial, (place_ahead_int_1_ok β3 (IntKind.i64.wrap (Int.fdiv (IntKind.u64.wrap (IntKind.i64.wrap (i2 + j2))) (2 ^ (min (1 : Int).toNat IntKind.u64.bits)))) f1 f2 f3 _ q6), trivial, trivial⟩ ?_
      refine to_then ?_
      refine W_cond (b := (!r6)) (β := false) (by kernel_rfl) (fun hb6 => ?_) (fun hb6 => ?_)
      · replace h := h_if hb6 h
        refine W_reg tbok ⟨[], []⟩ [] [] [(1, .fn 35 [.fad true [.fn 26 [.fad true [.p false (.int .i64) f1, .p false (.int .i64) f2] 0]] 0, .fad true [.p β3 (.slice (.int .i64)) f3] 0]), (5, .p false (.int .i64) (IntKind.i64.wrap ((IntKind.i64.wrap (Int.fdiv (IntKind.u64.wrap (IntKind.i64.wrap (i2 + j2))) (2 ^ (min (1 : Int).toNat IntKind.u64.bits)))) + (1 : Int)))), (6, .p false (.int .i64) j2)] [] 0 0 [True, True, True] (by kernel_rfl) (by kernel_rfl) ⟨trivial, trivial, trivial, trivial⟩ ?_
        refine to_block ?_
        obtain rfl := Option.some.inj h
        exact roundB (goal_le (gs := []) (f := []) (by kernel_rfl) (by kernel_rfl))
      · replace h := h_else hb6 h
        refine W_reg tbok ⟨[], []⟩ [] [] [(1, .fn 35 [.fad true [.fn 26 [.fad true [.p false (.int .i64) f1, .p false (.int .i64) f2] 0]] 0, .fad true [.p β3 (.slice (.int .i64)) f3] 0]), (5, .p false (.int .i64) i2), (6, .p false (.int .i64) (IntKind.i64.wrap (Int.fdiv (IntKind.u64.wrap (IntKind.i64.wrap (i2 + j2))) (2 ^ (min (1 : Int).toNat IntKind.u64.bits)))))] [] 0 0 [True, True] (by kernel_rfl) (by kernel_rfl) ⟨trivial, trivial, trivial⟩ ?_
        refine to_block ?_
        obtain rfl := Option.some.inj h
        exact roundB (goal_le (gs := []) (f := []) (by kernel_rfl) (by kernel_rfl))
    · replace h := h_else hb5 h
      refine W_exit_to ?_
      refine thenE ?_
      obtain rfl := Option.some.inj h
      refine roundE ?_
      exact postX_to (goal_le (gs := []) (f := []) (by kernel_rfl) (by kernel_rfl))
  · clear hp1
    obtain ⟨rfl, hle⟩ := hq
    refine use_to ?_ hle
    refine blockE_eq ?_
    refine to_then ?_
    refine W_seq ?_
    refine W_reg tbok ⟨[], []⟩ [] [] [(4, .p false (.int .i64) i3)] [] 0 0 [True, True] (by kernel_rfl) (by kernel_rfl) ⟨trivial, trivial, trivial⟩ ?_
    refine to_then ?_
    refine W_ret ?_
    obtain rfl := Option.some.inj h
    exact Ret_intro [(.int .i64)] (by kernel_rfl)

/-- 'stanza/place.ahead[int]' -/
def place_ahead_int (l1 : List Int) (is1 : Int) (is2 : Int) : Option (Int) :=
  ((sort_Search_v2 (l1.length : Int) is1 is2 l1).bind fun (r2 : Int) =>
  some r2)

set_option maxRecDepth 100000 in
set_option maxHeartbeats 4000000 in
theorem place_ahead_int_ok (β0 : Bool) (l1 : List Int) (is1 : Int) (is2 : Int) (res : Int) (h : place_ahead_int l1 is1 is2 = some res) :
    Pure Try.prog 25 [.p β0 (.slice (.int .i64)) l1, .fn 26 [.fad true [.p false (.int .i64) is1, .p false (.int .i64) is2] 0]] (wrapR (encs false [⟨(.int .i64), res⟩])) := by
  refine Pure.of_body tbok Try.func25 (by kernel_rfl) rfl (Nat.le_of_ble_eq_true rfl) (fun Bw w0 => ?_) rfl
  unfold place_ahead_int at h
  refine W_seq ?_
  refine W_reg tbok ⟨[], []⟩ [] [0, 8] [(2, .adr 0 0 1 0), (3, .adr 1 0 1 0)] [(0, .box [.p β0 (.slice (.int .i64)) l1]), (1, .box [.fn 26 [.fad true [.p false (.int .i64) is1, .p false (.int .i64) is2] 0]])] 2 0 [True, True, True] (by kernel_rfl) (by kernel_rfl) ⟨trivial, trivial, trivial, trivial⟩ ?_
  refine to_then ?_
  refine W_seq ?_
  obtain ⟨r2, q2, h⟩ := h_bind h
  refine W_reg tbok ⟨[], [(3, ⟨.p false (.int .i64) r2, [false, false], false, [true, true], [], []⟩)]⟩ [] [] [(4, .p false (.int .i64) r2)] [] 0 0 [True, True, True, Pure Try.prog 32 [.p false (.int .i64) (l1.length : Int), .fn 35 [.fad true [.fn 26 [.fad true [.p false (.int .i64) is1, .p false (.int .i64) is2] 0]] 0, .fad true [.p β0 (.slice (.int .i64)) l1] 0]] (.p false (.int .i64) r2), True] (by kernel_rfl) (by kernel_rfl) ⟨trivial, trivial, trivial, (sort_Search_v2_ok β0 (l1.length : Int) is1 is2 l1 _ q2), trivial, trivial⟩ ?_
  refine to_then ?_
  refine W_ret ?_
  obtain rfl := Option.some.inj h
  exact Ret_intro [(.int .i64)] (by kernel_rfl)

/-- '(*stanza/place.Map).start' -/
def place_Map_start (m1 : List (Int × Int × Int × Int)) (m2 : List Int) (m3 : List (Int × Int × Int × Int)) (m4 : List (List Int)) (k1 : Int) : Option (Int) :=
  (if (decide (k1 < (m1.length : Int))) = true then (if 0 ≤ k1 ∧ k1 < (m1.length : Int) then some (m1.getD k1.toNat ((0 : Int), ((0 : Int), ((0 : Int), (0 : Int))))).1 else none)
  else ((place_Map_end m1 m2 m3 m4).bind fun (r2 : Int) =>
  some r2))

set_option maxRecDepth 100000 in
set_option maxHeartbeats 4000000 in
theorem place_Map_start_ok (β0 β1 β2 β3 : Bool) (m1 : List (Int × Int × Int × Int)) (m2 : List Int) (m3 : List (Int × Int × Int × Int)) (m4 : List (List Int)) (k1 : Int) (res : Int) (h : place_Map_start m1 m2 m3 m4 k1 = some res) :
    Pure Try.prog 27 [.fad true [.p β0 (.slice (.prod (.int .i64) (.prod (.int .i64) (.prod (.int .i64) (.int .u8))))) m1, .p β1 (.slice (.int .u8)) m2, .p β2 (.slice (.prod (.int .i64) (.prod (.int .i64) (.prod (.int .i64) (.int .u8))))) m3, .p β3 (.slice (.slice (.int .i64))) m4] 0, .p false (.int .i64) k1] (wrapR (encs false [⟨(.int .i64), res⟩])) := by
  refine Pure.of_body tbok Try.func27 (by kernel_rfl) rfl (Nat.le_of_ble_eq_true rfl) (fun Bw w0 => ?_) rfl
  unfold place_Map_start at h
  refine W_seq ?_
  refine W_reg tbok ⟨[], []⟩ [] [] [(0, .fad true [.p β0 (.slice (.prod (.int .i64) (.prod (.int .i64) (.prod (.int .i64) (.int .u8))))) m1, .p β1 (.slice (.int .u8)) m2, .p β2 (.slice (.prod (.int .i64) (.prod (.int .i64) (.prod (.int .i64) (.int .u8))))) m3, .p β3 (.slice (.slice (.int .i64))) m4] 0), (1, .p false (.int .i64) k1)] [] 0 0 [True] (by kernel_rfl) (by kernel_rfl) ⟨trivial, trivial⟩ ?_
  refine to_then ?_
  refine W_seq ?_
  refine W_seq ?_
  refine W_reg tbok ⟨[], []⟩ [] [] [(0, .fad true [.p β0 (.slice (.prod (.int .i64) (.prod (.int .i64) (.prod (.int .i64) (.int .u8))))) m1, .p β1 (.slice (.int .u8)) m2, .p β2 (.slice (.prod (.int .i64) (.prod (.int .i64) (.prod (.int .i64) (.int .u8))))) m3, .p β3 (.slice (.slice (.int .i64))) m4] 0), (1, .p false (.int .i64) k1), (12, .p false .bool (decide (k1 < (m1.length : Int))))] [] 0 0 [True, True, True, True, True, True, True, True] (by kernel_rfl) (by kernel_rfl) ⟨trivial, trivial, trivial, trivial, trivial, trivial, trivial, trivial, trivial⟩ ?_
  refine to_then ?_
  refine W_cond (b := (decide (k1 < (m1.length : Int)))) (β := false) (by kernel_rfl) (fun hb1 => ?_) (fun hb1 => ?_)
  · replace h := h_if hb1 h
    refine W_seq ?_
    obtain ⟨c2, h⟩ := h_guard h
    refine W_reg tbok ⟨[], []⟩ [] [] [(4, .p false (.int .i64) ((m1.getD k1.toNat ((0 : Int), ((0 : Int), ((0 : Int), (0 : Int))))).1))] [] 0 0 [True, True, True, True, True, True, 0 ≤ k1 ∧ k1 < (m1.length : Int), True, True, True] (by kernel_rfl) (by kernel_rfl) ⟨trivial, trivial, trivial, trivial, trivial, trivial, c2, trivial, trivial, trivial, trivial⟩ ?_
    refine to_then ?_
    refine W_ret ?_
    refine thenQ_ret ?_
    obtain rfl := Option.some.inj h
    exact Ret_intro [(.int .i64)] (by kernel_rfl)
  · replace h := h_else hb1 h
    refine W_skip_to ?_
    refine to_then ?_
    refine W_seq ?_
    obtain ⟨r2, q2, h⟩ := h_bind h
    refine W_reg tbok ⟨[], [(1, ⟨.p false (.int .i64) r2, [false], false, [true], [], []⟩)]⟩ [] [] [(4, .p false (.int .i64) r2)] [] 0 0 [True, Pure Try.prog 20 [.fad true [.p β0 (.slice (.prod (.int .i64) (.prod (.int .i64) (.prod (.int .i64) (.int .u8))))) m1, .p β1 (.slice (.int .u8)) m2, .p β2 (.slice (.prod (.int .i64) (.prod (.int .i64) (.prod (.int .i64) (.int .u8))))) m3, .p β3 (.slice (.slice (.int .i64))) m4] 0] (.p false (.int .i64) r2), True] (by kernel_rfl) (by kernel_rfl) ⟨trivial, (place_Map_end_ok β0 β1 β2 β3 m1 m2 m3 m4 _ q2), trivial, trivial⟩ ?_
    refine to_then ?_
    refine W_ret ?_
    obtain rfl := Option.some.inj h
    exact Ret_intro [(.int .i64)] (by kernel_rfl)

/-- a loop of '(*stanza/place.Map).Byte': one round -/
def place_Map_Byte_L1 (d4 : List (List Int)) (i1 : Int) (i2 : Int) : (Int) → Option ((Int) ⊕ (Int)) := fun (v5 : Int) =>
  (((if (decide (v5 > (0 : Int))) = true then (if 0 ≤ (IntKind.i64.wrap (v5 - (1 : Int))) ∧ (IntKind.i64.wrap (v5 - (1 : Int))) < ((d4.getD i1.toNat ([] : List Int)).length : Int) then (if 0 ≤ v5 ∧ v5 < ((d4.getD i1.toNat ([] : List Int)).length : Int) then (if (((d4.getD i1.toNat ([] : List Int)).getD ((IntKind.i64.wrap (v5 - (1 : Int))).toNat) (0 : Int)) == ((d4.getD i1.toNat ([] : List Int)).getD v5.toNat (0 : Int))) = true then (if 0 ≤ v5 ∧ v5 < ((d4.getD i1.toNat ([] : List Int)).length : Int) then some ((((d4.getD i1.toNat ([] : List Int)).getD v5.toNat (0 : Int)) == i2)) else none)
  else some (false)) else none) else none)
  else some (false))).bind fun (v7 : Bool) => (if v7 = true then some (Sum.inl (IntKind.i64.wrap (v5 - (1 : Int))))
  else some (Sum.inr v5)))

/-- '(*stanza/place.Map).Byte' -/
def place_Map_Byte (d1 : List (Int × Int × Int × Int)) (d2 : List Int) (d3 : List (Int × Int × Int × Int)) (d4 : List (List Int)) (i1 : Int) (i2 : Int) : Option (Int × Int) :=
  (((if (decide (i1 < (0 : Int))) = true then some (true)
  else (if (decide (i1 ≥ (d3.length : Int))) = true then some (true)
  else some ((decide (i2 < (0 : Int))))))).bind fun (v1 : Bool) => (if v1 = true then some ((0 : Int), (2 : Int))
  else (if 0 ≤ i1 ∧ i1 < (d3.length : Int) then (if 0 ≤ i1 ∧ i1 < (d4.length : Int) then ((place_ahead_int (d4.getD i1.toNat ([] : List Int)) i1 i2).bind fun (r2 : Int) =>
  ((iter (place_Map_Byte_L1 d4 i1 i2) (IntKind.i64.wrap (r2 - (1 : Int)))).bind fun (v6 : Int) => ((place_Map_start d1 d2 d3 d4 (IntKind.i64.wrap (((d3.getD i1.toNat ((0 : Int), ((0 : Int), ((0 : Int), (0 : Int))))).1) + v6))).bind fun (r4 : Int) =>
  some (r4, (0 : Int))))) else none) else none)))

set_option maxRecDepth 100000 in
set_option maxHeartbeats 4000000 in
theorem place_Map_Byte_ok (β0 β1 β2 β3 : Bool) (d1 : List (Int × Int × Int × Int)) (d2 : List Int) (d3 : List (Int × Int × Int × Int)) (d4 : List (List Int)) (i1 : Int) (i2 : Int) (res : Int × Int) (h : place_Map_Byte d1 d2 d3 d4 i1 i2 = some res) :
    Pure Try.prog 12 [.fad true [.p β0 (.slice (.prod (.int .i64) (.prod (.int .i64) (.prod (.int .i64) (.int .u8))))) d1, .p β1 (.slice (.int .u8)) d2, .p β2 (.slice (.prod (.int .i64) (.prod (.int .i64) (.prod (.int .i64) (.int .u8))))) d3, .p β3 (.slice (.slice (.int .i64))) d4] 0, .agg [.p false (.int .i64) i1, .p false (.int .i64) i2]] (wrapR (encs false [⟨(.int .i64), res.1⟩, ⟨(.int .i64), res.2⟩])) := by
  refine Pure.of_body tbok Try.func12 (by kernel_rfl) rfl (Nat.le_of_ble_eq_true rfl) (fun Bw w0 => ?_) rfl
  unfold place_Map_Byte at h
  refine W_seq ?_
  refine W_reg tbok ⟨[], []⟩ [] [0] [(0, .fad true [.p β0 (.slice (.prod (.int .i64) (.prod (.int .i64) (.prod (.int .i64) (.int .u8))))) d1, .p β1 (.slice (.int .u8)) d2, .p β2 (.slice (.prod (.int .i64) (.prod (.int .i64) (.prod (.int .i64) (.int .u8))))) d3, .p β3 (.slice (.slice (.int .i64))) d4] 0), (3, .adr 0 0 2 0)] [(0, .box [.p false (.int .i64) i1, .p false (.int .i64) i2])] 1 0 [True, True, True] (by kernel_rfl) (by kernel_rfl) ⟨trivial, trivial, trivial, trivial⟩ ?_
  refine to_then ?_
  refine W_seq ?_
  refine W_seq ?_
  refine W_reg tbok ⟨[], []⟩ [] [0] [(0, .fad true [.p β0 (.slice (.prod (.int .i64) (.prod (.int .i64) (.prod (.int .i64) (.int .u8))))) d1, .p β1 (.slice (.int .u8)) d2, .p β2 (.slice (.prod (.int .i64) (.prod (.int .i64) (.prod (.int .i64) (.int .u8))))) d3, .p β3 (.slice (.slice (.int .i64))) d4] 0), (3, .adr 0 0 2 0), (10, .p false .bool false)] [(0, .box [.p false (.int .i64) i1, .p false (.int .i64) i2])] 1 0 [True, ∃ e, Try.prog.underlying 25 = some (.pointer e)] (by kernel_rfl) (by kernel_rfl) ⟨trivial, ⟨_, rfl⟩, trivial⟩ ?_
  refine to_then ?_
  refine W_cond (b := false) (β := false) (by kernel_rfl) (fun hb29 => ?_) (fun hb29 => ?_)
  · exact absurd (hb29.symm.trans rfl) (by decide)
  · refine W_skip_to ?_
    refine to_then ?_
    refine W_seq ?_
    refine W_seq ?_
    obtain ⟨v1, hp1, h⟩ := h_bind h
    refine W.mono (Q := (postN Try.f12.ntmps (fun (v1 : Bool) => mkSt [(0, .fad true [.p β0 (.slice (.prod (.int .i64) (.prod (.int .i64) (.prod (.int .i64) (.int .u8))))) d1, .p β1 (.slice (.int .u8)) d2, .p β2 (.slice (.prod (.int .i64) (.prod (.int .i64) (.prod (.int .i64) (.int .u8))))) d3, .p β3 (.slice (.slice (.int .i64))) d4] 0), (3, .adr 0 0 2 0), (28, .p false .bool v1)] [(0, .box [.p false (.int .i64) i1, .p false (.int .i64) i2])] 1)) v1) ?_ (fun e σ' hq => ?_)
    · replace h := hp1
      clear hp1
      rcases Bool.eq_false_or_eq_true (decide (i1 < (0 : Int))) with hb5 | hb5
      · replace h := h_if hb5 h
        refine W_regD tbok mixed ⟨[(3, true), (12, true), (13, true), (17, true)], []⟩ [] [0] [(0, .fad true [.p β0 (.slice (.prod (.int .i64) (.prod (.int .i64) (.prod (.int .i64) (.int .u8))))) d1, .p β1 (.slice (.int .u8)) d2, .p β2 (.slice (.prod (.int .i64) (.prod (.int .i64) (.prod (.int .i64) (.int .u8))))) d3, .p β3 (.slice (.slice (.int .i64))) d4] 0), (3, .adr 0 0 2 0), (28, .p false .bool true)] [(0, .box [.p false (.int .i64) i1, .p false (.int .i64) i2])] 1 0 [True, True, True, True, (decide (i1 < (0 : Int))) = true, (decide (i1 < (0 : Int))) = true, (decide (i1 < (0 : Int))) = true, (decide (i1 < (0 : Int))) = true, (decide (i1 < (0 : Int))) = true, (decide (i1 < (0 : Int))) = true, (decide (i1 < (0 : Int))) = true, (decide (i1 < (0 : Int))) = true, (decide (i1 < (0 : Int))) = true, True, true = true, true = true, true = true, true = true] (by kernel_rfl) (by kernel_rfl) ⟨trivial, trivial, trivial, trivial, hb5, hb5, hb5, hb5, hb5, hb5, hb5, hb5, hb5, trivial, rfl, rfl, rfl, rfl, trivial⟩ ?_
        obtain rfl := Option.some.inj h
        exact postN_to (goal_le (gs := []) (f := [0]) (by kernel_rfl) (by kernel_rfl))
      · replace h := h_else hb5 h
        rcases Bool.eq_false_or_eq_true (decide (i1 ≥ (d3.length : Int))) with hb6 | hb6
        · replace h := h_if hb6 h
          refine W_regD tbok mixed ⟨[(3, false), (12, false), (13, true), (17, true)], []⟩ [] [0] [(0, .fad true [.p β0 (.slice (.prod (.int .i64) (.prod (.int .i64) (.prod (.int .i64) (.int .u8))))) d1, .p β1 (.slice (.int .u8)) d2, .p β2 (.slice (.prod (.int .i64) (.prod (.int .i64) (.prod (.int .i64) (.int .u8))))) d3, .p β3 (.slice (.slice (.int .i64))) d4] 0), (3, .adr 0 0 2 0), (28, .p false .bool true)] [(0, .box [.p false (.int .i64) i1, .p false (.int .i64) i2])] 1 0 [True, True, True, True, (decide (i1 < (0 : Int))) = false ∧ True, (decide (i1 < (0 : Int))) = false ∧ True, (decide (i1 < (0 : Int))) = false ∧ True, (decide (i1 < (0 : Int))) = false ∧ True, (decide (i1 < (0 : Int))) = false ∧ True, (decide (i1 < (0 : Int))) = false ∧ True, (decide (i1 < (0 : Int))) = false ∧ True, (decide (i1 < (0 : Int))) = false ∧ True, (decide (i1 < (0 : Int))) = false, True, (decide (i1 ≥ (d3.length : Int))) = true, (decide (i1 ≥ (d3.length : Int))) = true, (decide (i1 ≥ (d3.length : Int))) = true, (decide (i1 ≥ (d3.length : Int))) = true] (by kernel_rfl) (by kernel_rfl) ⟨trivial, trivial, trivial, trivial, ⟨hb5, trivial⟩, ⟨hb5, trivial⟩, ⟨hb5, trivial⟩, ⟨hb5, trivial⟩, ⟨hb5, trivial⟩, ⟨hb5, trivial⟩, ⟨hb5, trivial⟩, ⟨hb5, trivial⟩, hb5, trivial, hb6, hb6, hb6, hb6, trivial⟩ ?_
          obtain rfl := Option.some.inj h
          exact postN_to (goal_le (gs := []) (f := [0]) (by kernel_rfl) (by kernel_rfl))
        · replace h := h_else hb6 h
          refine W_regD tbok mixed ⟨[(3, false), (12, false), (13, false), (17, false)], []⟩ [] [0] [(0, .fad true [.p β0 (.slice (.prod (.int .i64) (.prod (.int .i64) (.prod (.int .i64) (.int .u8))))) d1, .p β1 (.slice (.int .u8)) d2, .p β2 (.slice (.prod (.int .i64) (.prod (.int .i64) (.prod (.int .i64) (.int .u8))))) d3, .p β3 (.slice (.slice (.int .i64))) d4] 0), (3, .adr 0 0 2 0), (28, .p false .bool (decide (i2 < (0 : Int))))] [(0, .box [.p false (.int .i64) i1, .p false (.int .i64) i2])] 1 0 [True, True, True, True, (decide (i1 < (0 : Int))) = false ∧ True, (decide (i1 < (0 : Int))) = false ∧ True, (decide (i1 < (0 : Int))) = false ∧ True, (decide (i1 < (0 : Int))) = false ∧ True, (decide (i1 < (0 : Int))) = false ∧ True, (decide (i1 < (0 : Int))) = false ∧ True, (decide (i1 < (0 : Int))) = false ∧ True, (decide (i1 < (0 : Int))) = false ∧ True, (decide (i1 < (0 : Int))) = false, True, (decide (i1 ≥ (d3.length : Int))) = false ∧ True, (decide (i1 ≥ (d3.length : Int))) = false ∧ True, (decide (i1 ≥ (d3.length : Int))) = false ∧ True, (decide (i1 ≥ (d3.length : Int))) = false] (by kernel_rfl) (by kernel_rfl) ⟨trivial, trivial, trivial, trivial, ⟨hb5, trivial⟩, ⟨hb5, trivial⟩, ⟨hb5, trivial⟩, ⟨hb5, trivial⟩, ⟨hb5, trivial⟩, ⟨hb5, trivial⟩, ⟨hb5, trivial⟩, ⟨hb5, trivial⟩, hb5, trivial, ⟨hb6, trivial⟩, ⟨hb6, trivial⟩, ⟨hb6, trivial⟩, hb6, trivial⟩ ?_
          obtain rfl := Option.some.inj h
          exact postN_to (goal_le (gs := []) (f := [0]) (by kernel_rfl) (by kernel_rfl))
    · clear hp1
      obtain ⟨rfl, hle⟩ := hq
      refine use_to ?_ hle
      refine to_then ?_
      refine W_cond (b := v1) (β := false) (by kernel_rfl) (fun hb7 => ?_) (fun hb7 => ?_)
      · replace h := h_if hb7 h
        refine W_seq ?_
        refine W_reg tbok ⟨[], []⟩ [] [] [(4, .p false (.int .i64) (0 : Int)), (5, .p false (.int .i64) (2 : Int))] [] 0 0 [True, True] (by kernel_rfl) (by kernel_rfl) ⟨trivial, trivial, trivial⟩ ?_
        refine to_then ?_
        refine W_ret ?_
        refine thenQ_ret ?_
        obtain rfl := Option.some.inj h
        exact Ret_intro [(.int .i64), (.int .i64)] (by kernel_rfl)
      · replace h := h_else hb7 h
        refine W_skip_to ?_
        refine to_then ?_
        refine W_seq ?_
        obtain ⟨c3, h⟩ := h_guard h
        obtain ⟨c4, h⟩ := h_guard h
        refine W_regD tbok mixed ⟨[], []⟩ [] [0, 129] [(0, .fad true [.p β0 (.slice (.prod (.int .i64) (.prod (.int .i64) (.prod (.int .i64) (.int .u8))))) d1, .p β1 (.slice (.int .u8)) d2, .p β2 (.slice (.prod (.int .i64) (.prod (.int .i64) (.prod (.int .i64) (.int .u8))))) d3, .p β3 (.slice (.slice (.int .i64))) d4] 0), (3, .adr 0 0 2 0), (6, .adr 1 0 4 0), (7, .p β3 (.slice (.int .i64)) (d4.getD i1.toNat ([] : List Int)))] [(0, .box [.p false (.int .i64) i1, .p false (.int .i64) i2]), (1, .box [.p false (.int .i64) ((d3.getD i1.toNat ((0 : Int), ((0 : Int), ((0 : Int), (0 : Int))))).1), .p false (.int .i64) ((d3.getD i1.toNat ((0 : Int), ((0 : Int), ((0 : Int), (0 : Int))))).2.1), .p false (.int .i64) ((d3.getD i1.toNat ((0 : Int), ((0 : Int), ((0 : Int), (0 : Int))))).2.2.1), .p false (.int .u8) ((d3.getD i1.toNat ((0 : Int), ((0 : Int), ((0 : Int), (0 : Int))))).2.2.2)])] 2 0 [True, True, True, True, True, True, 0 ≤ i1 ∧ i1 < (d3.length : Int), True, True, True, True, True, True, True, 0 ≤ i1 ∧ i1 < (d4.length : Int), True, True, True, True] (by kernel_rfl) (by kernel_rfl) ⟨trivial, trivial, trivial, trivial, trivial, trivial, c3, trivial, trivial, trivial, trivial, trivial, trivial, trivial, c4, trivial, trivial, trivial, trivial, trivial⟩ ?_
        refine to_then ?_
        refine W_seq ?_
        obtain ⟨r2, q2, h⟩ := h_bind h
        refine W_reg tbok ⟨[], [(2, ⟨.p false (.int .i64) r2, [false, false], false, [true, true], [], []⟩)]⟩ [] [0, 1] [(0, .fad true [.p β0 (.slice (.prod (.int .i64) (.prod (.int .i64) (.prod (.int .i64) (.int .u8))))) d1, .p β1 (.slice (.int .u8)) d2, .p β2 (.slice (.prod (.int .i64) (.prod (.int .i64) (.prod (.int .i64) (.int .u8))))) d3, .p β3 (.slice (.slice (.int .i64))) d4] 0), (3, .adr 0 0 2 0), (6, .adr 1 0 4 0), (7, .p β3 (.slice (.int .i64)) (d4.getD i1.toNat ([] : List Int))), (8, .p false (.int .i64) (IntKind.i64.wrap (r2 - (1 : Int))))] [(0, .box [.p false (.int .i64) i1, .p false (.int .i64) i2]), (1, .box [.p false (.int .i64) ((d3.getD i1.toNat ((0 : Int), ((0 : Int), ((0 : Int), (0 : Int))))).1), .p false (.int .i64) ((d3.getD i1.toNat ((0 : Int), ((0 : Int), ((0 : Int), (0 : Int))))).2.1), .p false (.int .i64) ((d3.getD i1.toNat ((0 : Int), ((0 : Int), ((0 : Int), (0 : Int))))).2.2.1), .p false (.int .u8) ((d3.getD i1.toNat ((0 : Int), ((0 : Int), ((0 : Int), (0 : Int))))).2.2.2)])] 2 0 [True, True, Pure Try.prog 25 [.p β3 (.slice (.int .i64)) (d4.getD i1.toNat ([] : List Int)), .fn 26 [.fad true [.p false (.int .i64) i1, .p false (.int .i64) i2] 0]] (.p false (.int .i64) r2), True, True] (by kernel_rfl) (by kernel_rfl) ⟨trivial, trivial, (place_ahead_int_ok β3 (d4.getD i1.toNat ([] : List Int)) i1 i2 _ q2), trivial, trivial, trivial⟩ ?_
        refine to_then ?_
        refine W_seq ?_
        refine W_block ?_
        obtain ⟨v6, hp5, h⟩ := h_bind h
        refine W.mono (Q := (postX Try.f12.ntmps 0 (fun (v6 : Int) => mkSt [(0, .fad true [.p β0 (.slice (.prod (.int .i64) (.prod (.int .i64) (.prod (.int .i64) (.int .u8))))) d1, .p β1 (.slice (.int .u8)) d2, .p β2 (.slice (.prod (.int .i64) (.prod (.int .i64) (.prod (.int .i64) (.int .u8))))) d3, .p β3 (.slice (.slice (.int .i64))) d4] 0), (6, .adr 0 0 4 0), (8, .p false (.int .i64) v6)] [(0, .box [.p false (.int .i64) ((d3.getD i1.toNat ((0 : Int), ((0 : Int), ((0 : Int), (0 : Int))))).1), .p false (.int .i64) ((d3.getD i1.toNat ((0 : Int), ((0 : Int), ((0 : Int), (0 : Int))))).2.1), .p false (.int .i64) ((d3.getD i1.toNat ((0 : Int), ((0 : Int), ((0 : Int), (0 : Int))))).2.2.1), .p false (.int .u8) ((d3.getD i1.toNat ((0 : Int), ((0 : Int), ((0 : Int), (0 : Int))))).2.2.2)])] 1)) v6) (W_iter (f := fun (v5 : Int) => mkSt [(0, .fad true [.p β0 (.slice (.prod (.int .i64) (.prod (.int .i64) (.prod (.int .i64) (.int .u8))))) d1, .p β1 (.slice (.int .u8)) d2, .p β2 (.slice (.prod (.int .i64) (.prod (.int .i64) (.prod (.int .i64) (.int .u8))))) d3, .p β3 (.slice (.slice (.int .i64))) d4] 0), (3, .adr 0 0 2 0), (6, .adr 1 0 4 0), (7, .p β3 (.slice (.int .i64)) (d4.getD i1.toNat ([] : List Int))), (8, .p false (.int .i64) v5)] [(0, .box [.p false (.int .i64) i1, .p false (.int .i64) i2]), (1, .box [.p false (.int .i64) ((d3.getD i1.toNat ((0 : Int), ((0 : Int), ((0 : Int), (0 : Int))))).1), .p false (.int .i64) ((d3.getD i1.toNat ((0 : Int), ((0 : Int), ((0 : Int), (0 : Int))))).2.1), .p false (.int .i64) ((d3.getD i1.toNat ((0 : Int), ((0 : Int), ((0 : Int), (0 : Int))))).2.2.1), .p false (.int .u8) ((d3.getD i1.toNat ((0 : Int), ((0 : Int), ((0 : Int), (0 : Int))))).2.2.2)])] 2) (Q := (postX Try.f12.ntmps 0 (fun (v6 : Int) => mkSt [(0, .fad true [.p β0 (.slice (.prod (.int .i64) (.prod (.int .i64) (.prod (.int .i64) (.int .u8))))) d1, .p β1 (.slice (.int .u8)) d2, .p β2 (.slice (.prod (.int .i64) (.prod (.int .i64) (.prod (.int .i64) (.int .u8))))) d3, .p β3 (.slice (.slice (.int .i64))) d4] 0), (6, .adr 0 0 4 0), (8, .p false (.int .i64) v6)] [(0, .box [.p false (.int .i64) ((d3.getD i1.toNat ((0 : Int), ((0 : Int), ((0 : Int), (0 : Int))))).1), .p false (.int .i64) ((d3.getD i1.toNat ((0 : Int), ((0 : Int), ((0 : Int), (0 : Int))))).2.1), .p false (.int .i64) ((d3.getD i1.toNat ((0 : Int), ((0 : Int), ((0 : Int), (0 : Int))))).2.2.1), .p false (.int .u8) ((d3.getD i1.toNat ((0 : Int), ((0 : Int), ((0 : Int), (0 : Int))))).2.2.2)])] 1))) hp5 (goal_le (gs := []) (f := [0, 1]) (by kernel_rfl) (by kernel_rfl)) (fun v5 o ho => ?_)) (fun e σ' hq => ?_)
        · replace h := ho
          clear ho hp5
          unfold place_Map_Byte_L1 at h
          refine W_seq ?_
          refine W_seq ?_
          obtain ⟨v7, hp4, h⟩ := h_bind h
          refine W.mono (Q := (postN Try.f12.ntmps (fun (v7 : Bool) => mkSt [(0, .fad true [.p β0 (.slice (.prod (.int .i64) (.prod (.int .i64) (.prod (.int .i64) (.int .u8))))) d1, .p β1 (.slice (.int .u8)) d2, .p β2 (.slice (.prod (.int .i64) (.prod (.int .i64) (.prod (.int .i64) (.int .u8))))) d3, .p β3 (.slice (.slice (.int .i64))) d4] 0), (3, .adr 0 0 2 0), (6, .adr 1 0 4 0), (7, .p β3 (.slice (.int .i64)) (d4.getD i1.toNat ([] : List Int))), (8, .p false (.int .i64) v5), (71, .p false .bool v7)] [(0, .box [.p false (.int .i64) i1, .p false (.int .i64) i2]), (1, .box [.p false (.int .i64) ((d3.getD i1.toNat ((0 : Int), ((0 : Int), ((0 : Int), (0 : Int))))).1), .p false (.int .i64) ((d3.getD i1.toNat ((0 : Int), ((0 : Int), ((0 : Int), (0 : Int))))).2.1), .p false (.int .i64) ((d3.getD i1.toNat ((0 : Int), ((0 : Int), ((0 : Int), (0 : Int))))).2.2.1), .p false (.int .u8) ((d3.getD i1.toNat ((0 : Int), ((0 : Int), ((0 : Int), (0 : Int))))).2.2.2)])] 2)) v7) ?_ (fun e σ' hq => ?_)
          · replace h := hp4
            clear hp4
            rcases Bool.eq_false_or_eq_true (decide (v5 > (0 : Int))) with hb26 | hb26
            · replace h := h_if hb26 h
              obtain ⟨c29, h⟩ := h_guard h
              obtain ⟨c30, h⟩ := h_guard h
              rcases Bool.eq_false_or_eq_true (((d4.getD i1.toNat ([] : List Int)).getD ((IntKind.i64.wrap (v5 - (1 : Int))).toNat) (0 : Int)) == ((d4.getD i1.toNat ([] : List Int)).getD v5.toNat (0 : Int))) with hb27 | hb27
              · replace h := h_if hb27 h
                obtain ⟨c31, h⟩ := h_guard h
                refine W_regD tbok mixed ⟨[(2, true), (13, true), (14, true), (22, true)], []⟩ [] [0, 1] [(0, .fad true [.p β0 (.slice (.prod (.int .i64) (.prod (.int .i64) (.prod (.int .i64) (.int .u8))))) d1, .p β1 (.slice (.int .u8)) d2, .p β2 (.slice (.prod (.int .i64) (.prod (.int .i64) (.prod (.int .i64) (.int .u8))))) d3, .p β3 (.slice (.slice (.int .i64))) d4] 0), (3, .adr 0 0 2 0), (6, .adr 1 0 4 0), (7, .p β3 (.slice (.int .i64)) (d4.getD i1.toNat ([] : List Int))), (8, .p false (.int .i64) v5), (71, .p false .bool (((d4.getD i1.toNat ([] : List Int)).getD v5.toNat (0 : Int)) == i2))] [(0, .box [.p false (.int .i64) i1, .p false (.int .i64) i2]), (1, .box [.p false (.int .i64) ((d3.getD i1.toNat ((0 : Int), ((0 : Int), ((0 : Int), (0 : Int))))).1), .p false (.int .i64) ((d3.getD i1.toNat ((0 : Int), ((0 : Int), ((0 : Int), (0 : Int))))).2.1), .p false (.int .i64) ((d3.getD i1.toNat ((0 : Int), ((0 : Int), ((0 : Int), (0 : Int))))).2.2.1), .p false (.int .u8) ((d3.getD i1.toNat ((0 : Int), ((0 : Int), ((0 : Int), (0 : Int))))).2.2.2)])] 2 0 [True, True, True, (decide (v5 > (0 : Int))) = true ∧ True, (decide (v5 > (0 : Int))) = true ∧ True, (decide (v5 > (0 : Int))) = true ∧ True, (decide (v5 > (0 : Int))) = true ∧ 0 ≤ (IntKind.i64.wrap (v5 - (1 : Int))) ∧ (IntKind.i64.wrap (v5 - (1 : Int))) < ((d4.getD i1.toNat ([] : List Int)).length : Int), (decide (v5 > (0 : Int))) = true ∧ True, (decide (v5 > (0 : Int))) = true ∧ True, (decide (v5 > (0 : Int))) = true ∧ True, (decide (v5 > (0 : Int))) = true ∧ 0 ≤ v5 ∧ v5 < ((d4.getD i1.toNat ([] : List Int)).length : Int), (decide (v5 > (0 : Int))) = true ∧ True, (decide (v5 > (0 : Int))) = true ∧ True, (decide (v5 > (0 : Int))) = true, True, (((d4.getD i1.toNat ([] : List Int)).getD ((IntKind.i64.wrap (v5 - (1 : Int))).toNat) (0 : Int)) == ((d4.getD i1.toNat ([] : List Int)).getD v5.toNat (0 : Int))) = true ∧ True, (((d4.getD i1.toNat ([] : List Int)).getD ((IntKind.i64.wrap (v5 - (1 : Int))).toNat) (0 : Int)) == ((d4.getD i1.toNat ([] : List Int)).getD v5.toNat (0 : Int))) = true ∧ True, (((d4.getD i1.toNat ([] : List Int)).getD ((IntKind.i64.wrap (v5 - (1 : Int))).toNat) (0 : Int)) == ((d4.getD i1.toNat ([] : List Int)).getD v5.toNat (0 : Int))) = true ∧ 0 ≤ v5 ∧ v5 < ((d4.getD i1.toNat ([] : List Int)).length : Int), (((d4.getD i1.toNat ([] : List Int)).getD ((IntKind.i64.wrap (v5 - (1 : Int))).toNat) (0 : Int)) == ((d4.getD i1.toNat ([] : List Int)).getD v5.toNat (0 : Int))) = true ∧ True, (((d4.getD i1.toNat ([] : List Int)).getD ((IntKind.i64.wrap (v5 - (1 : Int))).toNat) (0 : Int)) == ((d4.getD i1.toNat ([] : List Int)).getD v5.toNat (0 : Int))) = true ∧ True, (((d4.getD i1.toNat ([] : List Int)).getD ((IntKind.i64.wrap (v5 - (1 : Int))).toNat) (0 : Int)) == ((d4.getD i1.toNat ([] : List Int)).getD v5.toNat (0 : Int))) = true ∧ True, (((d4.getD i1.toNat ([] : List Int)).getD ((IntKind.i64.wrap (v5 - (1 : Int))).toNat) (0 : Int)) == ((d4.getD i1.toNat ([] : List Int)).getD v5.toNat (0 : Int))) = true ∧ True, (((d4.getD i1.toNat ([] : List Int)).getD ((IntKind.i64.wrap (v5 - (1 : Int))).toNat) (0 : Int)) == ((d4.getD i1.toNat ([] : List Int)).getD v5.toNat (0 : Int))) = true] (by kernel_rfl) (by kernel_rfl) ⟨trivial, trivial, trivial, ⟨hb26, trivial⟩, ⟨hb26, trivial⟩, ⟨hb26, trivial⟩, ⟨hb26, c29⟩, ⟨hb26, trivial⟩, ⟨hb26, trivial⟩, ⟨hb26, trivial⟩, ⟨hb26, c30⟩, ⟨hb26, trivial⟩, ⟨hb26, trivial⟩, hb26, trivial, ⟨hb27, trivial⟩, ⟨hb27, trivial⟩, ⟨hb27, c31⟩, ⟨hb27, trivial⟩, ⟨hb27, trivial⟩, ⟨hb27, trivial⟩, ⟨hb27, trivial⟩, hb27, trivial⟩ ?_
                obtain rfl := Option.some.inj h
                exact postN_to (goal_le (gs := []) (f := [0, 1]) (by kernel_rfl) (by kernel_rfl))
              · replace h := h_else hb27 h
                refine W_regD tbok mixed ⟨[(2, true), (13, true), (14, false), (22, false)], []⟩ [] [0, 1] [(0, .fad true [.p β0 (.slice (.prod (.int .i64) (.prod (.int .i64) (.prod (.int .i64) (.int .u8))))) d1, .p β1 (.slice (.int .u8)) d2, .p β2 (.slice (.prod (.int .i64) (.prod (.int .i64) (.prod (.int .i64) (.int .u8))))) d3, .p β3 (.slice (.slice (.int .i64))) d4] 0), (3, .adr 0 0 2 0), (6, .adr 1 0 4 0), (7, .p β3 (.slice (.int .i64)) (d4.getD i1.toNat ([] : List Int))), (8, .p false (.int .i64) v5), (71, .p false .bool false)] [(0, .box [.p false (.int .i64) i1, .p false (.int .i64) i2]), (1, .box [.p false (.int .i64) ((d3.getD i1.toNat ((0 : Int), ((0 : Int), ((0 : Int), (0 : Int))))).1), .p false (.int .i64) ((d3.getD i1.toNat ((0 : Int), ((0 : Int), ((0 : Int), (0 : Int))))).2.1), .p false (.int .i64) ((d3.getD i1.toNat ((0 : Int), ((0 : Int), ((0 : Int), (0 : Int))))).2.2.1), .p false (.int .u8) ((d3.getD i1.toNat ((0 : Int), ((0 : Int), ((0 : Int), (0 : Int))))).2.2.2)])] 2 0 [True, True, True, (decide (v5 > (0 : Int))) = true ∧ True, (decide (v5 > (0 : Int))) = true ∧ True, (decide (v5 > (0 : Int))) = true ∧ True, (decide (v5 > (0 : Int))) = true ∧ 0 ≤ (IntKind.i64.wrap (v5 - (1 : Int))) ∧ (IntKind.i64.wrap (v5 - (1 : Int))) < ((d4.getD i1.toNat ([] : List Int)).length : Int), (decide (v5 > (0 : Int))) = true ∧ True, (decide (v5 > (0 : Int))) = true ∧ True, (decide (v5 > (0 : Int))) = true ∧ True, (decide (v5 > (0 : Int))) = true ∧ 0 ≤ v5 ∧ v5 < ((d4.getD i1.toNat ([] : List Int)).length : Int), (decide (v5 > (0 : Int))) = true ∧ True, (decide (v5 > (0 : Int))) = true ∧ True, (decide (v5 > (0 : Int))) = true, True, (((d4.getD i1.toNat ([] : List Int)).getD ((IntKind.i64.wrap (v5 - (1 : Int))).toNat) (0 : Int)) == ((d4.getD i1.toNat ([] : List Int)).getD v5.toNat (0 : Int))) = false, (((d4.getD i1.toNat ([] : List Int)).getD ((IntKind.i64.wrap (v5 - (1 : Int))).toNat) (0 : Int)) == ((d4.getD i1.toNat ([] : List Int)).getD v5.toNat (0 : Int))) = false, (((d4.getD i1.toNat ([] : List Int)).getD ((IntKind.i64.wrap (v5 - (1 : Int))).toNat) (0 : Int)) == ((d4.getD i1.toNat ([] : List Int)).getD v5.toNat (0 : Int))) = false, (((d4.getD i1.toNat ([] : List Int)).getD ((IntKind.i64.wrap (v5 - (1 : Int))).toNat) (0 : Int)) == ((d4.getD i1.toNat ([] : List Int)).getD v5.toNat (0 : Int))) = false, (((d4.getD i1.toNat ([] : List Int)).getD ((IntKind.i64.wrap (v5 - (1 : Int))).toNat) (0 : Int)) == ((d4.getD i1.toNat ([] : List Int)).getD v5.toNat (0 : Int))) = false, (((d4.getD i1.toNat ([] : List Int)).getD ((IntKind.i64.wrap (v5 - (1 : Int))).toNat) (0 : Int)) == ((d4.getD i1.toNat ([] : List Int)).getD v5.toNat (0 : Int))) = false, (((d4.getD i1.toNat ([] : List Int)).getD ((IntKind.i64.wrap (v5 - (1 : Int))).toNat) (0 : Int)) == ((d4.getD i1.toNat ([] : List Int)).getD v5.toNat (0 : Int))) = false, (((d4.getD i1.toNat ([] : List Int)).getD ((IntKind.i64.wrap (v5 - (1 : Int))).toNat) (0 : Int)) == ((d4.getD i1.toNat ([] : List Int)).getD v5.toNat (0 : Int))) = false] (by kernel_rfl) (by kernel_rfl) ⟨trivial, trivial, trivial, ⟨hb26, trivial⟩, ⟨hb26, trivial⟩, ⟨hb26, trivial⟩, ⟨hb26, c29⟩, ⟨hb26, trivial⟩, ⟨hb26, trivial⟩, ⟨hb26, trivial⟩, ⟨hb26, c30⟩, ⟨hb26, trivial⟩, ⟨hb26, trivial⟩, hb26, trivial, hb27, hb27, hb27, hb27, hb27, hb27, hb27, hb27, trivial⟩ ?_
                obtain rfl := Option.some.inj h
                exact postN_to (goal_le (gs := []) (f := [0, 1]) (by kernel_rfl) (by kernel_rfl))
            · replace h := h_else hb26 h
              refine W_regD tbok mixed ⟨[(2, false), (13, false), (14, false), (22, false)], []⟩ [] [0, 1] [(0, .fad true [.p β0 (.slice (.prod (.int .i64) (.prod (.int .i64) (.prod (.int .i64) (.int .u8))))) d1, .p β1 (.slice (.int .u8)) d2, .p β2 (.slice (.prod (.int .i64) (.prod (.int .i64) (.prod (.int .i64) (.int .u8))))) d3, .p β3 (.slice (.slice (.int .i64))) d4] 0), (3, .adr 0 0 2 0), (6, .adr 1 0 4 0), (7, .p β3 (.slice (.int .i64)) (d4.getD i1.toNat ([] : List Int))), (8, .p false (.int .i64) v5), (71, .p false .bool false)] [(0, .box [.p false (.int .i64) i1, .p false (.int .i64) i2]), (1, .box [.p false (.int .i64) ((d3.getD i1.toNat ((0 : Int), ((0 : Int), ((0 : Int), (0 : Int))))).1), .p false (.int .i64) ((d3.getD i1.toNat ((0 : Int), ((0 : Int), ((0 : Int), (0 : Int))))).2.1), .p false (.int .i64) ((d3.getD i1.toNat ((0 : Int), ((0 : Int), ((0 : Int), (0 : Int))))).2.2.1), .p false (.int .u8) ((d3.getD i1.toNat ((0 : Int), ((0 : Int), ((0 : Int), (0 : Int))))).2.2.2)])] 2 0 [True, True, True, (decide (v5 > (0 : Int))) = false, (decide (v5 > (0 : Int))) = false, (decide (v5 > (0 : Int))) = false, (decide (v5 > (0 : Int))) = false, (decide (v5 > (0 : Int))) = false, (decide (v5 > (0 : Int))) = false, (decide (v5 > (0 : Int))) = false, (decide (v5 > (0 : Int))) = false, (decide (v5 > (0 : Int))) = false, (decide (v5 > (0 : Int))) = false, (decide (v5 > (0 : Int))) = false, True, false = false, false = false, false = false, false = false, false = false, false = false, false = false, false = false] (by kernel_rfl) (by kernel_rfl) ⟨trivial, trivial, trivial, hb26, hb26, hb26, hb26, hb26, hb26, hb26, hb26, hb26, hb26, hb26, trivial, rfl, rfl, rfl, rfl, rfl, rfl, rfl, rfl, trivial⟩ ?_
              obtain rfl := Option.some.inj h
              exact postN_to (goal_le (gs := []) (f := [0, 1]) (by kernel_rfl) (by kernel_rfl))
          · clear hp4
            obtain ⟨rfl, hle⟩ := hq
            refine use_to ?_ hle
            refine to_then ?_
            refine W_cond (b := v7) (β := false) (by kernel_rfl) (fun hb28 => ?_) (fun hb28 => ?_)
            · replace h := h_if hb28 h
              refine W_skip_to ?_
              refine to_then ?_
              refine W_block ?_
              refine W_reg tbok ⟨[], []⟩ [] [0, 1] [(0, .fad true [.p β0 (.slice (.prod (.int .i64) (.prod (.int .i64) (.prod (.int .i64) (.int .u8))))) d1, .p β1 (.slice (.int .u8)) d2, .p β2 (.slice (.prod (.int .i64) (.prod (.int .i64) (.prod (.int .i64) (.int .u8))))) d3, .p β3 (.slice (.slice (.int .i64))) d4] 0), (3, .adr 0 0 2 0), (6, .adr 1 0 4 0), (7, .p β3 (.slice (.int .i64)) (d4.getD i1.toNat ([] : List Int))), (8, .p false (.int .i64) (IntKind.i64.wrap (v5 - (1 : Int))))] [(0, .box [.p false (.int .i64) i1, .p false (.int .i64) i2]), (1, .box [.p false (.int .i64) ((d3.getD i1.toNat ((0 : Int), ((0 : Int), ((0 : Int), (0 : Int))))).1), .p false (.int .i64) ((d3.getD i1.toNat ((0 : Int), ((0 : Int), ((0 : Int), (0 : Int))))).2.1), .p false (.int .i64) ((d3.getD i1.toNat ((0 : Int), ((0 : Int), ((0 : Int), (0 : Int))))).2.2.1), .p false (.int .u8) ((d3.getD i1.toNat ((0 : Int), ((0 : Int), ((0 : Int), (0 : Int))))).2.2.2)])] 2 0 [True, True, True] (by kernel_rfl) (by kernel_rfl) ⟨trivial, trivial, trivial, trivial⟩ ?_
              refine to_block ?_
              obtain rfl := Option.some.inj h
              exact roundB (goal_le (gs := []) (f := [0, 1]) (by kernel_rfl) (by kernel_rfl))
            · replace h := h_else hb28 h
              refine W_exit_to ?_
              refine thenE ?_
              obtain rfl := Option.some.inj h
              refine roundE ?_
              exact postX_to (goal_le (gs := []) (f := [1]) (by kernel_rfl) (by kernel_rfl))
        · clear hp5
          obtain ⟨rfl, hle⟩ := hq
          refine use_to ?_ hle
          refine blockE_eq ?_
          refine to_then ?_
          refine W_seq ?_
          obtain ⟨r4, q4, h⟩ := h_bind h
          refine W_reg tbok ⟨[], [(5, ⟨.p false (.int .i64) r4, [false, false], false, [true, true], [], []⟩)]⟩ [] [] [(4, .p false (.int .i64) r4), (5, .p false (.int .i64) (0 : Int))] [] 0 0 [True, True, True, True, True, Pure Try.prog 27 [.fad true [.p β0 (.slice (.prod (.int .i64) (.prod (.int .i64) (.prod (.int .i64) (.int .u8))))) d1, .p β1 (.slice (.int .u8)) d2, .p β2 (.slice (.prod (.int .i64) (.prod (.int .i64) (.prod (.int .i64) (.int .u8))))) d3, .p β3 (.slice (.slice (.int .i64))) d4] 0, .p false (.int .i64) (IntKind.i64.wrap (((d3.getD i1.toNat ((0 : Int), ((0 : Int), ((0 : Int), (0 : Int))))).1) + v6))] (.p false (.int .i64) r4), True, True] (by kernel_rfl) (by kernel_rfl) ⟨trivial, trivial, trivial, trivial, trivial, (place_Map_start_ok β0 β1 β2 β3 d1 d2 d3 d4 (IntKind.i64.wrap (((d3.getD i1.toNat ((0 : Int), ((0 : Int), ((0 : Int), (0 : Int))))).1) + v6)) _ q4), trivial, trivial, trivial⟩ ?_
          refine to_then ?_
          refine W_ret ?_
          obtain rfl := Option.some.inj h
          exact Ret_intro [(.int .i64), (.int .i64)] (by kernel_rfl)

/-- '(*stanza/place.Map).Rows' -/
def place_Map_Rows (m1 : List (Int × Int × Int × Int)) (m2 : List Int) (m3 : List (Int × Int × Int × Int)) (m4 : List (List Int)) : Option (Int) :=
  some (m3.length : Int)

set_option maxRecDepth 100000 in
set_option maxHeartbeats 4000000 in
theorem place_Map_Rows_ok (β0 β1 β2 β3 : Bool) (m1 : List (Int × Int × Int × Int)) (m2 : List Int) (m3 : List (Int × Int × Int × Int)) (m4 : List (List Int)) (res : Int) (h : place_Map_Rows m1 m2 m3 m4 = some res) :
    Pure Try.prog 13 [.fad true [.p β0 (.slice (.prod (.int .i64) (.prod (.int .i64) (.prod (.int .i64) (.int .u8))))) m1, .p β1 (.slice (.int .u8)) m2, .p β2 (.slice (.prod (.int .i64) (.prod (.int .i64) (.prod (.int .i64) (.int .u8))))) m3, .p β3 (.slice (.slice (.int .i64))) m4] 0] (wrapR (encs false [⟨(.int .i64), res⟩])) := by
  refine Pure.of_body tbok Try.func13 (by kernel_rfl) rfl (Nat.le_of_ble_eq_true rfl) (fun Bw w0 => ?_) rfl
  unfold place_Map_Rows at h
  refine W_seq ?_
  refine W_reg tbok ⟨[], []⟩ [] [] [(0, .fad true [.p β0 (.slice (.prod (.int .i64) (.prod (.int .i64) (.prod (.int .i64) (.int .u8))))) m1, .p β1 (.slice (.int .u8)) m2, .p β2 (.slice (.prod (.int .i64) (.prod (.int .i64) (.prod (.int .i64) (.int .u8))))) m3, .p β3 (.slice (.slice (.int .i64))) m4] 0)] [] 0 0 [True] (by kernel_rfl) (by kernel_rfl) ⟨trivial, trivial⟩ ?_
  refine to_then ?_
  refine W_seq ?_
  refine W_seq ?_
  refine W_reg tbok ⟨[], []⟩ [] [] [(0, .fad true [.p β0 (.slice (.prod (.int .i64) (.prod (.int .i64) (.prod (.int .i64) (.int .u8))))) m1, .p β1 (.slice (.int .u8)) m2, .p β2 (.slice (.prod (.int .i64) (.prod (.int .i64) (.prod (.int .i64) (.int .u8))))) m3, .p β3 (.slice (.slice (.int .i64))) m4] 0), (4, .p false .bool false)] [] 0 0 [True, ∃ e, Try.prog.underlying 25 = some (.pointer e)] (by kernel_rfl) (by kernel_rfl) ⟨trivial, ⟨_, rfl⟩, trivial⟩ ?_
  refine to_then ?_
  refine W_cond (b := false) (β := false) (by kernel_rfl) (fun hb1 => ?_) (fun hb1 => ?_)
  · exact absurd (hb1.symm.trans rfl) (by decide)
  · refine W_skip_to ?_
    refine to_then ?_
    refine W_seq ?_
    refine W_reg tbok ⟨[], []⟩ [] [] [(2, .p false (.int .i64) (m3.length : Int))] [] 0 0 [True, True, True, True, True, True] (by kernel_rfl) (by kernel_rfl) ⟨trivial, trivial, trivial, trivial, trivial, trivial, trivial⟩ ?_
    refine to_then ?_
    refine W_ret ?_
    obtain rfl := Option.some.inj h
    exact Ret_intro [(.int .i64)] (by kernel_rfl)

/-- 'stanza/stanzalaw17.Awake' -/
def stanzalaw17_Awake  : Option (Bool) :=
  ((stanzahand03_Para ([((1 : Int), ((0 : Int), ((0 : Int), (0 : Int)))), ((1 : Int), ((0 : Int), ((0 : Int), (1 : Int)))), ((1 : Int), ((0 : Int), ((0 : Int), (0 : Int))))] : List (Int × Int × Int × Int))).bind fun (r2 : (List (Int × Int × Int × Int)) × List Int) =>
  ((place_Make r2.1 r2.2 ([((0 : Int), ((2 : Int), ((2 : Int), (1 : Int)))), ((2 : Int), ((3 : Int), ((1 : Int), (2 : Int))))] : List (Int × Int × Int × Int)) (8 : Int)).bind fun ((r7, r8, r9, r10) : (List (Int × Int × Int × Int)) × (List Int) × (List (Int × Int × Int × Int)) × List (List Int)) =>
  ((place_Map_Spot r7 r8 r9 r10 (2 : Int) false).bind fun ((r13, r14) : (Int × Int) × Int) =>
  ((place_Map_Spot r7 r8 r9 r10 (2 : Int) true).bind fun ((r17, r18) : (Int × Int) × Int) =>
  ((place_Map_Byte r7 r8 r9 r10 (0 : Int) (9 : Int)).bind fun ((r21, r22) : Int × Int) =>
  (((if (r14 == (0 : Int)) = true then (if (r18 == (0 : Int)) = true then (if (r22 == (0 : Int)) = true then (if ((r13.1 == (1 : Int)) && (r13.2 == (0 : Int))) = true then (if ((r17.1 == (0 : Int)) && (r17.2 == (2 : Int))) = true then (if (r21 == (2 : Int)) = true then ((place_Map_Rows r7 r8 r9 r10).bind fun (r25 : Int) =>
  some ((r25 == (2 : Int))))
  else some (false))
  else some (false))
  else some (false))
  else some (false))
  else some (false))
  else some (false))).bind fun (v1 : Bool) => some v1))))))

set_option maxRecDepth 100000 in
set_option maxHeartbeats 4000000 in
theorem stanzalaw17_Awake_ok  (res : Bool) (h : stanzalaw17_Awake = some res) :
    Pure Try.prog 10 [] (wrapR (encs false [⟨.bool, res⟩])) := by
  refine Pure.of_body tbok Try.func10 (by kernel_rfl) rfl (Nat.le_of_ble_eq_true rfl) (fun Bw w0 => ?_) rfl
  unfold stanzalaw17_Awake at h
  refine W_seq ?_
  refine W_reg tbok ⟨[], []⟩ [] [] [] [] 0 0 [True] (by kernel_rfl) (by kernel_rfl) ⟨trivial, trivial⟩ ?_
  refine to_then ?_
  refine W_seq ?_
  obtain ⟨r2, q2, h⟩ := h_bind h
  refine W_reg tbok ⟨[], [(4, ⟨.agg [.p false (.slice (.prod (.int .i64) (.prod (.int .i64) (.prod (.int .i64) (.int .u8))))) r2.1, .p false (.slice (.int .u8)) r2.2], [false], false, [true], [], []⟩)]⟩ [] [40] [(1, .adr 0 0 2 0)] [(0, .box [.p false (.slice (.prod (.int .i64) (.prod (.int .i64) (.prod (.int .i64) (.int .u8))))) r2.1, .p false (.slice (.int .u8)) r2.2])] 1 0 [True, True, True, True, Pure Try.prog 18 [.p true (.slice (.prod (.int .u8) (.prod (.int .u8) (.prod (.int .u8) (.int .u8))))) ([((1 : Int), ((0 : Int), ((0 : Int), (0 : Int)))), ((1 : Int), ((0 : Int), ((0 : Int), (1 : Int)))), ((1 : Int), ((0 : Int), ((0 : Int), (0 : Int))))] : List (Int × Int × Int × Int))] (.agg [.p false (.slice (.prod (.int .i64) (.prod (.int .i64) (.prod (.int .i64) (.int .u8))))) r2.1, .p false (.slice (.int .u8)) r2.2]), True, True] (by kernel_rfl) (by kernel_rfl) ⟨trivial, trivial, trivial, trivial, (stanzahand03_Para_ok true ([((1 : Int), ((0 : Int), ((0 : Int), (0 : Int)))), ((1 : Int), ((0 : Int), ((0 : Int), (1 : Int)))), ((1 : Int), ((0 : Int), ((0 : Int), (0 : Int))))] : List (Int × Int × Int × Int)) _ q2), trivial, trivial, trivial⟩ ?_
  refine to_then ?_
  refine W_seq ?_
  obtain ⟨⟨r7, r8, r9, r10⟩, q4, h⟩ := h_bind h
  refine W_reg tbok ⟨[], [(4, ⟨.adr 0 0 4 0, [false, true, false], true, [true, true, true], [], [(0, .box [.p false (.slice (.prod (.int .i64) (.prod (.int .i64) (.prod (.int .i64) (.int .u8))))) r7, .p false (.slice (.int .u8)) r8, .p false (.slice (.prod (.int .i64) (.prod (.int .i64) (.prod (.int .i64) (.int .u8))))) r9, .sl 1]), (1, .arr 46 (.slice (.int .i64)) r10)]⟩)]⟩ [] [33, 34] [(2, .adr 0 0 4 0)] [(0, .box [.p false (.slice (.prod (.int .i64) (.prod (.int .i64) (.prod (.int .i64) (.int .u8))))) r7, .p false (.slice (.int .u8)) r8, .p false (.slice (.prod (.int .i64) (.prod (.int .i64) (.prod (.int .i64) (.int .u8))))) r9, .sl 1]), (1, .arr 46 (.slice (.int .i64)) r10)] 2 0 [True, True, True, True, Owns Try.prog 19 [.agg [.p false (.slice (.prod (.int .i64) (.prod (.int .i64) (.prod (.int .i64) (.int .u8))))) r2.1, .p false (.slice (.int .u8)) r2.2], .p false (.slice (.prod (.int .i64) (.prod (.int .i64) (.prod (.int .i64) (.int .u8))))) ([((0 : Int), ((2 : Int), ((2 : Int), (1 : Int)))), ((2 : Int), ((3 : Int), ((1 : Int), (2 : Int))))] : List (Int × Int × Int × Int)), .p false (.int .i64) (8 : Int)] [] (.adr 0 0 4 0) [(0, .box [.p false (.slice (.prod (.int .i64) (.prod (.int .i64) (.prod (.int .i64) (.int .u8))))) r7, .p false (.slice (.int .u8)) r8, .p false (.slice (.prod (.int .i64) (.prod (.int .i64) (.prod (.int .i64) (.int .u8))))) r9, .sl 1]), (1, .arr 46 (.slice (.int .i64)) r10)], True] (by kernel_rfl) (by kernel_rfl) ⟨trivial, trivial, trivial, trivial, (place_Make_ok r2.1 r2.2 ([((0 : Int), ((2 : Int), ((2 : Int), (1 : Int)))), ((2 : Int), ((3 : Int), ((1 : Int), (2 : Int))))] : List (Int × Int × Int × Int)) (8 : Int) _ q4), trivial, trivial⟩ ?_
  refine to_then ?_
  refine W_seq ?_
  obtain ⟨⟨r13, r14⟩, q6, h⟩ := h_bind h
  refine W_reg tbok ⟨[], [(1, ⟨.tup [.agg [.p false (.int .i64) r13.1, .p false (.int .i64) r13.2], .p false (.int .i64) r14], [false, false, false], false, [true, true, true], [], []⟩)]⟩ [] [0, 1, 42] [(2, .adr 0 0 4 0), (3, .adr 2 0 2 0), (4, .p false (.int .i64) r14)] [(0, .box [.p false (.slice (.prod (.int .i64) (.prod (.int .i64) (.prod (.int .i64) (.int .u8))))) r7, .p false (.slice (.int .u8)) r8, .p false (.slice (.prod (.int .i64) (.prod (.int .i64) (.prod (.int .i64) (.int .u8))))) r9, .sl 1]), (1, .arr 46 (.slice (.int .i64)) r10), (2, .box [.p false (.int .i64) r13.1, .p false (.int .i64) r13.2])] 3 0 [True, Pure Try.prog 11 [.fad true [.p false (.slice (.prod (.int .i64) (.prod (.int .i64) (.prod (.int .i64) (.int .u8))))) r7, .p false (.slice (.int .u8)) r8, .p false (.slice (.prod (.int .i64) (.prod (.int .i64) (.prod (.int .i64) (.int .u8))))) r9, .p true (.slice (.slice (.int .i64))) r10] 0, .p false (.int .i64) (2 : Int), .p false .bool false] (.tup [.agg [.p false (.int .i64) r13.1, .p false (.int .i64) r13.2], .p false (.int .i64) r14]), True, True, True, True, True, True] (by kernel_rfl) (by kernel_rfl) ⟨trivial, (place_Map_Spot_ok false false false true r7 r8 r9 r10 (2 : Int) false _ q6), trivial, trivial, trivial, trivial, trivial, trivial, trivial⟩ ?_
  refine to_then ?_
  refine W_seq ?_
  obtain ⟨⟨r17, r18⟩, q8, h⟩ := h_bind h
  refine W_reg tbok ⟨[], [(1, ⟨.tup [.agg [.p false (.int .i64) r17.1, .p false (.int .i64) r17.2], .p false (.int .i64) r18], [false, false, false], false, [true, true, true], [], []⟩)]⟩ [] [0, 1, 2, 43] [(2, .adr 0 0 4 0), (3, .adr 2 0 2 0), (4, .p false (.int .i64) r14), (5, .adr 3 0 2 0), (6, .p false (.int .i64) r18)] [(0, .box [.p false (.slice (.prod (.int .i64) (.prod (.int .i64) (.prod (.int .i64) (.int .u8))))) r7, .p false (.slice (.int .u8)) r8, .p false (.slice (.prod (.int .i64) (.prod (.int .i64) (.prod (.int .i64) (.int .u8))))) r9, .sl 1]), (1, .arr 46 (.slice (.int .i64)) r10), (2, .box [.p false (.int .i64) r13.1, .p false (.int .i64) r13.2]), (3, .box [.p false (.int .i64) r17.1, .p false (.int .i64) r17.2])] 4 0 [True, Pure Try.prog 11 [.fad true [.p false (.slice (.prod (.int .i64) (.prod (.int .i64) (.prod (.int .i64) (.int .u8))))) r7, .p false (.slice (.int .u8)) r8, .p false (.slice (.prod (.int .i64) (.prod (.int .i64) (.prod (.int .i64) (.int .u8))))) r9, .p true (.slice (.slice (.int .i64))) r10] 0, .p false (.int .i64) (2 : Int), .p false .bool true] (.tup [.agg [.p false (.int .i64) r17.1, .p false (.int .i64) r17.2], .p false (.int .i64) r18]), True, True, True, True, True, True] (by kernel_rfl) (by kernel_rfl) ⟨trivial, (place_Map_Spot_ok false false false true r7 r8 r9 r10 (2 : Int) true _ q8), trivial, trivial, trivial, trivial, trivial, trivial, trivial⟩ ?_
  refine to_then ?_
  refine W_seq ?_
  obtain ⟨⟨r21, r22⟩, q10, h⟩ := h_bind h
  refine W_reg tbok ⟨[], [(2, ⟨.tup [.p false (.int .i64) r21, .p false (.int .i64) r22], [false, false], false, [true, true], [], []⟩)]⟩ [] [0, 1, 2, 3] [(2, .adr 0 0 4 0), (3, .adr 2 0 2 0), (4, .p false (.int .i64) r14), (5, .adr 3 0 2 0), (6, .p false (.int .i64) r18), (7, .p false (.int .i64) r21), (8, .p false (.int .i64) r22)] [(0, .box [.p false (.slice (.prod (.int .i64) (.prod (.int .i64) (.prod (.int .i64) (.int .u8))))) r7, .p false (.slice (.int .u8)) r8, .p false (.slice (.prod (.int .i64) (.prod (.int .i64) (.prod (.int .i64) (.int .u8))))) r9, .sl 1]), (1, .arr 46 (.slice (.int .i64)) r10), (2, .box [.p false (.int .i64) r13.1, .p false (.int .i64) r13.2]), (3, .box [.p false (.int .i64) r17.1, .p false (.int .i64) r17.2])] 4 0 [True, True, Pure Try.prog 12 [.fad true [.p false (.slice (.prod (.int .i64) (.prod (.int .i64) (.prod (.int .i64) (.int .u8))))) r7, .p false (.slice (.int .u8)) r8, .p false (.slice (.prod (.int .i64) (.prod (.int .i64) (.prod (.int .i64) (.int .u8))))) r9, .p true (.slice (.slice (.int .i64))) r10] 0, .agg [.p false (.int .i64) (0 : Int), .p false (.int .i64) (9 : Int)]] (.tup [.p false (.int .i64) r21, .p false (.int .i64) r22]), True, True, True, True, True] (by kernel_rfl) (by kernel_rfl) ⟨trivial, trivial, (place_Map_Byte_ok false false false true r7 r8 r9 r10 (0 : Int) (9 : Int) _ q10), trivial, trivial, trivial, trivial, trivial, trivial⟩ ?_
  refine to_then ?_
  refine W_seq ?_
  obtain ⟨v1, hp1, h⟩ := h_bind h
  refine W.mono (Q := (postN Try.f10.ntmps (fun (v1 : Bool) => mkSt [(0, .p false .bool v1)] [] 0)) v1) ?_ (fun e σ' hq => ?_)
  · replace h := hp1
    clear hp1
    rcases Bool.eq_false_or_eq_true (r14 == (0 : Int)) with hb13 | hb13
    · replace h := h_if hb13 h
      rcases Bool.eq_false_or_eq_true (r18 == (0 : Int)) with hb14 | hb14
      · replace h := h_if hb14 h
        rcases Bool.eq_false_or_eq_true (r22 == (0 : Int)) with hb15 | hb15
        · replace h := h_if hb15 h
          rcases Bool.eq_false_or_eq_true ((r13.1 == (1 : Int)) && (r13.2 == (0 : Int))) with hb16 | hb16
          · replace h := h_if hb16 h
            rcases Bool.eq_false_or_eq_true ((r17.1 == (0 : Int)) && (r17.2 == (2 : Int))) with hb17 | hb17
            · replace h := h_if hb17 h
              rcases Bool.eq_false_or_eq_true (r21 == (2 : Int)) with hb18 | hb18
              · replace h := h_if hb18 h
                obtain ⟨r25, q13, h⟩ := h_bind h
                refine W_reg tbok ⟨[(2, true), (5, true), (6, true), (9, true), (10, true), (14, true), (15, true), (19, true), (20, true), (23, true), (24, true), (28, true)], [(26, ⟨.p false (.int .i64) r25, [false], false, [true], [], []⟩)]⟩ [] [] [(0, .p false .bool (r25 == (2 : Int)))] [] 0 0 [True, True, True, (r14 == (0 : Int)) = true ∧ True, (r14 == (0 : Int)) = true ∧ True, (r14 == (0 : Int)) = true, True, (r18 == (0 : Int)) = true ∧ True, (r18 == (0 : Int)) = true ∧ True, (r18 == (0 : Int)) = true, True, (r22 == (0 : Int)) = true ∧ True, (r22 == (0 : Int)) = true ∧ True, (r22 == (0 : Int)) = true ∧ EqOk Try.prog 23 (.prod (.int .i64) (.int .i64)), (r22 == (0 : Int)) = true, True, ((r13.1 == (1 : Int)) && (r13.2 == (0 : Int))) = true ∧ True, ((r13.1 == (1 : Int)) && (r13.2 == (0 : Int))) = true ∧ True, ((r13.1 == (1 : Int)) && (r13.2 == (0 : Int))) = true ∧ EqOk Try.prog 23 (.prod (.int .i64) (.int .i64)), ((r13.1 == (1 : Int)) && (r13.2 == (0 : Int))) = true, True, ((r17.1 == (0 : Int)) && (r17.2 == (2 : Int))) = true ∧ True, ((r17.1 == (0 : Int)) && (r17.2 == (2 : Int))) = true ∧ True, ((r17.1 == (0 : Int)) && (r17.2 == (2 : Int))) = true, True, (r21 == (2 : Int)) = true ∧ True, (r21 == (2 : Int)) = true ∧ Pure Try.prog 13 [.fad true [.p false (.slice (.prod (.int .i64) (.prod (.int .i64) (.prod (.int .i64) (.int .u8))))) r7, .p false (.slice (.int .u8)) r8, .p false (.slice (.prod (.int .i64) (.prod (.int .i64) (.prod (.int .i64) (.int .u8))))) r9, .p true (.slice (.slice (.int .i64))) r10] 0] (.p false (.int .i64) r25), (r21 == (2 : Int)) = true ∧ True, (r21 == (2 : Int)) = true, True] (by kernel_rfl) (by kernel_rfl) ⟨trivial, trivial, trivial, ⟨hb13, trivial⟩, ⟨hb13, trivial⟩, hb13, trivial, ⟨hb14, trivial⟩, ⟨hb14, trivial⟩, hb14, trivial, ⟨hb15, trivial⟩, ⟨hb15, trivial⟩, ⟨hb15, eq23⟩, hb15, trivial, ⟨hb16, trivial⟩, ⟨hb16, trivial⟩, ⟨hb16, eq23⟩, hb16, trivial, ⟨hb17, trivial⟩, ⟨hb17, trivial⟩, hb17, trivial, ⟨hb18, trivial⟩, ⟨hb18, (place_Map_Rows_ok false false false true r7 r8 r9 r10 _ q13)⟩, ⟨hb18, trivial⟩, hb18, trivial, trivial⟩ ?_
                obtain rfl := Option.some.inj h
                exact postN_to (goal_le (gs := []) (f := []) (by kernel_rfl) (by kernel_rfl))
              · replace h := h_else hb18 h
                refine W_reg tbok ⟨[(2, true), (5, true), (6, true), (9, true), (10, true), (14, true), (15, true), (19, true), (20, true), (23, true), (24, false), (28, false)], []⟩ [] [] [(0, .p false .bool false)] [] 0 0 [True, True, True, (r14 == (0 : Int)) = true ∧ True, (r14 == (0 : Int)) = true ∧ True, (r14 == (0 : Int)) = true, True, (r18 == (0 : Int)) = true ∧ True, (r18 == (0 : Int)) = true ∧ True, (r18 == (0 : Int)) = true, True, (r22 == (0 : Int)) = true ∧ True, (r22 == (0 : Int)) = true ∧ True, (r22 == (0 : Int)) = true ∧ EqOk Try.prog 23 (.prod (.int .i64) (.int .i64)), (r22 == (0 : Int)) = true, True, ((r13.1 == (1 : Int)) && (r13.2 == (0 : Int))) = true ∧ True, ((r13.1 == (1 : Int)) && (r13.2 == (0 : Int))) = true ∧ True, ((r13.1 == (1 : Int)) && (r13.2 == (0 : Int))) = true ∧ EqOk Try.prog 23 (.prod (.int .i64) (.int .i64)), ((r13.1 == (1 : Int)) && (r13.2 == (0 : Int))) = true, True, ((r17.1 == (0 : Int)) && (r17.2 == (2 : Int))) = true ∧ True, ((r17.1 == (0 : Int)) && (r17.2 == (2 : Int))) = true ∧ True, ((r17.1 == (0 : Int)) && (r17.2 == (2 : Int))) = true, True, (r21 == (2 : Int)) = false, (r21 == (2 : Int)) = false, (r21 == (2 : Int)) = false, (r21 == (2 : Int)) = false, True] (by kernel_rfl) (by kernel_rfl) ⟨trivial, trivial, trivial, ⟨hb13, trivial⟩, ⟨hb13, trivial⟩, hb13, trivial, ⟨hb14, trivial⟩, ⟨hb14, trivial⟩, hb14, trivial, ⟨hb15, trivial⟩, ⟨hb15, trivial⟩, ⟨hb15, eq23⟩, hb15, trivial, ⟨hb16, trivial⟩, ⟨hb16, trivial⟩, ⟨hb16, eq23⟩, hb16, trivial, ⟨hb17, trivial⟩, ⟨hb17, trivial⟩, hb17, trivial, hb18, hb18, hb18, hb18, trivial, trivial⟩ ?_
                obtain rfl := Option.some.inj h
                exact postN_to (goal_le (gs := []) (f := []) (by kernel_rfl) (by kernel_rfl))
            · replace h := h_else hb17 h
              refine W_reg tbok ⟨[(2, true), (5, true), (6, true), (9, true), (10, true), (14, true), (15, true), (19, true), (20, false), (23, false), (24, false), (28, false)], []⟩ [] [] [(0, .p false .bool false)] [] 0 0 [True, True, True, (r14 == (0 : Int)) = true ∧ True, (r14 == (0 : Int)) = true ∧ True, (r14 == (0 : Int)) = true, True, (r18 == (0 : Int)) = true ∧ True, (r18 == (0 : Int)) = true ∧ True, (r18 == (0 : Int)) = true, True, (r22 == (0 : Int)) = true ∧ True, (r22 == (0 : Int)) = true ∧ True, (r22 == (0 : Int)) = true ∧ EqOk Try.prog 23 (.prod (.int .i64) (.int .i64)), (r22 == (0 : Int)) = true, True, ((r13.1 == (1 : Int)) && (r13.2 == (0 : Int))) = true ∧ True, ((r13.1 == (1 : Int)) && (r13.2 == (0 : Int))) = true ∧ True, ((r13.1 == (1 : Int)) && (r13.2 == (0 : Int))) = true ∧ EqOk Try.prog 23 (.prod (.int .i64) (.int .i64)), ((r13.1 == (1 : Int)) && (r13.2 == (0 : Int))) = true, True, ((r17.1 == (0 : Int)) && (r17.2 == (2 : Int))) = false, ((r17.1 == (0 : Int)) && (r17.2 == (2 : Int))) = false, ((r17.1 == (0 : Int)) && (r17.2 == (2 : Int))) = false, True, false = false, false = false, false = false, false = false, True] (by kernel_rfl) (by kernel_rfl) ⟨trivial, trivial, trivial, ⟨hb13, trivial⟩, ⟨hb13, trivial⟩, hb13, trivial, ⟨hb14, trivial⟩, ⟨hb14, trivial⟩, hb14, trivial, ⟨hb15, trivial⟩, ⟨hb15, trivial⟩, ⟨hb15, eq23⟩, hb15, trivial, ⟨hb16, trivial⟩, ⟨hb16, trivial⟩, ⟨hb16, eq23⟩, hb16, trivial, hb17, hb17, hb17, trivial, rfl, rfl, rfl, rfl, trivial, trivial⟩ ?_
              obtain rfl := Option.some.inj h
              exact postN_to (goal_le (gs := []) (f := []) (by kernel_rfl) (by kernel_rfl))
          · replace h := h_else hb16 h
            refine W_reg tbok ⟨[(2, true), (5, true), (6, true), (9, true), (10, true), (14, true), (15, false), (19, false), (20, false), (23, false), (24, false), (28, false)], []⟩ [] [] [(0, .p false .bool false)] [] 0 0 [True, True, True, (r14 == (0 : Int)) = true ∧ True, (r14 == (0 : Int)) = true ∧ True, (r14 == (0 : Int)) = true, True, (r18 == (0 : Int)) = true ∧ True, (r18 == (0 : Int)) = true ∧ True, (r18 == (0 : Int)) = true, True, (r22 == (0 : Int)) = true ∧ True, (r22 == (0 : Int)) = true ∧ True, (r22 == (0 : Int)) = true ∧ EqOk Try.prog 23 (.prod (.int .i64) (.int .i64)), (r22 == (0 : Int)) = true, True, ((r13.1 == (1 : Int)) && (r13.2 == (0 : Int))) = false, ((r13.1 == (1 : Int)) && (r13.2 == (0 : Int))) = false, ((r13.1 == (1 : Int)) && (r13.2 == (0 : Int))) = false, ((r13.1 == (1 : Int)) && (r13.2 == (0 : Int))) = false, True, false = false, false = false, false = false, True, false = false, false = false, false = false, false = false, True] (by kernel_rfl) (by kernel_rfl) ⟨trivial, trivial, trivial, ⟨hb13, trivial⟩, ⟨hb13, trivial⟩, hb13, trivial, ⟨hb14, trivial⟩, ⟨hb14, trivial⟩, hb14, trivial, ⟨hb15, trivial⟩, ⟨hb15, trivial⟩, ⟨hb15, eq23⟩, hb15, trivial, hb16, hb16, hb16, hb16, trivial, rfl, rfl, rfl, trivial, rfl, rfl, rfl, rfl, trivial, trivial⟩ ?_
            obtain rfl := Option.some.inj h
            exact postN_to (goal_le (gs := []) (f := []) (by kernel_rfl) (by kernel_rfl))
        · replace h := h_else hb15 h
          refine W_reg tbok ⟨[(2, true), (5, true), (6, true), (9, true), (10, false), (14, false), (15, false), (19, false), (20, false), (23, false), (24, false), (28, false)], []⟩ [] [] [(0, .p false .bool false)] [] 0 0 [True, True, True, (r14 == (0 : Int)) = true ∧ True, (r14 == (0 : Int)) = true ∧ True, (r14 == (0 : Int)) = true, True, (r18 == (0 : Int)) = true ∧ True, (r18 == (0 : Int)) = true ∧ True, (r18 == (0 : Int)) = true, True, (r22 == (0 : Int)) = false, (r22 == (0 : Int)) = false, (r22 == (0 : Int)) = false, (r22 == (0 : Int)) = false, True, false = false, false = false, false = false, false = false, True, false = false, false = false, false = false, True, false = false, false = false, false = false, false = false, True] (by kernel_rfl) (by kernel_rfl) ⟨trivial, trivial, trivial, ⟨hb13, trivial⟩, ⟨hb13, trivial⟩, hb13, trivial, ⟨hb14, trivial⟩, ⟨hb14, trivial⟩, hb14, trivial, hb15, hb15, hb15, hb15, trivial, rfl, rfl, rfl, rfl, trivial, rfl, rfl, rfl, trivial, rfl, rfl, rfl, rfl, trivial, trivial⟩ ?_
          obtain rfl := Option.some.inj h
          exact postN_to (goal_le (gs := []) (f := []) (by kernel_rfl) (by kernel_rfl))
      · replace h := h_else hb14 h
        refine W_reg tbok ⟨[(2, true), (5, true), (6, false), (9, false), (10, false), (14, false), (15, false), (19, false), (20, false), (23, false), (24, false), (28, false)], []⟩ [] [] [(0, .p false .bool false)] [] 0 0 [True, True, True, (r14 == (0 : Int)) = true ∧ True, (r14 == (0 : Int)) = true ∧ True, (r14 == (0 : Int)) = true, True, (r18 == (0 : Int)) = false, (r18 == (0 : Int)) = false, (r18 == (0 : Int)) = false, True, false = false, false = false, false = false, false = false, True, false = false, false = false, false = false, false = false, True, false = false, false = false, false = false, True, false = false, false = false, false = false, false = false, True] (by kernel_rfl) (by kernel_rfl) ⟨trivial, trivial, trivial, ⟨hb13, trivial⟩, ⟨hb13, trivial⟩, hb13, trivial, hb14, hb14, hb14, trivial, rfl, rfl, rfl, rfl, trivial, rfl, rfl, rfl, rfl, trivial, rfl, rfl, rfl, trivial, rfl, rfl, rfl, rfl, trivial, trivial⟩ ?_
        obtain rfl := Option.some.inj h
        exact postN_to (goal_le (gs := []) (f := []) (by kernel_rfl) (by kernel_rfl))
    · replace h := h_else hb13 h
      refine W_reg tbok ⟨[(2, false), (5, false), (6, false), (9, false), (10, false), (14, false), (15, false), (19, false), (20, false), (23, false), (24, false), (28, false)], []⟩ [] [] [(0, .p false .bool false)] [] 0 0 [True, True, True, (r14 == (0 : Int)) = false, (r14 == (0 : Int)) = false, (r14 == (0 : Int)) = false, True, false = false, false = false, false = false, True, false = false, false = false, false = false, false = false, True, false = false, false = false, false = false, false = false, True, false = false, false = false, false = false, True, false = false, false = false, false = false, false = false, True] (by kernel_rfl) (by kernel_rfl) ⟨trivial, trivial, trivial, hb13, hb13, hb13, trivial, rfl, rfl, rfl, trivial, rfl, rfl, rfl, rfl, trivial, rfl, rfl, rfl, rfl, trivial, rfl, rfl, rfl, trivial, rfl, rfl, rfl, rfl, trivial, trivial⟩ ?_
      obtain rfl := Option.some.inj h
      exact postN_to (goal_le (gs := []) (f := []) (by kernel_rfl) (by kernel_rfl))
  · clear hp1
    obtain ⟨rfl, hle⟩ := hq
    refine use_to ?_ hle
    refine to_then ?_
    refine W_ret ?_
    obtain rfl := Option.some.inj h
    exact Ret_intro [.bool] (by kernel_rfl)

end
end Go.Proofs.Ytdjjifeipeelhaa.T
