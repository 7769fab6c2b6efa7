/- Functions of the program as functions on data, and that the program's own come to them. -/
import Derived.Test.YtnjdmbifjbahdaaTvT04x0
import Derived.Test.YtnjdmbifjbahdaaTvT04xa
import Derived.Test.YtnjdmbifjbahdaaTvT04xa2
namespace Go.Proofs.Ytnjdmbifjbahdaa.T
open Go Go.Tv Go.Proofs
noncomputable section

/-- a loop of 'stanza/stanzalaw04.AutoLimits': one round -/
def stanzalaw04_AutoLimits_L1 (n1 : Int) : ((List Tree) × Int) → Option (((List Tree) × Int) ⊕ (List Tree)) := fun ((l2, v2) : (List Tree) × Int) =>
  (if (decide (v2 < (IntKind.i64.wrap (Int.tmod n1 (11 : Int))))) = true then (if (l2.length + ([(Tree.node (1 : Int) (3 : Int) ([] : List Tree))] : List Tree).length) * 32 ≤ 140737488355328 ∧ l2.length + ([(Tree.node (1 : Int) (3 : Int) ([] : List Tree))] : List Tree).length ≤ 9223372036854775807 then some (Sum.inl ((l2 ++ ([(Tree.node (1 : Int) (3 : Int) ([] : List Tree))] : List Tree)), (IntKind.i64.wrap (v2 + (1 : Int))))) else none)
  else some (Sum.inr l2))

/-- 'stanza/stanzalaw04.AutoLimits' -/
def stanzalaw04_AutoLimits (n1 : Int) : Option (Bool) :=
  ((stanzalaw04_Awake).bind fun (r2 : Bool) =>
  (if (!r2) = true then some false
  else (if ¬ (11 : Int) = 0 then ((iter (stanzalaw04_AutoLimits_L1 n1) (([(Tree.node (1 : Int) (1 : Int) ([] : List Tree))] : List Tree), (0 : Int))).bind fun (l3 : List Tree) => ((auto_Make ([(Tree.node (2 : Int) (0 : Int) l3)] : List Tree) (2 : Int)).bind fun ((r5, r6) : ((List (List Int)) × List Int) × Int) =>
  (if 0 ≤ (IntKind.i64.wrap (Int.tmod n1 (11 : Int))) then (if (decide ((IntKind.i64.wrap ((2 : Int) * 2 ^ (min (IntKind.i64.wrap (Int.tmod n1 (11 : Int))).toNat IntKind.i64.bits))) > (300 : Int))) = true then (((if (r6 == (27 : Int)) = true then some (((r5.2.length : Int) == (0 : Int)))
  else some (false))).bind fun (v3 : Bool) => some v3)
  else (((if (r6 == (0 : Int)) = true then (if 0 ≤ (IntKind.i64.wrap (Int.tmod n1 (11 : Int))) then some (((r5.2.length : Int) == (IntKind.i64.wrap ((2 : Int) * 2 ^ (min (IntKind.i64.wrap (Int.tmod n1 (11 : Int))).toNat IntKind.i64.bits))))) else none)
  else some (false))).bind fun (v4 : Bool) => some v4)) else none))) else none)))

set_option maxRecDepth 100000 in
set_option maxHeartbeats 4000000 in
theorem stanzalaw04_AutoLimits_ok (n1 : Int) (res : Bool) (h : stanzalaw04_AutoLimits n1 = some res) :
    Pure Try.prog 3 [.p false (.int .u8) n1] (wrapR (encs false [⟨.bool, res⟩])) := by
  refine Pure.of_body tbok Try.func3 (by kernel_rfl) rfl (Nat.le_of_ble_eq_true rfl) (fun Bw w0 => ?_) rfl
  unfold stanzalaw04_AutoLimits at h
  refine W_seq ?_
  refine W_reg tbok ⟨[], []⟩ [] [] [(0, .p false (.int .u8) n1)] [] 0 0 [True] (by kernel_rfl) (by kernel_rfl) ⟨trivial, trivial⟩ ?_
  refine to_then ?_
  refine W_seq ?_
  refine W_seq ?_
  obtain ⟨r2, q2, h⟩ := h_bind h
  refine W_reg tbok ⟨[], [(0, ⟨.p false .bool r2, [], false, [], [], []⟩)]⟩ [] [] [(0, .p false (.int .u8) n1), (8, .p false .bool (!r2))] [] 0 0 [Pure Try.prog 8 [] (.p false .bool r2), True] (by kernel_rfl) (by kernel_rfl) ⟨(stanzalaw04_Awake_ok _ q2), trivial, trivial⟩ ?_
  refine to_then ?_
  refine W_cond (b := (!r2)) (β := false) (by kernel_rfl) (fun hb1 => ?_) (fun hb1 => ?_)
  · replace h := h_if hb1 h
    refine W_seq ?_
    refine W_reg tbok ⟨[], []⟩ [] [] [(2, .p false .bool false)] [] 0 0 [True] (by kernel_rfl) (by kernel_rfl) ⟨trivial, trivial⟩ ?_
    refine to_then ?_
    refine W_ret ?_
    refine thenQ_ret ?_
    obtain rfl := Option.some.inj h
    exact Ret_intro [.bool] (by kernel_rfl)
  · replace h := h_else hb1 h
    refine W_skip_to ?_
    refine to_then ?_
    refine W_seq ?_
    obtain ⟨c2, h⟩ := h_guard h
    refine W_reg tbok ⟨[], []⟩ [] [] [(3, .p false (.int .i64) (IntKind.i64.wrap (Int.tmod n1 (11 : Int))))] [] 0 0 [True, ¬ (11 : Int) = 0, True, True] (by kernel_rfl) (by kernel_rfl) ⟨trivial, c2, trivial, trivial, trivial⟩ ?_
    refine to_then ?_
    refine W_seq ?_
    refine W_reg tbok ⟨[], []⟩ [] [8] [(3, .p false (.int .i64) (IntKind.i64.wrap (Int.tmod n1 (11 : Int)))), (4, .sl 0)] [(0, .arr 27 (.tree .u8 .u32) ([(Tree.node (1 : Int) (1 : Int) ([] : List Tree))] : List Tree))] 1 0 [True, True, True] (by kernel_rfl) (by kernel_rfl) ⟨trivial, trivial, trivial, trivial⟩ ?_
    refine to_then ?_
    refine W_seq ?_
    refine W_seq ?_
    refine W_reg tbok ⟨[], []⟩ [] [0] [(3, .p false (.int .i64) (IntKind.i64.wrap (Int.tmod n1 (11 : Int)))), (4, .sl 0), (14, .p false (.int .i64) (IntKind.i64.wrap (Int.tmod n1 (11 : Int)))), (15, .p false (.int .i64) (0 : Int))] [(0, .arr 27 (.tree .u8 .u32) ([(Tree.node (1 : Int) (1 : Int) ([] : List Tree))] : List Tree))] 1 0 [True, True] (by kernel_rfl) (by kernel_rfl) ⟨trivial, trivial, trivial⟩ ?_
    refine to_then ?_
    refine W_block ?_
    obtain ⟨l3, hp1, h⟩ := h_bind h
    refine W.mono (Q := (postX Try.f3.ntmps 0 (fun (l3 : List Tree) => mkSt [(3, .p false (.int .i64) (IntKind.i64.wrap (Int.tmod n1 (11 : Int)))), (4, .sl 0)] [(0, .arr 27 (.tree .u8 .u32) l3)] 1)) l3) (W_iter (f := fun ((l2, v2) : (List Tree) × Int) => mkSt [(3, .p false (.int .i64) (IntKind.i64.wrap (Int.tmod n1 (11 : Int)))), (4, .sl 0), (14, .p false (.int .i64) (IntKind.i64.wrap (Int.tmod n1 (11 : Int)))), (15, .p false (.int .i64) v2)] [(0, .arr 27 (.tree .u8 .u32) l2)] 1) (Q := (postX Try.f3.ntmps 0 (fun (l3 : List Tree) => mkSt [(3, .p false (.int .i64) (IntKind.i64.wrap (Int.tmod n1 (11 : Int)))), (4, .sl 0)] [(0, .arr 27 (.tree .u8 .u32) l3)] 1))) hp1 (goal_le (gs := []) (f := [0]) (by kernel_rfl) (by kernel_rfl)) (fun y o ho => ?_)) (fun e σ' hq => ?_)
    · obtain ⟨l2, v2⟩ := y
      replace h := ho
      clear ho hp1
      unfold stanzalaw04_AutoLimits_L1 at h
      refine W_seq ?_
      refine W_reg tbok ⟨[], []⟩ [] [0] [(3, .p false (.int .i64) (IntKind.i64.wrap (Int.tmod n1 (11 : Int)))), (4, .sl 0), (14, .p false (.int .i64) (IntKind.i64.wrap (Int.tmod n1 (11 : Int)))), (15, .p false (.int .i64) v2), (16, .p false .bool (decide (v2 < (IntKind.i64.wrap (Int.tmod n1 (11 : Int))))))] [(0, .arr 27 (.tree .u8 .u32) l2)] 1 0 [True] (by kernel_rfl) (by kernel_rfl) ⟨trivial, trivial⟩ ?_
      refine to_then ?_
      refine W_seq ?_
      refine W_cond (b := (decide (v2 < (IntKind.i64.wrap (Int.tmod n1 (11 : Int)))))) (β := false) (by kernel_rfl) (fun hb4 => ?_) (fun hb4 => ?_)
      · replace h := h_if hb4 h
        refine W_skip_to ?_
        refine to_then ?_
        refine W_seq ?_
        refine W_block ?_
        obtain ⟨c8, h⟩ := h_guard h
        refine W_reg tbok ⟨[], []⟩ [] [25] [(3, .p false (.int .i64) (IntKind.i64.wrap (Int.tmod n1 (11 : Int)))), (4, .sl 0), (14, .p false (.int .i64) (IntKind.i64.wrap (Int.tmod n1 (11 : Int)))), (15, .p false (.int .i64) v2)] [(0, .arr 27 (.tree .u8 .u32) (l2 ++ ([(Tree.node (1 : Int) (3 : Int) ([] : List Tree))] : List Tree)))] 1 0 [True, True, True, (l2.length + ([(Tree.node (1 : Int) (3 : Int) ([] : List Tree))] : List Tree).length) * 32 ≤ 140737488355328 ∧ l2.length + ([(Tree.node (1 : Int) (3 : Int) ([] : List Tree))] : List Tree).length ≤ 9223372036854775807, True] (by kernel_rfl) (by kernel_rfl) ⟨trivial, trivial, trivial, c8, trivial, trivial⟩ ?_
        refine to_block ?_
        refine to_then ?_
        refine W_reg tbok ⟨[], []⟩ [] [0] [(3, .p false (.int .i64) (IntKind.i64.wrap (Int.tmod n1 (11 : Int)))), (4, .sl 0), (14, .p false (.int .i64) (IntKind.i64.wrap (Int.tmod n1 (11 : Int)))), (15, .p false (.int .i64) (IntKind.i64.wrap (v2 + (1 : Int))))] [(0, .arr 27 (.tree .u8 .u32) (l2 ++ ([(Tree.node (1 : Int) (3 : Int) ([] : List Tree))] : List Tree)))] 1 0 [True, True] (by kernel_rfl) (by kernel_rfl) ⟨trivial, trivial, trivial⟩ ?_
        obtain rfl := Option.some.inj h
        exact roundB (goal_le (gs := []) (f := [0]) (by kernel_rfl) (by kernel_rfl))
      · replace h := h_else hb4 h
        refine W_exit_to ?_
        refine thenE ?_
        obtain rfl := Option.some.inj h
        refine roundE ?_
        exact postX_to (goal_le (gs := []) (f := [0]) (by kernel_rfl) (by kernel_rfl))
    · clear hp1
      obtain ⟨rfl, hle⟩ := hq
      refine use_to ?_ hle
      refine blockE_eq ?_
      refine to_then ?_
      refine W_seq ?_
      obtain ⟨⟨r5, r6⟩, q4, h⟩ := h_bind h
      refine W_reg tbok ⟨[], [(3, ⟨.tup [.agg [.p false (.slice (.slice (.int .i64))) r5.1, .p false (.slice (.int .u32)) r5.2], .p false (.int .i64) r6], [false, false], false, [true, true], [], []⟩)]⟩ [] [57] [(3, .p false (.int .i64) (IntKind.i64.wrap (Int.tmod n1 (11 : Int)))), (5, .adr 0 0 2 0), (6, .p false (.int .i64) r6)] [(0, .box [.p false (.slice (.slice (.int .i64))) r5.1, .p false (.slice (.int .u32)) r5.2])] 1 0 [True, True, True, Pure Try.prog 9 [.p true (.slice (.tree .u8 .u32)) ([(Tree.node (2 : Int) (0 : Int) l3)] : List Tree), .p false (.int .i64) (2 : Int)] (.tup [.agg [.p false (.slice (.slice (.int .i64))) r5.1, .p false (.slice (.int .u32)) r5.2], .p false (.int .i64) r6]), True, True, True, True, True, True] (by kernel_rfl) (by kernel_rfl) ⟨trivial, trivial, trivial, (auto_Make_ok true ([(Tree.node (2 : Int) (0 : Int) l3)] : List Tree) (2 : Int) _ q4), trivial, trivial, trivial, trivial, trivial, trivial, trivial⟩ ?_
      refine to_then ?_
      refine W_seq ?_
      refine W_seq ?_
      obtain ⟨c10, h⟩ := h_guard h
      refine W_reg tbok ⟨[], []⟩ [] [0] [(3, .p false (.int .i64) (IntKind.i64.wrap (Int.tmod n1 (11 : Int)))), (5, .adr 0 0 2 0), (6, .p false (.int .i64) r6), (31, .p false .bool (decide ((IntKind.i64.wrap ((2 : Int) * 2 ^ (min (IntKind.i64.wrap (Int.tmod n1 (11 : Int))).toNat IntKind.i64.bits))) > (300 : Int))))] [(0, .box [.p false (.slice (.slice (.int .i64))) r5.1, .p false (.slice (.int .u32)) r5.2])] 1 0 [True, 0 ≤ (IntKind.i64.wrap (Int.tmod n1 (11 : Int))), True] (by kernel_rfl) (by kernel_rfl) ⟨trivial, c10, trivial, trivial⟩ ?_
      refine to_then ?_
      refine W_cond (b := (decide ((IntKind.i64.wrap ((2 : Int) * 2 ^ (min (IntKind.i64.wrap (Int.tmod n1 (11 : Int))).toNat IntKind.i64.bits))) > (300 : Int)))) (β := false) (by kernel_rfl) (fun hb5 => ?_) (fun hb5 => ?_)
      · replace h := h_if hb5 h
        refine W_seq ?_
        obtain ⟨v3, hp2, h⟩ := h_bind h
        refine W.mono (Q := (postN Try.f3.ntmps (fun (v3 : Bool) => mkSt [(2, .p false .bool v3)] [] 0)) v3) ?_ (fun e σ' hq => ?_)
        · replace h := hp2
          clear hp2
          rcases Bool.eq_false_or_eq_true (r6 == (27 : Int)) with hb8 | hb8
          · replace h := h_if hb8 h
            refine W_reg tbok ⟨[(2, true), (7, true)], []⟩ [] [] [(2, .p false .bool ((r5.2.length : Int) == (0 : Int)))] [] 0 0 [True, True, True, (r6 == (27 : Int)) = true ∧ True, (r6 == (27 : Int)) = true ∧ True, (r6 == (27 : Int)) = true ∧ True, (r6 == (27 : Int)) = true ∧ True, (r6 == (27 : Int)) = true, True] (by kernel_rfl) (by kernel_rfl) ⟨trivial, trivial, trivial, ⟨hb8, trivial⟩, ⟨hb8, trivial⟩, ⟨hb8, trivial⟩, ⟨hb8, trivial⟩, hb8, trivial, trivial⟩ ?_
            obtain rfl := Option.some.inj h
            exact postN_to (goal_le (gs := []) (f := []) (by kernel_rfl) (by kernel_rfl))
          · replace h := h_else hb8 h
            refine W_reg tbok ⟨[(2, false), (7, false)], []⟩ [] [] [(2, .p false .bool false)] [] 0 0 [True, True, True, (r6 == (27 : Int)) = false, (r6 == (27 : Int)) = false, (r6 == (27 : Int)) = false, (r6 == (27 : Int)) = false, (r6 == (27 : Int)) = false, True] (by kernel_rfl) (by kernel_rfl) ⟨trivial, trivial, trivial, hb8, hb8, hb8, hb8, hb8, trivial, trivial⟩ ?_
            obtain rfl := Option.some.inj h
            exact postN_to (goal_le (gs := []) (f := []) (by kernel_rfl) (by kernel_rfl))
        · clear hp2
          obtain ⟨rfl, hle⟩ := hq
          refine use_to ?_ hle
          refine to_then ?_
          refine W_ret ?_
          refine thenQ_ret ?_
          obtain rfl := Option.some.inj h
          exact Ret_intro [.bool] (by kernel_rfl)
      · replace h := h_else hb5 h
        refine W_skip_to ?_
        refine to_then ?_
        refine W_seq ?_
        obtain ⟨v4, hp3, h⟩ := h_bind h
        refine W.mono (Q := (postN Try.f3.ntmps (fun (v4 : Bool) => mkSt [(2, .p false .bool v4)] [] 0)) v4) ?_ (fun e σ' hq => ?_)
        · replace h := hp3
          clear hp3
          rcases Bool.eq_false_or_eq_true (r6 == (0 : Int)) with hb11 | hb11
          · replace h := h_if hb11 h
            obtain ⟨c13, h⟩ := h_guard h
            refine W_regD tbok mixed ⟨[(2, true), (9, true)], []⟩ [] [] [(2, .p false .bool ((r5.2.length : Int) == (IntKind.i64.wrap ((2 : Int) * 2 ^ (min (IntKind.i64.wrap (Int.tmod n1 (11 : Int))).toNat IntKind.i64.bits)))))] [] 0 0 [True, True, True, (r6 == (0 : Int)) = true ∧ True, (r6 == (0 : Int)) = true ∧ True, (r6 == (0 : Int)) = true ∧ True, (r6 == (0 : Int)) = true ∧ True, (r6 == (0 : Int)) = true ∧ 0 ≤ (IntKind.i64.wrap (Int.tmod n1 (11 : Int))), (r6 == (0 : Int)) = true ∧ True, (r6 == (0 : Int)) = true, True] (by kernel_rfl) (by kernel_rfl) ⟨trivial, trivial, trivial, ⟨hb11, trivial⟩, ⟨hb11, trivial⟩, ⟨hb11, trivial⟩, ⟨hb11, trivial⟩, ⟨hb11, c13⟩, ⟨hb11, trivial⟩, hb11, trivial, trivial⟩ ?_
            obtain rfl := Option.some.inj h
            exact postN_to (goal_le (gs := []) (f := []) (by kernel_rfl) (by kernel_rfl))
          · replace h := h_else hb11 h
            refine W_regD tbok mixed ⟨[(2, false), (9, false)], []⟩ [] [] [(2, .p false .bool false)] [] 0 0 [True, True, True, (r6 == (0 : Int)) = false, (r6 == (0 : Int)) = false, (r6 == (0 : Int)) = false, (r6 == (0 : Int)) = false, (r6 == (0 : Int)) = false, (r6 == (0 : Int)) = false, (r6 == (0 : Int)) = false, True] (by kernel_rfl) (by kernel_rfl) ⟨trivial, trivial, trivial, hb11, hb11, hb11, hb11, hb11, hb11, hb11, trivial, trivial⟩ ?_
            obtain rfl := Option.some.inj h
            exact postN_to (goal_le (gs := []) (f := []) (by kernel_rfl) (by kernel_rfl))
        · clear hp3
          obtain ⟨rfl, hle⟩ := hq
          refine use_to ?_ hle
          refine to_then ?_
          refine W_ret ?_
          obtain rfl := Option.some.inj h
          exact Ret_intro [.bool] (by kernel_rfl)

end
end Go.Proofs.Ytnjdmbifjbahdaa.T
