/- Functions of the program as functions on data, and that the program's own come to them. -/
import Derived.Test.YtcdmdcfpjeomfaaTvT07x0
import Derived.Test.YtcdmdcfpjeomfaaTvT07xa
import Derived.Test.YtcdmdcfpjeomfaaTvT07xb
namespace Go.Proofs.Ytcdmdcfpjeomfaa.T
open Go Go.Tv Go.Proofs
noncomputable section

/-- a loop of 'stanza/stanzalaw07.PatsWords': one round -/
def stanzalaw07_PatsWords_L1 (words1 : List (List UInt8)) (gap1 : Int) : ((List UInt8) × Int) → Option (((List UInt8) × Int) ⊕ ((List UInt8) ⊕ (Bool))) := fun ((t2, v6) : (List UInt8) × Int) =>
  (if (decide (v6 < (words1.length : Int))) = true then (if 0 ≤ v6 ∧ v6 < (words1.length : Int) then (((if (decide (v6 > (300 : Int))) = true then some (true)
  else some ((decide (((words1.getD v6.toNat ([] : List UInt8)).length : Int) > (100 : Int)))))).bind fun (v7 : Bool) => (if v7 = true then some (Sum.inr (Sum.inr true))
  else (if ¬ (4 : Int) = 0 then (if 0 ≤ (Int.tmod gap1 (4 : Int)) ∧ (Int.tmod gap1 (4 : Int)) < (([([32] : List UInt8), ([10] : List UInt8), ([9, 13, 32] : List UInt8), ([32, 32] : List UInt8)] : List (List UInt8)).length : Int) then (if (Int.tmod gap1 (4 : Int)).toNat < ([([32] : List UInt8), ([10] : List UInt8), ([9, 13, 32] : List UInt8), ([32, 32] : List UInt8)] : List (List UInt8)).length then (if (words1.getD v6.toNat ([] : List UInt8)).length + (([([32] : List UInt8), ([10] : List UInt8), ([9, 13, 32] : List UInt8), ([32, 32] : List UInt8)] : List (List UInt8)).getD ((Int.tmod gap1 (4 : Int)).toNat) ([] : List UInt8)).length ≤ 9223372036854775807 then (if t2.length + ((words1.getD v6.toNat ([] : List UInt8)) ++ (([([32] : List UInt8), ([10] : List UInt8), ([9, 13, 32] : List UInt8), ([32, 32] : List UInt8)] : List (List UInt8)).getD ((Int.tmod gap1 (4 : Int)).toNat) ([] : List UInt8))).length ≤ 9223372036854775807 then (((if (decide (v6 < (30 : Int))) = true then ((stanzalaw07_told (words1.getD v6.toNat ([] : List UInt8))).bind fun (r12 : Bool) =>
  some ((!r12)))
  else some (false))).bind fun (v8 : Bool) => (if v8 = true then some (Sum.inr (Sum.inr false))
  else some (Sum.inl ((t2 ++ ((words1.getD v6.toNat ([] : List UInt8)) ++ (([([32] : List UInt8), ([10] : List UInt8), ([9, 13, 32] : List UInt8), ([32, 32] : List UInt8)] : List (List UInt8)).getD ((Int.tmod gap1 (4 : Int)).toNat) ([] : List UInt8)))), (IntKind.i64.wrap (v6 + (1 : Int))))))) else none) else none) else none) else none) else none))) else none)
  else some (Sum.inr (Sum.inl t2)))

/-- 'stanza/stanzalaw07.PatsWords' -/
def stanzalaw07_PatsWords (words1 : List (List UInt8)) (gap1 : Int) : Option (Bool) :=
  ((stanzalaw07_Awake).bind fun (r2 : Bool) =>
  (if (!r2) = true then some false
  else ((iter (stanzalaw07_PatsWords_L1 words1 gap1) (([] : List UInt8), (0 : Int))).bind fun (r13 : ((List UInt8) ⊕ (Bool))) => match r13 with
  | .inl t3 => (((if (decide ((t3.length : Int) > (10000 : Int))) = true then some (true)
  else ((stanzalaw07_told t3).bind fun (r16 : Bool) =>
  some (r16)))).bind fun (v9 : Bool) => some v9)
  | .inr (r9) => some r9)))

set_option maxRecDepth 100000 in
set_option maxHeartbeats 4000000 in
theorem stanzalaw07_PatsWords_ok (β0 : Bool) (words1 : List (List UInt8)) (gap1 : Int) (res : Bool) (h : stanzalaw07_PatsWords words1 gap1 = some res) :
    Pure Try.prog 4 [.p β0 (.slice .str) words1, .p false (.int .u8) gap1] (wrapR (encs false [⟨.bool, res⟩])) := by
  refine Pure.of_body tbok Try.func4 (by kernel_rfl) rfl (Nat.le_of_ble_eq_true rfl) (fun Bw w0 => ?_) rfl
  unfold stanzalaw07_PatsWords at h
  refine W_seq ?_
  refine W_reg tbok ⟨[], []⟩ [] [] [(0, .p β0 (.slice .str) words1), (1, .p false (.int .u8) gap1)] [] 0 0 [True] (by kernel_rfl) (by kernel_rfl) ⟨trivial, trivial⟩ ?_
  refine to_then ?_
  refine W_seq ?_
  refine W_seq ?_
  obtain ⟨r2, q2, h⟩ := h_bind h
  refine W_reg tbok ⟨[], [(0, ⟨.p false .bool r2, [], false, [], [], []⟩)]⟩ [] [] [(0, .p β0 (.slice .str) words1), (1, .p false (.int .u8) gap1), (9, .p false .bool (!r2))] [] 0 0 [Pure Try.prog 8 [] (.p false .bool r2), True] (by kernel_rfl) (by kernel_rfl) ⟨(stanzalaw07_Awake_ok _ q2), trivial, trivial⟩ ?_
  refine to_then ?_
  refine W_cond (b := (!r2)) (β := false) (by kernel_rfl) (fun hb1 => ?_) (fun hb1 => ?_)
  · replace h := h_if hb1 h
    refine W_seq ?_
    refine W_reg tbok ⟨[], []⟩ [] [] [(4, .p false .bool false)] [] 0 0 [True] (by kernel_rfl) (by kernel_rfl) ⟨trivial, trivial⟩ ?_
    refine to_then ?_
    refine W_ret ?_
    refine thenQ_ret ?_
    obtain rfl := Option.some.inj h
    exact Ret_intro [.bool] (by kernel_rfl)
  · replace h := h_else hb1 h
    refine W_skip_to ?_
    refine to_then ?_
    refine W_seq ?_
    refine W_reg tbok ⟨[], []⟩ [] [] [(0, .p β0 (.slice .str) words1), (1, .p false (.int .u8) gap1), (5, .p false .str ([] : List UInt8))] [] 0 0 [True] (by kernel_rfl) (by kernel_rfl) ⟨trivial, trivial⟩ ?_
    refine to_then ?_
    refine W_seq ?_
    refine W_seq ?_
    refine W_reg tbok ⟨[], []⟩ [] [] [(1, .p false (.int .u8) gap1), (5, .p false .str ([] : List UInt8)), (10, .p β0 (.slice .str) words1), (11, .p false (.int .i64) (words1.length : Int)), (12, .p false (.int .i64) (0 : Int))] [] 0 0 [True, True, True] (by kernel_rfl) (by kernel_rfl) ⟨trivial, trivial, trivial, trivial⟩ ?_
    refine to_then ?_
    refine W_block ?_
    obtain ⟨r13, hp7, h⟩ := h_bind h
    refine W.mono (Q := (postS (postX Try.f4.ntmps 0 (fun (t3 : List UInt8) => mkSt [(5, .p false .str t3)] [] 0)) (postR tb Try.f4.results.toList (fun (r9 : Bool) => [⟨.bool, r9⟩]))) r13) (W_iter (f := fun ((t2, v6) : (List UInt8) × Int) => mkSt [(1, .p false (.int .u8) gap1), (5, .p false .str t2), (10, .p β0 (.slice .str) words1), (11, .p false (.int .i64) (words1.length : Int)), (12, .p false (.int .i64) v6)] [] 0) (Q := (postS (postX Try.f4.ntmps 0 (fun (t3 : List UInt8) => mkSt [(5, .p false .str t3)] [] 0)) (postR tb Try.f4.results.toList (fun (r9 : Bool) => [⟨.bool, r9⟩])))) hp7 (goal_le (gs := []) (f := []) (by kernel_rfl) (by kernel_rfl)) (fun y o ho => ?_)) (fun e σ' hq => ?_)
    · obtain ⟨t2, v6⟩ := y
      replace h := ho
      clear ho hp7
      unfold stanzalaw07_PatsWords_L1 at h
      refine W_seq ?_
      refine W_reg tbok ⟨[], []⟩ [] [] [(1, .p false (.int .u8) gap1), (5, .p false .str t2), (10, .p β0 (.slice .str) words1), (11, .p false (.int .i64) (words1.length : Int)), (12, .p false (.int .i64) v6), (13, .p false .bool (decide (v6 < (words1.length : Int))))] [] 0 0 [True] (by kernel_rfl) (by kernel_rfl) ⟨trivial, trivial⟩ ?_
      refine to_then ?_
      refine W_seq ?_
      refine W_cond (b := (decide (v6 < (words1.length : Int)))) (β := false) (by kernel_rfl) (fun hb20 => ?_) (fun hb20 => ?_)
      · replace h := h_if hb20 h
        refine W_skip_to ?_
        refine to_then ?_
        refine W_seq ?_
        refine W_block ?_
        refine W_seq ?_
        obtain ⟨c26, h⟩ := h_guard h
        refine W_reg tbok ⟨[], []⟩ [] [] [(1, .p false (.int .u8) gap1), (5, .p false .str t2), (6, .p false (.int .i64) v6), (7, .p false .str (words1.getD v6.toNat ([] : List UInt8))), (10, .p β0 (.slice .str) words1), (11, .p false (.int .i64) (words1.length : Int)), (12, .p false (.int .i64) v6)] [] 0 0 [True, 0 ≤ v6 ∧ v6 < (words1.length : Int), True, True, True] (by kernel_rfl) (by kernel_rfl) ⟨trivial, c26, trivial, trivial, trivial, trivial⟩ ?_
        refine to_then ?_
        refine W_seq ?_
        refine W_seq ?_
        obtain ⟨v7, hp5, h⟩ := h_bind h
        refine W.mono (Q := (postN Try.f4.ntmps (fun (v7 : Bool) => mkSt [(1, .p false (.int .u8) gap1), (5, .p false .str t2), (6, .p false (.int .i64) v6), (7, .p false .str (words1.getD v6.toNat ([] : List UInt8))), (10, .p β0 (.slice .str) words1), (11, .p false (.int .i64) (words1.length : Int)), (12, .p false (.int .i64) v6), (23, .p false .bool v7)] [] 0)) v7) ?_ (fun e σ' hq => ?_)
        · replace h := hp5
          clear hp5
          rcases Bool.eq_false_or_eq_true (decide (v6 > (300 : Int))) with hb23 | hb23
          · replace h := h_if hb23 h
            refine W_reg tbok ⟨[(2, true), (6, true)], []⟩ [] [] [(1, .p false (.int .u8) gap1), (5, .p false .str t2), (6, .p false (.int .i64) v6), (7, .p false .str (words1.getD v6.toNat ([] : List UInt8))), (10, .p β0 (.slice .str) words1), (11, .p false (.int .i64) (words1.length : Int)), (12, .p false (.int .i64) v6), (23, .p false .bool true)] [] 0 0 [True, True, True, (decide (v6 > (300 : Int))) = true, (decide (v6 > (300 : Int))) = true, (decide (v6 > (300 : Int))) = true, (decide (v6 > (300 : Int))) = true] (by kernel_rfl) (by kernel_rfl) ⟨trivial, trivial, trivial, hb23, hb23, hb23, hb23, trivial⟩ ?_
            obtain rfl := Option.some.inj h
            exact postN_to (goal_le (gs := []) (f := []) (by kernel_rfl) (by kernel_rfl))
          · replace h := h_else hb23 h
            refine W_reg tbok ⟨[(2, false), (6, false)], []⟩ [] [] [(1, .p false (.int .u8) gap1), (5, .p false .str t2), (6, .p false (.int .i64) v6), (7, .p false .str (words1.getD v6.toNat ([] : List UInt8))), (10, .p β0 (.slice .str) words1), (11, .p false (.int .i64) (words1.length : Int)), (12, .p false (.int .i64) v6), (23, .p false .bool (decide (((words1.getD v6.toNat ([] : List UInt8)).length : Int) > (100 : Int))))] [] 0 0 [True, True, True, (decide (v6 > (300 : Int))) = false ∧ True, (decide (v6 > (300 : Int))) = false ∧ True, (decide (v6 > (300 : Int))) = false ∧ True, (decide (v6 > (300 : Int))) = false] (by kernel_rfl) (by kernel_rfl) ⟨trivial, trivial, trivial, ⟨hb23, trivial⟩, ⟨hb23, trivial⟩, ⟨hb23, trivial⟩, hb23, trivial⟩ ?_
            obtain rfl := Option.some.inj h
            exact postN_to (goal_le (gs := []) (f := []) (by kernel_rfl) (by kernel_rfl))
        · clear hp5
          obtain ⟨rfl, hle⟩ := hq
          refine use_to ?_ hle
          refine to_then ?_
          refine W_cond (b := v7) (β := false) (by kernel_rfl) (fun hb24 => ?_) (fun hb24 => ?_)
          · replace h := h_if hb24 h
            refine W_seq ?_
            refine W_reg tbok ⟨[], []⟩ [] [] [(4, .p false .bool true)] [] 0 0 [True] (by kernel_rfl) (by kernel_rfl) ⟨trivial, trivial⟩ ?_
            refine to_then ?_
            refine W_ret ?_
            obtain rfl := Option.some.inj h
            refine thenQ_ret ?_
            refine blockQ_ret ?_
            refine thenQ_ret ?_
            refine round_ret ?_
            refine postS_rr ?_
            exact postR_mk (Ret_intro [.bool] (by kernel_rfl))
          · replace h := h_else hb24 h
            refine W_skip_to ?_
            refine to_then ?_
            refine W_seq ?_
            obtain ⟨c32, h⟩ := h_guard h
            obtain ⟨c33, h⟩ := h_guard h
            obtain ⟨c34, h⟩ := h_guard h
            obtain ⟨c35, h⟩ := h_guard h
            obtain ⟨c36, h⟩ := h_guard h
            refine W_reg tbok ⟨[], []⟩ [] [] [(1, .p false (.int .u8) gap1), (5, .p false .str (t2 ++ ((words1.getD v6.toNat ([] : List UInt8)) ++ (([([32] : List UInt8), ([10] : List UInt8), ([9, 13, 32] : List UInt8), ([32, 32] : List UInt8)] : List (List UInt8)).getD ((Int.tmod gap1 (4 : Int)).toNat) ([] : List UInt8))))), (6, .p false (.int .i64) v6), (7, .p false .str (words1.getD v6.toNat ([] : List UInt8))), (10, .p β0 (.slice .str) words1), (11, .p false (.int .i64) (words1.length : Int)), (12, .p false (.int .i64) v6)] [] 0 0 [True, True, True, True, ¬ (4 : Int) = 0, 0 ≤ (Int.tmod gap1 (4 : Int)) ∧ (Int.tmod gap1 (4 : Int)) < (([([32] : List UInt8), ([10] : List UInt8), ([9, 13, 32] : List UInt8), ([32, 32] : List UInt8)] : List (List UInt8)).length : Int), (Int.tmod gap1 (4 : Int)).toNat < ([([32] : List UInt8), ([10] : List UInt8), ([9, 13, 32] : List UInt8), ([32, 32] : List UInt8)] : List (List UInt8)).length, (words1.getD v6.toNat ([] : List UInt8)).length + (([([32] : List UInt8), ([10] : List UInt8), ([9, 13, 32] : List UInt8), ([32, 32] : List UInt8)] : List (List UInt8)).getD ((Int.tmod gap1 (4 : Int)).toNat) ([] : List UInt8)).length ≤ 9223372036854775807, t2.length + ((words1.getD v6.toNat ([] : List UInt8)) ++ (([([32] : List UInt8), ([10] : List UInt8), ([9, 13, 32] : List UInt8), ([32, 32] : List UInt8)] : List (List UInt8)).getD ((Int.tmod gap1 (4 : Int)).toNat) ([] : List UInt8))).length ≤ 9223372036854775807, True] (by kernel_rfl) (by kernel_rfl) ⟨trivial, trivial, trivial, trivial, c32, c33, c34, c35, c36, trivial, trivial⟩ ?_
            refine to_then ?_
            refine W_seq ?_
            obtain ⟨v8, hp6, h⟩ := h_bind h
            refine W.mono (Q := (postN Try.f4.ntmps (fun (v8 : Bool) => mkSt [(1, .p false (.int .u8) gap1), (5, .p false .str (t2 ++ ((words1.getD v6.toNat ([] : List UInt8)) ++ (([([32] : List UInt8), ([10] : List UInt8), ([9, 13, 32] : List UInt8), ([32, 32] : List UInt8)] : List (List UInt8)).getD ((Int.tmod gap1 (4 : Int)).toNat) ([] : List UInt8))))), (10, .p β0 (.slice .str) words1), (11, .p false (.int .i64) (words1.length : Int)), (12, .p false (.int .i64) v6), (39, .p false .bool v8)] [] 0)) v8) ?_ (fun e σ' hq => ?_)
            · replace h := hp6
              clear hp6
              rcases Bool.eq_false_or_eq_true (decide (v6 < (30 : Int))) with hb27 | hb27
              · replace h := h_if hb27 h
                obtain ⟨r12, q11, h⟩ := h_bind h
                refine W_reg tbok ⟨[(2, true), (6, true)], [(4, ⟨.p false .bool r12, [false], false, [true], [], []⟩)]⟩ [] [] [(1, .p false (.int .u8) gap1), (5, .p false .str (t2 ++ ((words1.getD v6.toNat ([] : List UInt8)) ++ (([([32] : List UInt8), ([10] : List UInt8), ([9, 13, 32] : List UInt8), ([32, 32] : List UInt8)] : List (List UInt8)).getD ((Int.tmod gap1 (4 : Int)).toNat) ([] : List UInt8))))), (10, .p β0 (.slice .str) words1), (11, .p false (.int .i64) (words1.length : Int)), (12, .p false (.int .i64) v6), (39, .p false .bool (!r12))] [] 0 0 [True, True, True, (decide (v6 < (30 : Int))) = true ∧ True, (decide (v6 < (30 : Int))) = true ∧ Pure Try.prog 9 [.p false .str (words1.getD v6.toNat ([] : List UInt8))] (.p false .bool r12), (decide (v6 < (30 : Int))) = true ∧ True, (decide (v6 < (30 : Int))) = true] (by kernel_rfl) (by kernel_rfl) ⟨trivial, trivial, trivial, ⟨hb27, trivial⟩, ⟨hb27, (stanzalaw07_told_ok (words1.getD v6.toNat ([] : List UInt8)) _ q11)⟩, ⟨hb27, trivial⟩, hb27, trivial⟩ ?_
                obtain rfl := Option.some.inj h
                exact postN_to (goal_le (gs := []) (f := []) (by kernel_rfl) (by kernel_rfl))
              · replace h := h_else hb27 h
                refine W_reg tbok ⟨[(2, false), (6, false)], []⟩ [] [] [(1, .p false (.int .u8) gap1), (5, .p false .str (t2 ++ ((words1.getD v6.toNat ([] : List UInt8)) ++ (([([32] : List UInt8), ([10] : List UInt8), ([9, 13, 32] : List UInt8), ([32, 32] : List UInt8)] : List (List UInt8)).getD ((Int.tmod gap1 (4 : Int)).toNat) ([] : List UInt8))))), (10, .p β0 (.slice .str) words1), (11, .p false (.int .i64) (words1.length : Int)), (12, .p false (.int .i64) v6), (39, .p false .bool false)] [] 0 0 [True, True, True, (decide (v6 < (30 : Int))) = false, (decide (v6 < (30 : Int))) = false, (decide (v6 < (30 : Int))) = false, (decide (v6 < (30 : Int))) = false] (by kernel_rfl) (by kernel_rfl) ⟨trivial, trivial, trivial, hb27, hb27, hb27, hb27, trivial⟩ ?_
                obtain rfl := Option.some.inj h
                exact postN_to (goal_le (gs := []) (f := []) (by kernel_rfl) (by kernel_rfl))
            · clear hp6
              obtain ⟨rfl, hle⟩ := hq
              refine use_to ?_ hle
              refine to_then ?_
              refine W_cond (b := v8) (β := false) (by kernel_rfl) (fun hb28 => ?_) (fun hb28 => ?_)
              · replace h := h_if hb28 h
                refine W_seq ?_
                refine W_reg tbok ⟨[], []⟩ [] [] [(4, .p false .bool false)] [] 0 0 [True] (by kernel_rfl) (by kernel_rfl) ⟨trivial, trivial⟩ ?_
                refine to_then ?_
                refine W_ret ?_
                obtain rfl := Option.some.inj h
                refine blockQ_ret ?_
                refine thenQ_ret ?_
                refine round_ret ?_
                refine postS_rr ?_
                exact postR_mk (Ret_intro [.bool] (by kernel_rfl))
              · replace h := h_else hb28 h
                refine W_skip_to ?_
                refine to_block ?_
                refine to_then ?_
                refine W_reg tbok ⟨[], []⟩ [] [] [(1, .p false (.int .u8) gap1), (5, .p false .str (t2 ++ ((words1.getD v6.toNat ([] : List UInt8)) ++ (([([32] : List UInt8), ([10] : List UInt8), ([9, 13, 32] : List UInt8), ([32, 32] : List UInt8)] : List (List UInt8)).getD ((Int.tmod gap1 (4 : Int)).toNat) ([] : List UInt8))))), (10, .p β0 (.slice .str) words1), (11, .p false (.int .i64) (words1.length : Int)), (12, .p false (.int .i64) (IntKind.i64.wrap (v6 + (1 : Int))))] [] 0 0 [True, True] (by kernel_rfl) (by kernel_rfl) ⟨trivial, trivial, trivial⟩ ?_
                obtain rfl := Option.some.inj h
                exact roundB (goal_le (gs := []) (f := []) (by kernel_rfl) (by kernel_rfl))
      · replace h := h_else hb20 h
        refine W_exit_to ?_
        refine thenE ?_
        obtain rfl := Option.some.inj h
        refine roundE ?_
        refine postS_l ?_
        exact postX_to (goal_le (gs := []) (f := []) (by kernel_rfl) (by kernel_rfl))
    · clear hp7
      rcases r13 with t3 | r9
      · obtain ⟨rfl, hle⟩ := hq
        refine use_to ?_ hle
        refine blockE_eq ?_
        refine to_then ?_
        refine W_seq ?_
        obtain ⟨v9, hp8, h⟩ := h_bind h
        refine W.mono (Q := (postN Try.f4.ntmps (fun (v9 : Bool) => mkSt [(4, .p false .bool v9)] [] 0)) v9) ?_ (fun e σ' hq => ?_)
        · replace h := hp8
          clear hp8
          rcases Bool.eq_false_or_eq_true (decide ((t3.length : Int) > (10000 : Int))) with hb31 | hb31
          · replace h := h_if hb31 h
            refine W_reg tbok ⟨[(3, true), (6, true)], []⟩ [] [] [(4, .p false .bool true)] [] 0 0 [True, True, True, True, (decide ((t3.length : Int) > (10000 : Int))) = true, (decide ((t3.length : Int) > (10000 : Int))) = true, (decide ((t3.length : Int) > (10000 : Int))) = true, True] (by kernel_rfl) (by kernel_rfl) ⟨trivial, trivial, trivial, trivial, hb31, hb31, hb31, trivial, trivial⟩ ?_
            obtain rfl := Option.some.inj h
            exact postN_to (goal_le (gs := []) (f := []) (by kernel_rfl) (by kernel_rfl))
          · replace h := h_else hb31 h
            obtain ⟨r16, q14, h⟩ := h_bind h
            refine W_reg tbok ⟨[(3, false), (6, false)], [(5, ⟨.p false .bool r16, [false], false, [true], [], []⟩)]⟩ [] [] [(4, .p false .bool r16)] [] 0 0 [True, True, True, True, (decide ((t3.length : Int) > (10000 : Int))) = false ∧ True, (decide ((t3.length : Int) > (10000 : Int))) = false ∧ Pure Try.prog 9 [.p false .str t3] (.p false .bool r16), (decide ((t3.length : Int) > (10000 : Int))) = false, True] (by kernel_rfl) (by kernel_rfl) ⟨trivial, trivial, trivial, trivial, ⟨hb31, trivial⟩, ⟨hb31, (stanzalaw07_told_ok t3 _ q14)⟩, hb31, trivial, trivial⟩ ?_
            obtain rfl := Option.some.inj h
            exact postN_to (goal_le (gs := []) (f := []) (by kernel_rfl) (by kernel_rfl))
        · clear hp8
          obtain ⟨rfl, hle⟩ := hq
          refine use_to ?_ hle
          refine to_then ?_
          refine W_ret ?_
          obtain rfl := Option.some.inj h
          exact Ret_intro [.bool] (by kernel_rfl)
      · obtain ⟨rfl, hr⟩ := hq
        refine blockQ_ret ?_
        refine thenQ_ret ?_
        obtain rfl := Option.some.inj h
        exact hr

end
end Go.Proofs.Ytcdmdcfpjeomfaa.T
