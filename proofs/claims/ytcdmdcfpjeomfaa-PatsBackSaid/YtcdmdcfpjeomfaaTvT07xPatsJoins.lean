/- Functions of the program as functions on data, and that the program's own come to them. -/
import Derived.Test.YtcdmdcfpjeomfaaTvT07x0
import Derived.Test.YtcdmdcfpjeomfaaTvT07xa
import Derived.Test.YtcdmdcfpjeomfaaTvT07xa1
namespace Go.Proofs.Ytcdmdcfpjeomfaa.T
open Go Go.Tv Go.Proofs
noncomputable section

/-- 'stanza/stanzalaw07.PatsJoins' -/
def stanzalaw07_PatsJoins (d1 : List UInt8) (i1 : List UInt8) : Option (Bool) :=
  ((stanzalaw07_Awake).bind fun (r2 : Bool) =>
  (if (!r2) = true then some false
  else (if (decide ((IntKind.i64.wrap ((d1.length : Int) + (i1.length : Int))) ≥ (4096 : Int))) = true then some true
  else ((pats_Parse d1).bind fun ((r5, r6) : ((List ((List Int) × List Int)) × List ((List Int) × List Int)) × Int × Int) =>
  ((pats_Parse i1).bind fun ((r9, r10) : ((List ((List Int) × List Int)) × List ((List Int) × List Int)) × Int × Int) =>
  (((if (r6.1 != (0 : Int)) = true then some (true)
  else some ((r10.1 != (0 : Int))))).bind fun (v1 : Bool) => (if v1 = true then some true
  else (if d1.length + ([32] : List UInt8).length ≤ 9223372036854775807 then (if (d1 ++ ([32] : List UInt8)).length + i1.length ≤ 9223372036854775807 then ((pats_Parse ((d1 ++ ([32] : List UInt8)) ++ i1)).bind fun ((r13, r14) : ((List ((List Int) × List Int)) × List ((List Int) × List Int)) × Int × Int) =>
  (if (r14.1 != (0 : Int)) = true then (((if (r14.1 == (23 : Int)) = true then (if (decide ((r5.2.length : Int) > (0 : Int))) = true then (if (decide ((r9.2.length : Int) > (0 : Int))) = true then (if (decide (r14.2 > (d1.length : Int))) = true then some (true)
  else some ((r14.1 == (24 : Int))))
  else some ((r14.1 == (24 : Int))))
  else some ((r14.1 == (24 : Int))))
  else some ((r14.1 == (24 : Int))))).bind fun (v2 : Bool) => some v2)
  else (((if (([] : List ((List Int) × List Int)).length + r5.1.length) * 48 ≤ 140737488355328 ∧ ([] : List ((List Int) × List Int)).length + r5.1.length ≤ 9223372036854775807 then (if ((([] : List ((List Int) × List Int)) ++ r5.1).length + r9.1.length) * 48 ≤ 140737488355328 ∧ (([] : List ((List Int) × List Int)) ++ r5.1).length + r9.1.length ≤ 9223372036854775807 then ((stanzaref07_SamePatterns r13.1 ((([] : List ((List Int) × List Int)) ++ r5.1) ++ r9.1)).bind fun (r19 : Bool) =>
  (if r19 = true then (if (([] : List ((List Int) × List Int)).length + r5.2.length) * 48 ≤ 140737488355328 ∧ ([] : List ((List Int) × List Int)).length + r5.2.length ≤ 9223372036854775807 then (if ((([] : List ((List Int) × List Int)) ++ r5.2).length + r9.2.length) * 48 ≤ 140737488355328 ∧ (([] : List ((List Int) × List Int)) ++ r5.2).length + r9.2.length ≤ 9223372036854775807 then ((stanzaref07_SamePatterns r13.2 ((([] : List ((List Int) × List Int)) ++ r5.2) ++ r9.2)).bind fun (r20 : Bool) =>
  some (r20)) else none) else none)
  else some (false))) else none) else none)).bind fun (v3 : Bool) => some v3))) else none) else none))))))))

set_option maxRecDepth 100000 in
set_option maxHeartbeats 4000000 in
theorem stanzalaw07_PatsJoins_ok (d1 : List UInt8) (i1 : List UInt8) (res : Bool) (h : stanzalaw07_PatsJoins d1 i1 = some res) :
    Pure Try.prog 7 [.p false .str d1, .p false .str i1] (wrapR (encs false [⟨.bool, res⟩])) := by
  refine Pure.of_body tbok Try.func7 (by kernel_rfl) rfl (Nat.le_of_ble_eq_true rfl) (fun Bw w0 => ?_) rfl
  unfold stanzalaw07_PatsJoins at h
  refine W_seq ?_
  refine W_reg tbok ⟨[], []⟩ [] [] [(0, .p false .str d1), (1, .p false .str i1)] [] 0 0 [True] (by kernel_rfl) (by kernel_rfl) ⟨trivial, trivial⟩ ?_
  refine to_then ?_
  refine W_seq ?_
  refine W_seq ?_
  obtain ⟨r2, q2, h⟩ := h_bind h
  refine W_reg tbok ⟨[], [(0, ⟨.p false .bool r2, [], false, [], [], []⟩)]⟩ [] [] [(0, .p false .str d1), (1, .p false .str i1), (12, .p false .bool (!r2))] [] 0 0 [Pure Try.prog 8 [] (.p false .bool r2), True] (by kernel_rfl) (by kernel_rfl) ⟨(stanzalaw07_Awake_ok _ q2), trivial, trivial⟩ ?_
  refine to_then ?_
  refine W_cond (b := (!r2)) (β := false) (by kernel_rfl) (fun hb1 => ?_) (fun hb1 => ?_)
  · replace h := h_if hb1 h
    refine W_seq ?_
    refine W_reg tbok ⟨[], []⟩ [] [] [(4, .p false .bool false)] [] 0 0 [True] (by kernel_rfl) (by kernel_rfl) ⟨trivial, trivial⟩ ?_
    refine to_then ?_
    refine W_ret ?_
    refine thenQ_ret ?_
    obtain rfl := Option.some.inj h
    exact Ret_intro [.bool] (by kernel_rfl)
  · replace h := h_else hb1 h
    refine W_skip_to ?_
    refine to_then ?_
    refine W_seq ?_
    refine W_seq ?_
    refine W_reg tbok ⟨[], []⟩ [] [] [(0, .p false .str d1), (1, .p false .str i1), (18, .p false .bool (decide ((IntKind.i64.wrap ((d1.length : Int) + (i1.length : Int))) ≥ (4096 : Int))))] [] 0 0 [True, True, True, True, True, True] (by kernel_rfl) (by kernel_rfl) ⟨trivial, trivial, trivial, trivial, trivial, trivial, trivial⟩ ?_
    refine to_then ?_
    refine W_cond (b := (decide ((IntKind.i64.wrap ((d1.length : Int) + (i1.length : Int))) ≥ (4096 : Int)))) (β := false) (by kernel_rfl) (fun hb2 => ?_) (fun hb2 => ?_)
    · replace h := h_if hb2 h
      refine W_seq ?_
      refine W_reg tbok ⟨[], []⟩ [] [] [(4, .p false .bool true)] [] 0 0 [True] (by kernel_rfl) (by kernel_rfl) ⟨trivial, trivial⟩ ?_
      refine to_then ?_
      refine W_ret ?_
      refine thenQ_ret ?_
      obtain rfl := Option.some.inj h
      exact Ret_intro [.bool] (by kernel_rfl)
    · replace h := h_else hb2 h
      refine W_skip_to ?_
      refine to_then ?_
      refine W_seq ?_
      obtain ⟨⟨r5, r6⟩, q4, h⟩ := h_bind h
      refine W_reg tbok ⟨[], [(1, ⟨.tup [.agg [.p false (.slice (.prod (.slice (.int .i32)) (.slice (.int .u8)))) r5.1, .p false (.slice (.prod (.slice (.int .i32)) (.slice (.int .u8)))) r5.2], .agg [.p false (.int .i64) r6.1, .p false (.int .i64) r6.2]], [false], false, [true], [], []⟩)]⟩ [] [40, 48] [(0, .p false .str d1), (1, .p false .str i1), (5, .adr 0 0 2 0), (6, .adr 1 0 2 0)] [(0, .box [.p false (.slice (.prod (.slice (.int .i32)) (.slice (.int .u8)))) r5.1, .p false (.slice (.prod (.slice (.int .i32)) (.slice (.int .u8)))) r5.2]), (1, .box [.p false (.int .i64) r6.1, .p false (.int .i64) r6.2])] 2 0 [True, Pure Try.prog 10 [.p false .str d1] (.tup [.agg [.p false (.slice (.prod (.slice (.int .i32)) (.slice (.int .u8)))) r5.1, .p false (.slice (.prod (.slice (.int .i32)) (.slice (.int .u8)))) r5.2], .agg [.p false (.int .i64) r6.1, .p false (.int .i64) r6.2]]), True, True, True, True, True, True, True] (by kernel_rfl) (by kernel_rfl) ⟨trivial, (pats_Parse_ok d1 _ q4), trivial, trivial, trivial, trivial, trivial, trivial, trivial, trivial⟩ ?_
      refine to_then ?_
      refine W_seq ?_
      obtain ⟨⟨r9, r10⟩, q6, h⟩ := h_bind h
      refine W_reg tbok ⟨[], [(1, ⟨.tup [.agg [.p false (.slice (.prod (.slice (.int .i32)) (.slice (.int .u8)))) r9.1, .p false (.slice (.prod (.slice (.int .i32)) (.slice (.int .u8)))) r9.2], .agg [.p false (.int .i64) r10.1, .p false (.int .i64) r10.2]], [false], false, [true], [], []⟩)]⟩ [] [0, 1, 42, 50] [(0, .p false .str d1), (1, .p false .str i1), (5, .adr 0 0 2 0), (6, .adr 1 0 2 0), (7, .adr 2 0 2 0), (8, .adr 3 0 2 0)] [(0, .box [.p false (.slice (.prod (.slice (.int .i32)) (.slice (.int .u8)))) r5.1, .p false (.slice (.prod (.slice (.int .i32)) (.slice (.int .u8)))) r5.2]), (1, .box [.p false (.int .i64) r6.1, .p false (.int .i64) r6.2]), (2, .box [.p false (.slice (.prod (.slice (.int .i32)) (.slice (.int .u8)))) r9.1, .p false (.slice (.prod (.slice (.int .i32)) (.slice (.int .u8)))) r9.2]), (3, .box [.p false (.int .i64) r10.1, .p false (.int .i64) r10.2])] 4 0 [True, Pure Try.prog 10 [.p false .str i1] (.tup [.agg [.p false (.slice (.prod (.slice (.int .i32)) (.slice (.int .u8)))) r9.1, .p false (.slice (.prod (.slice (.int .i32)) (.slice (.int .u8)))) r9.2], .agg [.p false (.int .i64) r10.1, .p false (.int .i64) r10.2]]), True, True, True, True, True, True, True] (by kernel_rfl) (by kernel_rfl) ⟨trivial, (pats_Parse_ok i1 _ q6), trivial, trivial, trivial, trivial, trivial, trivial, trivial, trivial⟩ ?_
      refine to_then ?_
      refine W_seq ?_
      refine W_seq ?_
      obtain ⟨v1, hp1, h⟩ := h_bind h
      refine W.mono (Q := (postN Try.f7.ntmps (fun (v1 : Bool) => mkSt [(0, .p false .str d1), (1, .p false .str i1), (5, .adr 0 0 2 0), (7, .adr 1 0 2 0), (36, .p false .bool v1)] [(0, .box [.p false (.slice (.prod (.slice (.int .i32)) (.slice (.int .u8)))) r5.1, .p false (.slice (.prod (.slice (.int .i32)) (.slice (.int .u8)))) r5.2]), (1, .box [.p false (.slice (.prod (.slice (.int .i32)) (.slice (.int .u8)))) r9.1, .p false (.slice (.prod (.slice (.int .i32)) (.slice (.int .u8)))) r9.2])] 2)) v1) ?_ (fun e σ' hq => ?_)
      · replace h := hp1
        clear hp1
        rcases Bool.eq_false_or_eq_true (r6.1 != (0 : Int)) with hb5 | hb5
        · replace h := h_if hb5 h
          refine W_reg tbok ⟨[(3, true), (7, true)], []⟩ [] [0, 2] [(0, .p false .str d1), (1, .p false .str i1), (5, .adr 0 0 2 0), (7, .adr 1 0 2 0), (36, .p false .bool true)] [(0, .box [.p false (.slice (.prod (.slice (.int .i32)) (.slice (.int .u8)))) r5.1, .p false (.slice (.prod (.slice (.int .i32)) (.slice (.int .u8)))) r5.2]), (1, .box [.p false (.slice (.prod (.slice (.int .i32)) (.slice (.int .u8)))) r9.1, .p false (.slice (.prod (.slice (.int .i32)) (.slice (.int .u8)))) r9.2])] 2 0 [True, True, True, True, (r6.1 != (0 : Int)) = true, (r6.1 != (0 : Int)) = true, (r6.1 != (0 : Int)) = true, (r6.1 != (0 : Int)) = true] (by kernel_rfl) (by kernel_rfl) ⟨trivial, trivial, trivial, trivial, hb5, hb5, hb5, hb5, trivial⟩ ?_
          obtain rfl := Option.some.inj h
          exact postN_to (goal_le (gs := []) (f := [0, 1]) (by kernel_rfl) (by kernel_rfl))
        · replace h := h_else hb5 h
          refine W_reg tbok ⟨[(3, false), (7, false)], []⟩ [] [0, 2] [(0, .p false .str d1), (1, .p false .str i1), (5, .adr 0 0 2 0), (7, .adr 1 0 2 0), (36, .p false .bool (r10.1 != (0 : Int)))] [(0, .box [.p false (.slice (.prod (.slice (.int .i32)) (.slice (.int .u8)))) r5.1, .p false (.slice (.prod (.slice (.int .i32)) (.slice (.int .u8)))) r5.2]), (1, .box [.p false (.slice (.prod (.slice (.int .i32)) (.slice (.int .u8)))) r9.1, .p false (.slice (.prod (.slice (.int .i32)) (.slice (.int .u8)))) r9.2])] 2 0 [True, True, True, True, (r6.1 != (0 : Int)) = false ∧ True, (r6.1 != (0 : Int)) = false ∧ True, (r6.1 != (0 : Int)) = false ∧ True, (r6.1 != (0 : Int)) = false] (by kernel_rfl) (by kernel_rfl) ⟨trivial, trivial, trivial, trivial, ⟨hb5, trivial⟩, ⟨hb5, trivial⟩, ⟨hb5, trivial⟩, hb5, trivial⟩ ?_
          obtain rfl := Option.some.inj h
          exact postN_to (goal_le (gs := []) (f := [0, 1]) (by kernel_rfl) (by kernel_rfl))
      · clear hp1
        obtain ⟨rfl, hle⟩ := hq
        refine use_to ?_ hle
        refine to_then ?_
        refine W_cond (b := v1) (β := false) (by kernel_rfl) (fun hb6 => ?_) (fun hb6 => ?_)
        · replace h := h_if hb6 h
          refine W_seq ?_
          refine W_reg tbok ⟨[], []⟩ [] [] [(4, .p false .bool true)] [] 0 0 [True] (by kernel_rfl) (by kernel_rfl) ⟨trivial, trivial⟩ ?_
          refine to_then ?_
          refine W_ret ?_
          refine thenQ_ret ?_
          obtain rfl := Option.some.inj h
          exact Ret_intro [.bool] (by kernel_rfl)
        · replace h := h_else hb6 h
          refine W_skip_to ?_
          refine to_then ?_
          refine W_seq ?_
          obtain ⟨c3, h⟩ := h_guard h
          obtain ⟨c4, h⟩ := h_guard h
          obtain ⟨⟨r13, r14⟩, q8, h⟩ := h_bind h
          refine W_reg tbok ⟨[], [(4, ⟨.tup [.agg [.p false (.slice (.prod (.slice (.int .i32)) (.slice (.int .u8)))) r13.1, .p false (.slice (.prod (.slice (.int .i32)) (.slice (.int .u8)))) r13.2], .agg [.p false (.int .i64) r14.1, .p false (.int .i64) r14.2]], [false], false, [true], [], []⟩)]⟩ [] [0, 1, 66, 74] [(0, .p false .str d1), (5, .adr 0 0 2 0), (7, .adr 1 0 2 0), (9, .adr 2 0 2 0), (10, .adr 3 0 2 0)] [(0, .box [.p false (.slice (.prod (.slice (.int .i32)) (.slice (.int .u8)))) r5.1, .p false (.slice (.prod (.slice (.int .i32)) (.slice (.int .u8)))) r5.2]), (1, .box [.p false (.slice (.prod (.slice (.int .i32)) (.slice (.int .u8)))) r9.1, .p false (.slice (.prod (.slice (.int .i32)) (.slice (.int .u8)))) r9.2]), (2, .box [.p false (.slice (.prod (.slice (.int .i32)) (.slice (.int .u8)))) r13.1, .p false (.slice (.prod (.slice (.int .i32)) (.slice (.int .u8)))) r13.2]), (3, .box [.p false (.int .i64) r14.1, .p false (.int .i64) r14.2])] 4 0 [True, d1.length + ([32] : List UInt8).length ≤ 9223372036854775807, True, (d1 ++ ([32] : List UInt8)).length + i1.length ≤ 9223372036854775807, Pure Try.prog 10 [.p false .str ((d1 ++ ([32] : List UInt8)) ++ i1)] (.tup [.agg [.p false (.slice (.prod (.slice (.int .i32)) (.slice (.int .u8)))) r13.1, .p false (.slice (.prod (.slice (.int .i32)) (.slice (.int .u8)))) r13.2], .agg [.p false (.int .i64) r14.1, .p false (.int .i64) r14.2]]), True, True, True, True, True, True, True] (by kernel_rfl) (by kernel_rfl) ⟨trivial, c3, trivial, c4, (pats_Parse_ok ((d1 ++ ([32] : List UInt8)) ++ i1) _ q8), trivial, trivial, trivial, trivial, trivial, trivial, trivial, trivial⟩ ?_
          refine to_then ?_
          refine W_seq ?_
          refine W_seq ?_
          refine W_reg tbok ⟨[], []⟩ [] [0, 1, 2, 3] [(0, .p false .str d1), (5, .adr 0 0 2 0), (7, .adr 1 0 2 0), (9, .adr 2 0 2 0), (10, .adr 3 0 2 0), (47, .p false .bool (r14.1 != (0 : Int)))] [(0, .box [.p false (.slice (.prod (.slice (.int .i32)) (.slice (.int .u8)))) r5.1, .p false (.slice (.prod (.slice (.int .i32)) (.slice (.int .u8)))) r5.2]), (1, .box [.p false (.slice (.prod (.slice (.int .i32)) (.slice (.int .u8)))) r9.1, .p false (.slice (.prod (.slice (.int .i32)) (.slice (.int .u8)))) r9.2]), (2, .box [.p false (.slice (.prod (.slice (.int .i32)) (.slice (.int .u8)))) r13.1, .p false (.slice (.prod (.slice (.int .i32)) (.slice (.int .u8)))) r13.2]), (3, .box [.p false (.int .i64) r14.1, .p false (.int .i64) r14.2])] 4 0 [True, True, True] (by kernel_rfl) (by kernel_rfl) ⟨trivial, trivial, trivial, trivial⟩ ?_
          refine to_then ?_
          refine W_cond (b := (r14.1 != (0 : Int))) (β := false) (by kernel_rfl) (fun hb7 => ?_) (fun hb7 => ?_)
          · replace h := h_if hb7 h
            refine W_seq ?_
            obtain ⟨v2, hp2, h⟩ := h_bind h
            refine W.mono (Q := (postN Try.f7.ntmps (fun (v2 : Bool) => mkSt [(4, .p false .bool v2)] [] 0)) v2) ?_ (fun e σ' hq => ?_)
            · replace h := hp2
              clear hp2
              rcases Bool.eq_false_or_eq_true (r14.1 == (23 : Int)) with hb16 | hb16
              · replace h := h_if hb16 h
                rcases Bool.eq_false_or_eq_true (decide ((r5.2.length : Int) > (0 : Int))) with hb17 | hb17
                · replace h := h_if hb17 h
                  rcases Bool.eq_false_or_eq_true (decide ((r9.2.length : Int) > (0 : Int))) with hb18 | hb18
                  · replace h := h_if hb18 h
                    rcases Bool.eq_false_or_eq_true (decide (r14.2 > (d1.length : Int))) with hb19 | hb19
                    · replace h := h_if hb19 h
                      refine W_reg tbok ⟨[(3, true), (8, true), (9, true), (14, true), (15, true), (21, true), (22, true), (26, true)], []⟩ [] [] [(4, .p false .bool true)] [] 0 0 [True, True, True, True, (r14.1 == (23 : Int)) = true ∧ True, (r14.1 == (23 : Int)) = true ∧ True, (r14.1 == (23 : Int)) = true ∧ True, (r14.1 == (23 : Int)) = true ∧ True, (r14.1 == (23 : Int)) = true, True, (decide ((r5.2.length : Int) > (0 : Int))) = true ∧ True, (decide ((r5.2.length : Int) > (0 : Int))) = true ∧ True, (decide ((r5.2.length : Int) > (0 : Int))) = true ∧ True, (decide ((r5.2.length : Int) > (0 : Int))) = true ∧ True, (decide ((r5.2.length : Int) > (0 : Int))) = true, True, (decide ((r9.2.length : Int) > (0 : Int))) = true ∧ True, (decide ((r9.2.length : Int) > (0 : Int))) = true ∧ True, (decide ((r9.2.length : Int) > (0 : Int))) = true ∧ True, (decide ((r9.2.length : Int) > (0 : Int))) = true ∧ True, (decide ((r9.2.length : Int) > (0 : Int))) = true ∧ True, (decide ((r9.2.length : Int) > (0 : Int))) = true, True, (decide (r14.2 > (d1.length : Int))) = true, (decide (r14.2 > (d1.length : Int))) = true, (decide (r14.2 > (d1.length : Int))) = true, (decide (r14.2 > (d1.length : Int))) = true, True] (by kernel_rfl) (by kernel_rfl) ⟨trivial, trivial, trivial, trivial, ⟨hb16, trivial⟩, ⟨hb16, trivial⟩, ⟨hb16, trivial⟩, ⟨hb16, trivial⟩, hb16, trivial, ⟨hb17, trivial⟩, ⟨hb17, trivial⟩, ⟨hb17, trivial⟩, ⟨hb17, trivial⟩, hb17, trivial, ⟨hb18, trivial⟩, ⟨hb18, trivial⟩, ⟨hb18, trivial⟩, ⟨hb18, trivial⟩, ⟨hb18, trivial⟩, hb18, trivial, hb19, hb19, hb19, hb19, trivial, trivial⟩ ?_
                      obtain rfl := Option.some.inj h
                      exact postN_to (goal_le (gs := []) (f := []) (by kernel_rfl) (by kernel_rfl))
                    · replace h := h_else hb19 h
                      refine W_reg tbok ⟨[(3, true), (8, true), (9, true), (14, true), (15, true), (21, true), (22, false), (26, false)], []⟩ [] [] [(4, .p false .bool (r14.1 == (24 : Int)))] [] 0 0 [True, True, True, True, (r14.1 == (23 : Int)) = true ∧ True, (r14.1 == (23 : Int)) = true ∧ True, (r14.1 == (23 : Int)) = true ∧ True, (r14.1 == (23 : Int)) = true ∧ True, (r14.1 == (23 : Int)) = true, True, (decide ((r5.2.length : Int) > (0 : Int))) = true ∧ True, (decide ((r5.2.length : Int) > (0 : Int))) = true ∧ True, (decide ((r5.2.length : Int) > (0 : Int))) = true ∧ True, (decide ((r5.2.length : Int) > (0 : Int))) = true ∧ True, (decide ((r5.2.length : Int) > (0 : Int))) = true, True, (decide ((r9.2.length : Int) > (0 : Int))) = true ∧ True, (decide ((r9.2.length : Int) > (0 : Int))) = true ∧ True, (decide ((r9.2.length : Int) > (0 : Int))) = true ∧ True, (decide ((r9.2.length : Int) > (0 : Int))) = true ∧ True, (decide ((r9.2.length : Int) > (0 : Int))) = true ∧ True, (decide ((r9.2.length : Int) > (0 : Int))) = true, True, (decide (r14.2 > (d1.length : Int))) = false ∧ True, (decide (r14.2 > (d1.length : Int))) = false ∧ True, (decide (r14.2 > (d1.length : Int))) = false ∧ True, (decide (r14.2 > (d1.length : Int))) = false, True] (by kernel_rfl) (by kernel_rfl) ⟨trivial, trivial, trivial, trivial, ⟨hb16, trivial⟩, ⟨hb16, trivial⟩, ⟨hb16, trivial⟩, ⟨hb16, trivial⟩, hb16, trivial, ⟨hb17, trivial⟩, ⟨hb17, trivial⟩, ⟨hb17, trivial⟩, ⟨hb17, trivial⟩, hb17, trivial, ⟨hb18, trivial⟩, ⟨hb18, trivial⟩, ⟨hb18, trivial⟩, ⟨hb18, trivial⟩, ⟨hb18, trivial⟩, hb18, trivial, ⟨hb19, trivial⟩, ⟨hb19, trivial⟩, ⟨hb19, trivial⟩, hb19, trivial, trivial⟩ ?_
                      obtain rfl := Option.some.inj h
                      exact postN_to (goal_le (gs := []) (f := []) (by kernel_rfl) (by kernel_rfl))
                  · replace h := h_else hb18 h
                    refine W_reg tbok ⟨[(3, true), (8, true), (9, true), (14, true), (15, false), (21, false), (22, false), (26, false)], []⟩ [] [] [(4, .p false .bool (r14.1 == (24 : Int)))] [] 0 0 [True, True, True, True, (r14.1 == (23 : Int)) = true ∧ True, (r14.1 == (23 : Int)) = true ∧ True, (r14.1 == (23 : Int)) = true ∧ True, (r14.1 == (23 : Int)) = true ∧ True, (r14.1 == (23 : Int)) = true, True, (decide ((r5.2.length : Int) > (0 : Int))) = true ∧ True, (decide ((r5.2.length : Int) > (0 : Int))) = true ∧ True, (decide ((r5.2.length : Int) > (0 : Int))) = true ∧ True, (decide ((r5.2.length : Int) > (0 : Int))) = true ∧ True, (decide ((r5.2.length : Int) > (0 : Int))) = true, True, (decide ((r9.2.length : Int) > (0 : Int))) = false, (decide ((r9.2.length : Int) > (0 : Int))) = false, (decide ((r9.2.length : Int) > (0 : Int))) = false, (decide ((r9.2.length : Int) > (0 : Int))) = false, (decide ((r9.2.length : Int) > (0 : Int))) = false, (decide ((r9.2.length : Int) > (0 : Int))) = false, True, false = false ∧ True, false = false ∧ True, false = false ∧ True, false = false, True] (by kernel_rfl) (by kernel_rfl) ⟨trivial, trivial, trivial, trivial, ⟨hb16, trivial⟩, ⟨hb16, trivial⟩, ⟨hb16, trivial⟩, ⟨hb16, trivial⟩, hb16, trivial, ⟨hb17, trivial⟩, ⟨hb17, trivial⟩, ⟨hb17, trivial⟩, ⟨hb17, trivial⟩, hb17, trivial, hb18, hb18, hb18, hb18, hb18, hb18, trivial, ⟨rfl, trivial⟩, ⟨rfl, trivial⟩, ⟨rfl, trivial⟩, rfl, trivial, trivial⟩ ?_
                    obtain rfl := Option.some.inj h
                    exact postN_to (goal_le (gs := []) (f := []) (by kernel_rfl) (by kernel_rfl))
                · replace h := h_else hb17 h
                  refine W_reg tbok ⟨[(3, true), (8, true), (9, false), (14, false), (15, false), (21, false), (22, false), (26, false)], []⟩ [] [] [(4, .p false .bool (r14.1 == (24 : Int)))] [] 0 0 [True, True, True, True, (r14.1 == (23 : Int)) = true ∧ True, (r14.1 == (23 : Int)) = true ∧ True, (r14.1 == (23 : Int)) = true ∧ True, (r14.1 == (23 : Int)) = true ∧ True, (r14.1 == (23 : Int)) = true, True, (decide ((r5.2.length : Int) > (0 : Int))) = false, (decide ((r5.2.length : Int) > (0 : Int))) = false, (decide ((r5.2.length : Int) > (0 : Int))) = false, (decide ((r5.2.length : Int) > (0 : Int))) = false, (decide ((r5.2.length : Int) > (0 : Int))) = false, True, false = false, false = false, false = false, false = false, false = false, false = false, True, false = false ∧ True, false = false ∧ True, false = false ∧ True, false = false, True] (by kernel_rfl) (by kernel_rfl) ⟨trivial, trivial, trivial, trivial, ⟨hb16, trivial⟩, ⟨hb16, trivial⟩, ⟨hb16, trivial⟩, ⟨hb16, trivial⟩, hb16, trivial, hb17, hb17, hb17, hb17, hb17, trivial, rfl, rfl, rfl, rfl, rfl, rfl, trivial, ⟨rfl, trivial⟩, ⟨rfl, trivial⟩, ⟨rfl, trivial⟩, rfl, trivial, trivial⟩ ?_
                  obtain rfl := Option.some.inj h
                  exact postN_to (goal_le (gs := []) (f := []) (by kernel_rfl) (by kernel_rfl))
              · replace h := h_else hb16 h
                refine W_reg tbok ⟨[(3, false), (8, false), (9, false), (14, false), (15, false), (21, false), (22, false), (26, false)], []⟩ [] [] [(4, .p false .bool (r14.1 == (24 : Int)))] [] 0 0 [True, True, True, True, (r14.1 == (23 : Int)) = false, (r14.1 == (23 : Int)) = false, (r14.1 == (23 : Int)) = false, (r14.1 == (23 : Int)) = false, (r14.1 == (23 : Int)) = false, True, false = false, false = false, false = false, false = false, false = false, True, false = false, false = false, false = false, false = false, false = false, false = false, True, false = false ∧ True, false = false ∧ True, false = false ∧ True, false = false, True] (by kernel_rfl) (by kernel_rfl) ⟨trivial, trivial, trivial, trivial, hb16, hb16, hb16, hb16, hb16, trivial, rfl, rfl, rfl, rfl, rfl, trivial, rfl, rfl, rfl, rfl, rfl, rfl, trivial, ⟨rfl, trivial⟩, ⟨rfl, trivial⟩, ⟨rfl, trivial⟩, rfl, trivial, trivial⟩ ?_
                obtain rfl := Option.some.inj h
                exact postN_to (goal_le (gs := []) (f := []) (by kernel_rfl) (by kernel_rfl))
            · clear hp2
              obtain ⟨rfl, hle⟩ := hq
              refine use_to ?_ hle
              refine to_then ?_
              refine W_ret ?_
              refine thenQ_ret ?_
              obtain rfl := Option.some.inj h
              exact Ret_intro [.bool] (by kernel_rfl)
          · replace h := h_else hb7 h
            refine W_skip_to ?_
            refine to_then ?_
            refine W_seq ?_
            obtain ⟨v3, hp3, h⟩ := h_bind h
            refine W.mono (Q := (postN Try.f7.ntmps (fun (v3 : Bool) => mkSt [(4, .p false .bool v3)] [] 0)) v3) ?_ (fun e σ' hq => ?_)
            · replace h := hp3
              clear hp3
              obtain ⟨c13, h⟩ := h_guard h
              obtain ⟨c14, h⟩ := h_guard h
              obtain ⟨r19, q13, h⟩ := h_bind h
              rcases Bool.eq_false_or_eq_true r19 with hb22 | hb22
              · replace h := h_if hb22 h
                obtain ⟨c15, h⟩ := h_guard h
                obtain ⟨c16, h⟩ := h_guard h
                obtain ⟨r20, q14, h⟩ := h_bind h
                refine W_regD tbok mixed ⟨[(10, true), (21, true)], [(9, ⟨.p false .bool r19, [false, false], false, [true, true], [], []⟩), (20, ⟨.p false .bool r20, [false, false], false, [true, true], [], []⟩)]⟩ [] [] [(4, .p false .bool r20)] [] 0 0 [True, True, True, True, True, (([] : List ((List Int) × List Int)).length + r5.1.length) * 48 ≤ 140737488355328 ∧ ([] : List ((List Int) × List Int)).length + r5.1.length ≤ 9223372036854775807, True, True, ((([] : List ((List Int) × List Int)) ++ r5.1).length + r9.1.length) * 48 ≤ 140737488355328 ∧ (([] : List ((List Int) × List Int)) ++ r5.1).length + r9.1.length ≤ 9223372036854775807, Pure Try.prog 12 [.p false (.slice (.prod (.slice (.int .i32)) (.slice (.int .u8)))) r13.1, .p true (.slice (.prod (.slice (.int .i32)) (.slice (.int .u8)))) ((([] : List ((List Int) × List Int)) ++ r5.1) ++ r9.1)] (.p false .bool r19), True, r19 = true ∧ True, r19 = true ∧ True, r19 = true ∧ True, r19 = true ∧ True, r19 = true ∧ True, r19 = true ∧ (([] : List ((List Int) × List Int)).length + r5.2.length) * 48 ≤ 140737488355328 ∧ ([] : List ((List Int) × List Int)).length + r5.2.length ≤ 9223372036854775807, r19 = true ∧ True, r19 = true ∧ True, r19 = true ∧ ((([] : List ((List Int) × List Int)) ++ r5.2).length + r9.2.length) * 48 ≤ 140737488355328 ∧ (([] : List ((List Int) × List Int)) ++ r5.2).length + r9.2.length ≤ 9223372036854775807, r19 = true ∧ Pure Try.prog 12 [.p false (.slice (.prod (.slice (.int .i32)) (.slice (.int .u8)))) r13.2, .p true (.slice (.prod (.slice (.int .i32)) (.slice (.int .u8)))) ((([] : List ((List Int) × List Int)) ++ r5.2) ++ r9.2)] (.p false .bool r20), r19 = true, True] (by kernel_rfl) (by kernel_rfl) ⟨trivial, trivial, trivial, trivial, trivial, c13, trivial, trivial, c14, (stanzaref07_SamePatterns_ok false true r13.1 ((([] : List ((List Int) × List Int)) ++ r5.1) ++ r9.1) _ q13), trivial, ⟨hb22, trivial⟩, ⟨hb22, trivial⟩, ⟨hb22, trivial⟩, ⟨hb22, trivial⟩, ⟨hb22, trivial⟩, ⟨hb22, c15⟩, ⟨hb22, trivial⟩, ⟨hb22, trivial⟩, ⟨hb22, c16⟩, ⟨hb22, (stanzaref07_SamePatterns_ok false true r13.2 ((([] : List ((List Int) × List Int)) ++ r5.2) ++ r9.2) _ q14)⟩, hb22, trivial, trivial⟩ ?_
                obtain rfl := Option.some.inj h
                exact postN_to (goal_le (gs := []) (f := []) (by kernel_rfl) (by kernel_rfl))
              · replace h := h_else hb22 h
                refine W_regD tbok mixed ⟨[(10, false), (21, false)], [(9, ⟨.p false .bool r19, [false, false], false, [true, true], [], []⟩)]⟩ [] [] [(4, .p false .bool false)] [] 0 0 [True, True, True, True, True, (([] : List ((List Int) × List Int)).length + r5.1.length) * 48 ≤ 140737488355328 ∧ ([] : List ((List Int) × List Int)).length + r5.1.length ≤ 9223372036854775807, True, True, ((([] : List ((List Int) × List Int)) ++ r5.1).length + r9.1.length) * 48 ≤ 140737488355328 ∧ (([] : List ((List Int) × List Int)) ++ r5.1).length + r9.1.length ≤ 9223372036854775807, Pure Try.prog 12 [.p false (.slice (.prod (.slice (.int .i32)) (.slice (.int .u8)))) r13.1, .p true (.slice (.prod (.slice (.int .i32)) (.slice (.int .u8)))) ((([] : List ((List Int) × List Int)) ++ r5.1) ++ r9.1)] (.p false .bool r19), True, r19 = false, r19 = false, r19 = false, r19 = false, r19 = false, r19 = false, r19 = false, r19 = false, r19 = false, r19 = false, r19 = false, True] (by kernel_rfl) (by kernel_rfl) ⟨trivial, trivial, trivial, trivial, trivial, c13, trivial, trivial, c14, (stanzaref07_SamePatterns_ok false true r13.1 ((([] : List ((List Int) × List Int)) ++ r5.1) ++ r9.1) _ q13), trivial, hb22, hb22, hb22, hb22, hb22, hb22, hb22, hb22, hb22, hb22, hb22, trivial, trivial⟩ ?_
                obtain rfl := Option.some.inj h
                exact postN_to (goal_le (gs := []) (f := []) (by kernel_rfl) (by kernel_rfl))
            · clear hp3
              obtain ⟨rfl, hle⟩ := hq
              refine use_to ?_ hle
              refine to_then ?_
              refine W_ret ?_
              obtain rfl := Option.some.inj h
              exact Ret_intro [.bool] (by kernel_rfl)

end
end Go.Proofs.Ytcdmdcfpjeomfaa.T
