/- Functions of the program as functions on data, and that the program's own come to them. -/
import Derived.Test.YtnnbofkcfooljaaTvT05x0
import Derived.Test.YtnnbofkcfooljaaTvT05xa
import Derived.Test.YtnnbofkcfooljaaTvT05xb
namespace Go.Proofs.Ytnnbofkcfooljaa.T
open Go Go.Tv Go.Proofs
noncomputable section

/-- a loop of 'stanza/stanzalaw05.LeastCopies': one round -/
def stanzalaw05_LeastCopies_L1 (x2 : List Int) (r4 : (List (List Int)) × List Int) (v28 : Int) : ((List Int) × Int) → Option (((List Int) × Int) ⊕ (List Int)) := fun ((v37, v38) : (List Int) × Int) =>
  (if (decide (v38 < ((r4.1.getD ((Int.tmod v28 (r4.1.length : Int)).toNat) ([] : List Int)).length : Int))) = true then (if 0 ≤ v38 ∧ v38 < ((r4.1.getD ((Int.tmod v28 (r4.1.length : Int)).toNat) ([] : List Int)).length : Int) then (((if (decide ((x2.length : Int) > (0 : Int))) = true then (if ¬ (x2.length : Int) = 0 then (if 0 ≤ (Int.tmod (IntKind.i64.wrap (v28 + v38)) (x2.length : Int)) ∧ (Int.tmod (IntKind.i64.wrap (v28 + v38)) (x2.length : Int)) < (x2.length : Int) then (if ¬ (2 : Int) = 0 then some (((Int.tmod (x2.getD ((Int.tmod (IntKind.i64.wrap (v28 + v38)) (x2.length : Int)).toNat) (0 : Int)) (2 : Int)) != (0 : Int))) else none) else none) else none)
  else some (false))).bind fun (v40 : Bool) => (((if v40 = true then some ((IntKind.i64.wrap (((r4.1.getD ((Int.tmod v28 (r4.1.length : Int)).toNat) ([] : List Int)).getD v38.toNat (0 : Int)) + (r4.1.length : Int))))
  else some (((r4.1.getD ((Int.tmod v28 (r4.1.length : Int)).toNat) ([] : List Int)).getD v38.toNat (0 : Int))))).bind fun (v41 : Int) => (if (v37.length + ([v41] : List Int).length) * 8 ≤ 140737488355328 ∧ v37.length + ([v41] : List Int).length ≤ 9223372036854775807 then some (Sum.inl ((v37 ++ ([v41] : List Int)), (IntKind.i64.wrap (v38 + (1 : Int))))) else none))) else none)
  else some (Sum.inr v37))

/-- a loop of 'stanza/stanzalaw05.LeastCopies': one round -/
def stanzalaw05_LeastCopies_L2 (x2 : List Int) (r4 : (List (List Int)) × List Int) : ((List (List Int)) × (List Int) × Int) → Option (((List (List Int)) × (List Int) × Int) ⊕ ((List (List Int)) × List Int)) := fun ((v26, v27, v28) : (List (List Int)) × (List Int) × Int) =>
  (if (decide (v28 < (IntKind.i64.wrap ((2 : Int) * (r4.1.length : Int))))) = true then (if ¬ (r4.1.length : Int) = 0 then (if 0 ≤ (Int.tmod v28 (r4.1.length : Int)) ∧ (Int.tmod v28 (r4.1.length : Int)) < (r4.1.length : Int) then ((iter (stanzalaw05_LeastCopies_L1 x2 r4 v28) (([] : List Int), (0 : Int))).bind fun (v39 : List Int) => (if (v26.length + ([v39] : List (List Int)).length) * 24 ≤ 140737488355328 ∧ v26.length + ([v39] : List (List Int)).length ≤ 9223372036854775807 then (if ¬ (r4.1.length : Int) = 0 then (if 0 ≤ (Int.tmod v28 (r4.1.length : Int)) ∧ (Int.tmod v28 (r4.1.length : Int)) < (r4.2.length : Int) then (if (v27.length + ([(r4.2.getD ((Int.tmod v28 (r4.1.length : Int)).toNat) (0 : Int))] : List Int).length) * 4 ≤ 140737488355328 ∧ v27.length + ([(r4.2.getD ((Int.tmod v28 (r4.1.length : Int)).toNat) (0 : Int))] : List Int).length ≤ 9223372036854775807 then some (Sum.inl ((v26 ++ ([v39] : List (List Int))), (v27 ++ ([(r4.2.getD ((Int.tmod v28 (r4.1.length : Int)).toNat) (0 : Int))] : List Int)), (IntKind.i64.wrap (v28 + (1 : Int))))) else none) else none) else none) else none)) else none) else none)
  else some (Sum.inr (v26, v27)))

/-- 'stanza/stanzalaw05.LeastCopies' -/
def stanzalaw05_LeastCopies (d1 : List Int) (i1 : List Int) (x1 : Int) (x2 : List Int) : Option (Bool) :=
  ((stanzalaw05_Awake).bind fun (r2 : Bool) =>
  (if (!r2) = true then some false
  else ((stanzalaw05_Made d1 i1 x1).bind fun (r4 : (List (List Int)) × List Int) =>
  (if ((r4.1.length : Int) == (0 : Int)) = true then some true
  else ((iter (stanzalaw05_LeastCopies_L2 x2 r4) (([] : List (List Int)), ([] : List Int), (0 : Int))).bind fun ((v29, v30) : (List (List Int)) × List Int) => ((least_Make r4.1 r4.2).bind fun ((r8, r9) : ((List (List Int)) × List Int) × Int) =>
  ((least_Make v29 v30).bind fun ((r12, r13) : ((List (List Int)) × List Int) × Int) =>
  (((if (r9 == (0 : Int)) = true then (if (r13 == (0 : Int)) = true then ((stanzaref04_SameAuto r8.1 r8.2 r12.1 r12.2).bind fun (r16 : Bool) =>
  some (r16))
  else some (false))
  else some (false))).bind fun (v42 : Bool) => some v42))))))))

set_option maxRecDepth 100000 in
set_option maxHeartbeats 4000000 in
theorem stanzalaw05_LeastCopies_ok (β0 β1 β3 : Bool) (d1 : List Int) (i1 : List Int) (x1 : Int) (x2 : List Int) (res : Bool) (h : stanzalaw05_LeastCopies d1 i1 x1 x2 = some res) :
    Pure Try.prog 6 [.p β0 (.slice (.int .u32)) d1, .p β1 (.slice (.int .i64)) i1, .p false (.int .u8) x1, .p β3 (.slice (.int .i64)) x2] (wrapR (encs false [⟨.bool, res⟩])) := by
  refine Pure.of_body tbok Try.func6 (by kernel_rfl) rfl (Nat.le_of_ble_eq_true rfl) (fun Bw w0 => ?_) rfl
  unfold stanzalaw05_LeastCopies at h
  refine W_seq ?_
  refine W_reg tbok ⟨[], []⟩ [] [] [(0, .p β0 (.slice (.int .u32)) d1), (1, .p β1 (.slice (.int .i64)) i1), (2, .p false (.int .u8) x1), (3, .p β3 (.slice (.int .i64)) x2)] [] 0 0 [True] (by kernel_rfl) (by kernel_rfl) ⟨trivial, trivial⟩ ?_
  refine to_then ?_
  refine W_seq ?_
  refine W_seq ?_
  obtain ⟨r2, q2, h⟩ := h_bind h
  refine W_reg tbok ⟨[], [(0, ⟨.p false .bool r2, [], false, [], [], []⟩)]⟩ [] [] [(0, .p β0 (.slice (.int .u32)) d1), (1, .p β1 (.slice (.int .i64)) i1), (2, .p false (.int .u8) x1), (3, .p β3 (.slice (.int .i64)) x2), (21, .p false .bool (!r2))] [] 0 0 [Pure Try.prog 8 [] (.p false .bool r2), True] (by kernel_rfl) (by kernel_rfl) ⟨(stanzalaw05_Awake_ok _ q2), trivial, trivial⟩ ?_
  refine to_then ?_
  refine W_cond (b := (!r2)) (β := false) (by kernel_rfl) (fun hb1 => ?_) (fun hb1 => ?_)
  · replace h := h_if hb1 h
    refine W_seq ?_
    refine W_reg tbok ⟨[], []⟩ [] [] [(8, .p false .bool false)] [] 0 0 [True] (by kernel_rfl) (by kernel_rfl) ⟨trivial, trivial⟩ ?_
    refine to_then ?_
    refine W_ret ?_
    refine thenQ_ret ?_
    obtain rfl := Option.some.inj h
    exact Ret_intro [.bool] (by kernel_rfl)
  · replace h := h_else hb1 h
    refine W_skip_to ?_
    refine to_then ?_
    refine W_seq ?_
    obtain ⟨r4, q4, h⟩ := h_bind h
    refine W_reg tbok ⟨[], [(3, ⟨.agg [.p false (.slice (.slice (.int .i64))) r4.1, .p false (.slice (.int .u32)) r4.2], [false, false, false], false, [true, true, true], [], []⟩)]⟩ [] [32] [(3, .p β3 (.slice (.int .i64)) x2), (9, .adr 0 0 2 0)] [(0, .box [.p false (.slice (.slice (.int .i64))) r4.1, .p false (.slice (.int .u32)) r4.2])] 1 0 [True, True, True, Pure Try.prog 9 [.p β0 (.slice (.int .u32)) d1, .p β1 (.slice (.int .i64)) i1, .p false (.int .u8) x1] (.agg [.p false (.slice (.slice (.int .i64))) r4.1, .p false (.slice (.int .u32)) r4.2]), True, True] (by kernel_rfl) (by kernel_rfl) ⟨trivial, trivial, trivial, (stanzalaw05_Made_ok β0 β1 d1 i1 x1 _ q4), trivial, trivial, trivial⟩ ?_
    refine to_then ?_
    refine W_seq ?_
    refine W_reg tbok ⟨[], []⟩ [] [0] [(3, .p β3 (.slice (.int .i64)) x2), (9, .adr 0 0 2 0), (10, .p false (.int .i64) (r4.1.length : Int))] [(0, .box [.p false (.slice (.slice (.int .i64))) r4.1, .p false (.slice (.int .u32)) r4.2])] 1 0 [True, True, True, True] (by kernel_rfl) (by kernel_rfl) ⟨trivial, trivial, trivial, trivial, trivial⟩ ?_
    refine to_then ?_
    refine W_seq ?_
    refine W_seq ?_
    refine W_reg tbok ⟨[], []⟩ [] [0] [(3, .p β3 (.slice (.int .i64)) x2), (9, .adr 0 0 2 0), (10, .p false (.int .i64) (r4.1.length : Int)), (30, .p false .bool ((r4.1.length : Int) == (0 : Int)))] [(0, .box [.p false (.slice (.slice (.int .i64))) r4.1, .p false (.slice (.int .u32)) r4.2])] 1 0 [True, True] (by kernel_rfl) (by kernel_rfl) ⟨trivial, trivial, trivial⟩ ?_
    refine to_then ?_
    refine W_cond (b := ((r4.1.length : Int) == (0 : Int))) (β := false) (by kernel_rfl) (fun hb2 => ?_) (fun hb2 => ?_)
    · replace h := h_if hb2 h
      refine W_seq ?_
      refine W_reg tbok ⟨[], []⟩ [] [] [(8, .p false .bool true)] [] 0 0 [True] (by kernel_rfl) (by kernel_rfl) ⟨trivial, trivial⟩ ?_
      refine to_then ?_
      refine W_ret ?_
      refine thenQ_ret ?_
      obtain rfl := Option.some.inj h
      exact Ret_intro [.bool] (by kernel_rfl)
    · replace h := h_else hb2 h
      refine W_skip_to ?_
      refine to_then ?_
      refine W_seq ?_
      refine W_reg tbok ⟨[], []⟩ [] [0, 9] [(3, .p β3 (.slice (.int .i64)) x2), (9, .adr 0 0 2 0), (10, .p false (.int .i64) (r4.1.length : Int)), (11, .adr 1 0 2 0)] [(0, .box [.p false (.slice (.slice (.int .i64))) r4.1, .p false (.slice (.int .u32)) r4.2]), (1, .box [.nils, .nils])] 2 0 [True, True, True] (by kernel_rfl) (by kernel_rfl) ⟨trivial, trivial, trivial, trivial⟩ ?_
      refine to_then ?_
      refine W_seq ?_
      refine W_seq ?_
      refine W_reg tbok ⟨[], []⟩ [] [0, 1] [(3, .p β3 (.slice (.int .i64)) x2), (9, .adr 0 0 2 0), (10, .p false (.int .i64) (r4.1.length : Int)), (11, .adr 1 0 2 0), (33, .p false (.int .i64) (IntKind.i64.wrap ((2 : Int) * (r4.1.length : Int)))), (34, .p false (.int .i64) (0 : Int))] [(0, .box [.p false (.slice (.slice (.int .i64))) r4.1, .p false (.slice (.int .u32)) r4.2]), (1, .box [.nils, .nils])] 2 0 [True, True, True] (by kernel_rfl) (by kernel_rfl) ⟨trivial, trivial, trivial, trivial⟩ ?_
      refine to_then ?_
      refine W_block ?_
      obtain ⟨r5, hp22, h⟩ := h_bind h
      refine W.mono (Q := (postX Try.f6.ntmps 0 (fun ((v29, v30) : (List (List Int)) × List Int) => mkSt [(9, .adr 0 0 2 0), (11, .adr 1 0 2 0)] [(0, .box [.p false (.slice (.slice (.int .i64))) r4.1, .p false (.slice (.int .u32)) r4.2]), (1, .box [.sl 2, .sl 3]), (2, .arr 23 (.slice (.int .i64)) v29), (3, .arr 37 (.int .u32) v30)] 4)) r5) (W_iter (f := fun ((v26, v27, v28) : (List (List Int)) × (List Int) × Int) => mkSt [(3, .p β3 (.slice (.int .i64)) x2), (9, .adr 0 0 2 0), (10, .p false (.int .i64) (r4.1.length : Int)), (11, .adr 1 0 2 0), (33, .p false (.int .i64) (IntKind.i64.wrap ((2 : Int) * (r4.1.length : Int)))), (34, .p false (.int .i64) v28)] [(0, .box [.p false (.slice (.slice (.int .i64))) r4.1, .p false (.slice (.int .u32)) r4.2]), (1, .box [.sl 2, .sl 3]), (2, .arr 23 (.slice (.int .i64)) v26), (3, .arr 37 (.int .u32) v27)] 4) (Q := (postX Try.f6.ntmps 0 (fun ((v29, v30) : (List (List Int)) × List Int) => mkSt [(9, .adr 0 0 2 0), (11, .adr 1 0 2 0)] [(0, .box [.p false (.slice (.slice (.int .i64))) r4.1, .p false (.slice (.int .u32)) r4.2]), (1, .box [.sl 2, .sl 3]), (2, .arr 23 (.slice (.int .i64)) v29), (3, .arr 37 (.int .u32) v30)] 4))) hp22 (goal_le (gs := [.nilC 1 0 2 23 (.slice (.int .i64)), .nilC 1 1 3 37 (.int .u32)]) (f := [0, 1, 2, 3]) (by kernel_rfl) (by kernel_rfl)) (fun y o ho => ?_)) (fun e σ' hq => ?_)
      · obtain ⟨v26, v27, v28⟩ := y
        replace h := ho
        clear ho hp22
        unfold stanzalaw05_LeastCopies_L2 at h
        refine W_seq ?_
        refine W_reg tbok ⟨[], []⟩ [] [0, 1, 2, 3] [(3, .p β3 (.slice (.int .i64)) x2), (9, .adr 0 0 2 0), (10, .p false (.int .i64) (r4.1.length : Int)), (11, .adr 1 0 2 0), (33, .p false (.int .i64) (IntKind.i64.wrap ((2 : Int) * (r4.1.length : Int)))), (34, .p false (.int .i64) v28), (35, .p false .bool (decide (v28 < (IntKind.i64.wrap ((2 : Int) * (r4.1.length : Int))))))] [(0, .box [.p false (.slice (.slice (.int .i64))) r4.1, .p false (.slice (.int .u32)) r4.2]), (1, .box [.sl 2, .sl 3]), (2, .arr 23 (.slice (.int .i64)) v26), (3, .arr 37 (.int .u32) v27)] 4 0 [True] (by kernel_rfl) (by kernel_rfl) ⟨trivial, trivial⟩ ?_
        refine to_then ?_
        refine W_seq ?_
        refine W_cond (b := (decide (v28 < (IntKind.i64.wrap ((2 : Int) * (r4.1.length : Int)))))) (β := false) (by kernel_rfl) (fun hb41 => ?_) (fun hb41 => ?_)
        · replace h := h_if hb41 h
          refine W_skip_to ?_
          refine to_then ?_
          refine W_seq ?_
          refine W_block ?_
          refine W_seq ?_
          refine W_reg tbok ⟨[], []⟩ [] [0, 1, 2, 3] [(3, .p β3 (.slice (.int .i64)) x2), (9, .adr 0 0 2 0), (10, .p false (.int .i64) (r4.1.length : Int)), (11, .adr 1 0 2 0), (12, .p false (.int .i64) v28), (33, .p false (.int .i64) (IntKind.i64.wrap ((2 : Int) * (r4.1.length : Int)))), (34, .p false (.int .i64) v28)] [(0, .box [.p false (.slice (.slice (.int .i64))) r4.1, .p false (.slice (.int .u32)) r4.2]), (1, .box [.sl 2, .sl 3]), (2, .arr 23 (.slice (.int .i64)) v26), (3, .arr 37 (.int .u32) v27)] 4 0 [True, True] (by kernel_rfl) (by kernel_rfl) ⟨trivial, trivial, trivial⟩ ?_
          refine to_then ?_
          refine W_seq ?_
          refine W_reg tbok ⟨[], []⟩ [] [0, 1, 2, 3] [(3, .p β3 (.slice (.int .i64)) x2), (9, .adr 0 0 2 0), (10, .p false (.int .i64) (r4.1.length : Int)), (11, .adr 1 0 2 0), (12, .p false (.int .i64) v28), (13, .nils), (33, .p false (.int .i64) (IntKind.i64.wrap ((2 : Int) * (r4.1.length : Int)))), (34, .p false (.int .i64) v28)] [(0, .box [.p false (.slice (.slice (.int .i64))) r4.1, .p false (.slice (.int .u32)) r4.2]), (1, .box [.sl 2, .sl 3]), (2, .arr 23 (.slice (.int .i64)) v26), (3, .arr 37 (.int .u32) v27)] 4 0 [True] (by kernel_rfl) (by kernel_rfl) ⟨trivial, trivial⟩ ?_
          refine to_then ?_
          refine W_seq ?_
          refine W_seq ?_
          obtain ⟨c105, h⟩ := h_guard h
          obtain ⟨c106, h⟩ := h_guard h
          refine W_regD tbok mixed ⟨[], []⟩ [] [0, 1, 2, 3] [(3, .p β3 (.slice (.int .i64)) x2), (9, .adr 0 0 2 0), (10, .p false (.int .i64) (r4.1.length : Int)), (11, .adr 1 0 2 0), (12, .p false (.int .i64) v28), (13, .nils), (33, .p false (.int .i64) (IntKind.i64.wrap ((2 : Int) * (r4.1.length : Int)))), (34, .p false (.int .i64) v28), (43, .p false (.slice (.int .i64)) (r4.1.getD ((Int.tmod v28 (r4.1.length : Int)).toNat) ([] : List Int))), (44, .p false (.int .i64) ((r4.1.getD ((Int.tmod v28 (r4.1.length : Int)).toNat) ([] : List Int)).length : Int)), (45, .p false (.int .i64) (0 : Int))] [(0, .box [.p false (.slice (.slice (.int .i64))) r4.1, .p false (.slice (.int .u32)) r4.2]), (1, .box [.sl 2, .sl 3]), (2, .arr 23 (.slice (.int .i64)) v26), (3, .arr 37 (.int .u32) v27)] 4 0 [True, True, True, True, ¬ (r4.1.length : Int) = 0, 0 ≤ (Int.tmod v28 (r4.1.length : Int)) ∧ (Int.tmod v28 (r4.1.length : Int)) < (r4.1.length : Int), True, True, True] (by kernel_rfl) (by kernel_rfl) ⟨trivial, trivial, trivial, trivial, c105, c106, trivial, trivial, trivial, trivial⟩ ?_
          refine to_then ?_
          refine W_block ?_
          obtain ⟨v39, hp21, h⟩ := h_bind h
          refine W.mono (Q := (postX Try.f6.ntmps 2 (fun (v39 : List Int) => mkSt [(3, .p β3 (.slice (.int .i64)) x2), (9, .adr 0 0 2 0), (10, .p false (.int .i64) (r4.1.length : Int)), (11, .adr 1 0 2 0), (12, .p false (.int .i64) v28), (13, .sl 4), (33, .p false (.int .i64) (IntKind.i64.wrap ((2 : Int) * (r4.1.length : Int)))), (34, .p false (.int .i64) v28)] [(0, .box [.p false (.slice (.slice (.int .i64))) r4.1, .p false (.slice (.int .u32)) r4.2]), (1, .box [.sl 2, .sl 3]), (2, .arr 23 (.slice (.int .i64)) v26), (3, .arr 37 (.int .u32) v27), (4, .arr 3 (.int .i64) v39)] 5)) v39) (W_iter (f := fun ((v37, v38) : (List Int) × Int) => mkSt [(3, .p β3 (.slice (.int .i64)) x2), (9, .adr 0 0 2 0), (10, .p false (.int .i64) (r4.1.length : Int)), (11, .adr 1 0 2 0), (12, .p false (.int .i64) v28), (13, .sl 4), (33, .p false (.int .i64) (IntKind.i64.wrap ((2 : Int) * (r4.1.length : Int)))), (34, .p false (.int .i64) v28), (43, .p false (.slice (.int .i64)) (r4.1.getD ((Int.tmod v28 (r4.1.length : Int)).toNat) ([] : List Int))), (44, .p false (.int .i64) ((r4.1.getD ((Int.tmod v28 (r4.1.length : Int)).toNat) ([] : List Int)).length : Int)), (45, .p false (.int .i64) v38)] [(0, .box [.p false (.slice (.slice (.int .i64))) r4.1, .p false (.slice (.int .u32)) r4.2]), (1, .box [.sl 2, .sl 3]), (2, .arr 23 (.slice (.int .i64)) v26), (3, .arr 37 (.int .u32) v27), (4, .arr 3 (.int .i64) v37)] 5) (Q := (postX Try.f6.ntmps 2 (fun (v39 : List Int) => mkSt [(3, .p β3 (.slice (.int .i64)) x2), (9, .adr 0 0 2 0), (10, .p false (.int .i64) (r4.1.length : Int)), (11, .adr 1 0 2 0), (12, .p false (.int .i64) v28), (13, .sl 4), (33, .p false (.int .i64) (IntKind.i64.wrap ((2 : Int) * (r4.1.length : Int)))), (34, .p false (.int .i64) v28)] [(0, .box [.p false (.slice (.slice (.int .i64))) r4.1, .p false (.slice (.int .u32)) r4.2]), (1, .box [.sl 2, .sl 3]), (2, .arr 23 (.slice (.int .i64)) v26), (3, .arr 37 (.int .u32) v27), (4, .arr 3 (.int .i64) v39)] 5))) hp21 (goal_le (gs := [.nilS 13 4 3 (.int .i64)]) (f := [0, 1, 2, 3, 4]) (by kernel_rfl) (by kernel_rfl)) (fun y o ho => ?_)) (fun e σ' hq => ?_)
          · obtain ⟨v37, v38⟩ := y
            replace h := ho
            clear ho hp21
            unfold stanzalaw05_LeastCopies_L1 at h
            refine W_seq ?_
            refine W_reg tbok ⟨[], []⟩ [] [0, 1, 2, 3, 4] [(3, .p β3 (.slice (.int .i64)) x2), (9, .adr 0 0 2 0), (10, .p false (.int .i64) (r4.1.length : Int)), (11, .adr 1 0 2 0), (12, .p false (.int .i64) v28), (13, .sl 4), (33, .p false (.int .i64) (IntKind.i64.wrap ((2 : Int) * (r4.1.length : Int)))), (34, .p false (.int .i64) v28), (43, .p false (.slice (.int .i64)) (r4.1.getD ((Int.tmod v28 (r4.1.length : Int)).toNat) ([] : List Int))), (44, .p false (.int .i64) ((r4.1.getD ((Int.tmod v28 (r4.1.length : Int)).toNat) ([] : List Int)).length : Int)), (45, .p false (.int .i64) v38), (46, .p false .bool (decide (v38 < ((r4.1.getD ((Int.tmod v28 (r4.1.length : Int)).toNat) ([] : List Int)).length : Int))))] [(0, .box [.p false (.slice (.slice (.int .i64))) r4.1, .p false (.slice (.int .u32)) r4.2]), (1, .box [.sl 2, .sl 3]), (2, .arr 23 (.slice (.int .i64)) v26), (3, .arr 37 (.int .u32) v27), (4, .arr 3 (.int .i64) v37)] 5 0 [True] (by kernel_rfl) (by kernel_rfl) ⟨trivial, trivial⟩ ?_
            refine to_then ?_
            refine W_seq ?_
            refine W_cond (b := (decide (v38 < ((r4.1.getD ((Int.tmod v28 (r4.1.length : Int)).toNat) ([] : List Int)).length : Int)))) (β := false) (by kernel_rfl) (fun hb54 => ?_) (fun hb54 => ?_)
            · replace h := h_if hb54 h
              refine W_skip_to ?_
              refine to_then ?_
              refine W_seq ?_
              refine W_block ?_
              refine W_seq ?_
              obtain ⟨c134, h⟩ := h_guard h
              refine W_reg tbok ⟨[], []⟩ [] [0, 1, 2, 3, 4] [(3, .p β3 (.slice (.int .i64)) x2), (9, .adr 0 0 2 0), (10, .p false (.int .i64) (r4.1.length : Int)), (11, .adr 1 0 2 0), (12, .p false (.int .i64) v28), (13, .sl 4), (14, .p false (.int .i64) v38), (15, .p false (.int .i64) ((r4.1.getD ((Int.tmod v28 (r4.1.length : Int)).toNat) ([] : List Int)).getD v38.toNat (0 : Int))), (33, .p false (.int .i64) (IntKind.i64.wrap ((2 : Int) * (r4.1.length : Int)))), (34, .p false (.int .i64) v28), (43, .p false (.slice (.int .i64)) (r4.1.getD ((Int.tmod v28 (r4.1.length : Int)).toNat) ([] : List Int))), (44, .p false (.int .i64) ((r4.1.getD ((Int.tmod v28 (r4.1.length : Int)).toNat) ([] : List Int)).length : Int)), (45, .p false (.int .i64) v38)] [(0, .box [.p false (.slice (.slice (.int .i64))) r4.1, .p false (.slice (.int .u32)) r4.2]), (1, .box [.sl 2, .sl 3]), (2, .arr 23 (.slice (.int .i64)) v26), (3, .arr 37 (.int .u32) v27), (4, .arr 3 (.int .i64) v37)] 5 0 [True, 0 ≤ v38 ∧ v38 < ((r4.1.getD ((Int.tmod v28 (r4.1.length : Int)).toNat) ([] : List Int)).length : Int), True, True, True] (by kernel_rfl) (by kernel_rfl) ⟨trivial, c134, trivial, trivial, trivial, trivial⟩ ?_
              refine to_then ?_
              refine W_seq ?_
              refine W_seq ?_
              obtain ⟨v40, hp19, h⟩ := h_bind h
              refine W.mono (Q := (postN Try.f6.ntmps (fun (v40 : Bool) => mkSt [(3, .p β3 (.slice (.int .i64)) x2), (9, .adr 0 0 2 0), (10, .p false (.int .i64) (r4.1.length : Int)), (11, .adr 1 0 2 0), (12, .p false (.int .i64) v28), (13, .sl 4), (15, .p false (.int .i64) ((r4.1.getD ((Int.tmod v28 (r4.1.length : Int)).toNat) ([] : List Int)).getD v38.toNat (0 : Int))), (33, .p false (.int .i64) (IntKind.i64.wrap ((2 : Int) * (r4.1.length : Int)))), (34, .p false (.int .i64) v28), (43, .p false (.slice (.int .i64)) (r4.1.getD ((Int.tmod v28 (r4.1.length : Int)).toNat) ([] : List Int))), (44, .p false (.int .i64) ((r4.1.getD ((Int.tmod v28 (r4.1.length : Int)).toNat) ([] : List Int)).length : Int)), (45, .p false (.int .i64) v38), (65, .p false .bool v40)] [(0, .box [.p false (.slice (.slice (.int .i64))) r4.1, .p false (.slice (.int .u32)) r4.2]), (1, .box [.sl 2, .sl 3]), (2, .arr 23 (.slice (.int .i64)) v26), (3, .arr 37 (.int .u32) v27), (4, .arr 3 (.int .i64) v37)] 5)) v40) ?_ (fun e σ' hq => ?_)
              · replace h := hp19
                clear hp19
                rcases Bool.eq_false_or_eq_true (decide ((x2.length : Int) > (0 : Int))) with hb57 | hb57
                · replace h := h_if hb57 h
                  obtain ⟨c141, h⟩ := h_guard h
                  obtain ⟨c142, h⟩ := h_guard h
                  obtain ⟨c143, h⟩ := h_guard h
                  refine W_reg tbok ⟨[(3, true), (15, true)], []⟩ [] [0, 1, 2, 3, 4] [(3, .p β3 (.slice (.int .i64)) x2), (9, .adr 0 0 2 0), (10, .p false (.int .i64) (r4.1.length : Int)), (11, .adr 1 0 2 0), (12, .p false (.int .i64) v28), (13, .sl 4), (15, .p false (.int .i64) ((r4.1.getD ((Int.tmod v28 (r4.1.length : Int)).toNat) ([] : List Int)).getD v38.toNat (0 : Int))), (33, .p false (.int .i64) (IntKind.i64.wrap ((2 : Int) * (r4.1.length : Int)))), (34, .p false (.int .i64) v28), (43, .p false (.slice (.int .i64)) (r4.1.getD ((Int.tmod v28 (r4.1.length : Int)).toNat) ([] : List Int))), (44, .p false (.int .i64) ((r4.1.getD ((Int.tmod v28 (r4.1.length : Int)).toNat) ([] : List Int)).length : Int)), (45, .p false (.int .i64) v38), (65, .p false .bool ((Int.tmod (x2.getD ((Int.tmod (IntKind.i64.wrap (v28 + v38)) (x2.length : Int)).toNat) (0 : Int)) (2 : Int)) != (0 : Int)))] [(0, .box [.p false (.slice (.slice (.int .i64))) r4.1, .p false (.slice (.int .u32)) r4.2]), (1, .box [.sl 2, .sl 3]), (2, .arr 23 (.slice (.int .i64)) v26), (3, .arr 37 (.int .u32) v27), (4, .arr 3 (.int .i64) v37)] 5 0 [True, True, True, True, (decide ((x2.length : Int) > (0 : Int))) = true ∧ True, (decide ((x2.length : Int) > (0 : Int))) = true ∧ True, (decide ((x2.length : Int) > (0 : Int))) = true ∧ True, (decide ((x2.length : Int) > (0 : Int))) = true ∧ True, (decide ((x2.length : Int) > (0 : Int))) = true ∧ True, (decide ((x2.length : Int) > (0 : Int))) = true ∧ True, (decide ((x2.length : Int) > (0 : Int))) = true ∧ ¬ (x2.length : Int) = 0, (decide ((x2.length : Int) > (0 : Int))) = true ∧ 0 ≤ (Int.tmod (IntKind.i64.wrap (v28 + v38)) (x2.length : Int)) ∧ (Int.tmod (IntKind.i64.wrap (v28 + v38)) (x2.length : Int)) < (x2.length : Int), (decide ((x2.length : Int) > (0 : Int))) = true ∧ True, (decide ((x2.length : Int) > (0 : Int))) = true ∧ ¬ (2 : Int) = 0, (decide ((x2.length : Int) > (0 : Int))) = true ∧ True, (decide ((x2.length : Int) > (0 : Int))) = true] (by kernel_rfl) (by kernel_rfl) ⟨trivial, trivial, trivial, trivial, ⟨hb57, trivial⟩, ⟨hb57, trivial⟩, ⟨hb57, trivial⟩, ⟨hb57, trivial⟩, ⟨hb57, trivial⟩, ⟨hb57, trivial⟩, ⟨hb57, c141⟩, ⟨hb57, c142⟩, ⟨hb57, trivial⟩, ⟨hb57, c143⟩, ⟨hb57, trivial⟩, hb57, trivial⟩ ?_
                  obtain rfl := Option.some.inj h
                  exact postN_to (goal_le (gs := []) (f := [0, 1, 2, 3, 4]) (by kernel_rfl) (by kernel_rfl))
                · replace h := h_else hb57 h
                  refine W_reg tbok ⟨[(3, false), (15, false)], []⟩ [] [0, 1, 2, 3, 4] [(3, .p β3 (.slice (.int .i64)) x2), (9, .adr 0 0 2 0), (10, .p false (.int .i64) (r4.1.length : Int)), (11, .adr 1 0 2 0), (12, .p false (.int .i64) v28), (13, .sl 4), (15, .p false (.int .i64) ((r4.1.getD ((Int.tmod v28 (r4.1.length : Int)).toNat) ([] : List Int)).getD v38.toNat (0 : Int))), (33, .p false (.int .i64) (IntKind.i64.wrap ((2 : Int) * (r4.1.length : Int)))), (34, .p false (.int .i64) v28), (43, .p false (.slice (.int .i64)) (r4.1.getD ((Int.tmod v28 (r4.1.length : Int)).toNat) ([] : List Int))), (44, .p false (.int .i64) ((r4.1.getD ((Int.tmod v28 (r4.1.length : Int)).toNat) ([] : List Int)).length : Int)), (45, .p false (.int .i64) v38), (65, .p false .bool false)] [(0, .box [.p false (.slice (.slice (.int .i64))) r4.1, .p false (.slice (.int .u32)) r4.2]), (1, .box [.sl 2, .sl 3]), (2, .arr 23 (.slice (.int .i64)) v26), (3, .arr 37 (.int .u32) v27), (4, .arr 3 (.int .i64) v37)] 5 0 [True, True, True, True, (decide ((x2.length : Int) > (0 : Int))) = false, (decide ((x2.length : Int) > (0 : Int))) = false, (decide ((x2.length : Int) > (0 : Int))) = false, (decide ((x2.length : Int) > (0 : Int))) = false, (decide ((x2.length : Int) > (0 : Int))) = false, (decide ((x2.length : Int) > (0 : Int))) = false, (decide ((x2.length : Int) > (0 : Int))) = false, (decide ((x2.length : Int) > (0 : Int))) = false, (decide ((x2.length : Int) > (0 : Int))) = false, (decide ((x2.length : Int) > (0 : Int))) = false, (decide ((x2.length : Int) > (0 : Int))) = false, (decide ((x2.length : Int) > (0 : Int))) = false] (by kernel_rfl) (by kernel_rfl) ⟨trivial, trivial, trivial, trivial, hb57, hb57, hb57, hb57, hb57, hb57, hb57, hb57, hb57, hb57, hb57, hb57, trivial⟩ ?_
                  obtain rfl := Option.some.inj h
                  exact postN_to (goal_le (gs := []) (f := [0, 1, 2, 3, 4]) (by kernel_rfl) (by kernel_rfl))
              · clear hp19
                obtain ⟨rfl, hle⟩ := hq
                refine use_to ?_ hle
                refine to_then ?_
                obtain ⟨v41, hp20, h⟩ := h_bind h
                refine W.mono (Q := (postN Try.f6.ntmps (fun (v41 : Int) => mkSt [(3, .p β3 (.slice (.int .i64)) x2), (9, .adr 0 0 2 0), (10, .p false (.int .i64) (r4.1.length : Int)), (11, .adr 1 0 2 0), (12, .p false (.int .i64) v28), (13, .sl 4), (15, .p false (.int .i64) v41), (33, .p false (.int .i64) (IntKind.i64.wrap ((2 : Int) * (r4.1.length : Int)))), (34, .p false (.int .i64) v28), (43, .p false (.slice (.int .i64)) (r4.1.getD ((Int.tmod v28 (r4.1.length : Int)).toNat) ([] : List Int))), (44, .p false (.int .i64) ((r4.1.getD ((Int.tmod v28 (r4.1.length : Int)).toNat) ([] : List Int)).length : Int)), (45, .p false (.int .i64) v38)] [(0, .box [.p false (.slice (.slice (.int .i64))) r4.1, .p false (.slice (.int .u32)) r4.2]), (1, .box [.sl 2, .sl 3]), (2, .arr 23 (.slice (.int .i64)) v26), (3, .arr 37 (.int .u32) v27), (4, .arr 3 (.int .i64) v37)] 5)) v41) ?_ (fun e σ' hq => ?_)
                · replace h := hp20
                  clear hp20
                  refine W_cond (b := v40) (β := false) (by kernel_rfl) (fun hb59 => ?_) (fun hb59 => ?_)
                  · replace h := h_if hb59 h
                    refine W_reg tbok ⟨[], []⟩ [] [0, 1, 2, 3, 4] [(3, .p β3 (.slice (.int .i64)) x2), (9, .adr 0 0 2 0), (10, .p false (.int .i64) (r4.1.length : Int)), (11, .adr 1 0 2 0), (12, .p false (.int .i64) v28), (13, .sl 4), (15, .p false (.int .i64) (IntKind.i64.wrap (((r4.1.getD ((Int.tmod v28 (r4.1.length : Int)).toNat) ([] : List Int)).getD v38.toNat (0 : Int)) + (r4.1.length : Int)))), (33, .p false (.int .i64) (IntKind.i64.wrap ((2 : Int) * (r4.1.length : Int)))), (34, .p false (.int .i64) v28), (43, .p false (.slice (.int .i64)) (r4.1.getD ((Int.tmod v28 (r4.1.length : Int)).toNat) ([] : List Int))), (44, .p false (.int .i64) ((r4.1.getD ((Int.tmod v28 (r4.1.length : Int)).toNat) ([] : List Int)).length : Int)), (45, .p false (.int .i64) v38)] [(0, .box [.p false (.slice (.slice (.int .i64))) r4.1, .p false (.slice (.int .u32)) r4.2]), (1, .box [.sl 2, .sl 3]), (2, .arr 23 (.slice (.int .i64)) v26), (3, .arr 37 (.int .u32) v27), (4, .arr 3 (.int .i64) v37)] 5 0 [True, True, True, True] (by kernel_rfl) (by kernel_rfl) ⟨trivial, trivial, trivial, trivial, trivial⟩ ?_
                    obtain rfl := Option.some.inj h
                    exact postN_to (goal_le (gs := []) (f := [0, 1, 2, 3, 4]) (by kernel_rfl) (by kernel_rfl))
                  · replace h := h_else hb59 h
                    refine W_skip_to ?_
                    obtain rfl := Option.some.inj h
                    exact postN_to (goal_le (gs := []) (f := [0, 1, 2, 3, 4]) (by kernel_rfl) (by kernel_rfl))
                · clear hp20
                  obtain ⟨rfl, hle⟩ := hq
                  refine use_to ?_ hle
                  refine to_then ?_
                  obtain ⟨c145, h⟩ := h_guard h
                  refine W_reg tbok ⟨[], []⟩ [] [0, 1, 2, 3, 29] [(3, .p β3 (.slice (.int .i64)) x2), (9, .adr 0 0 2 0), (10, .p false (.int .i64) (r4.1.length : Int)), (11, .adr 1 0 2 0), (12, .p false (.int .i64) v28), (13, .sl 4), (33, .p false (.int .i64) (IntKind.i64.wrap ((2 : Int) * (r4.1.length : Int)))), (34, .p false (.int .i64) v28), (43, .p false (.slice (.int .i64)) (r4.1.getD ((Int.tmod v28 (r4.1.length : Int)).toNat) ([] : List Int))), (44, .p false (.int .i64) ((r4.1.getD ((Int.tmod v28 (r4.1.length : Int)).toNat) ([] : List Int)).length : Int)), (45, .p false (.int .i64) v38)] [(0, .box [.p false (.slice (.slice (.int .i64))) r4.1, .p false (.slice (.int .u32)) r4.2]), (1, .box [.sl 2, .sl 3]), (2, .arr 23 (.slice (.int .i64)) v26), (3, .arr 37 (.int .u32) v27), (4, .arr 3 (.int .i64) (v37 ++ ([v41] : List Int)))] 5 0 [True, True, True, (v37.length + ([v41] : List Int).length) * 8 ≤ 140737488355328 ∧ v37.length + ([v41] : List Int).length ≤ 9223372036854775807, True] (by kernel_rfl) (by kernel_rfl) ⟨trivial, trivial, trivial, c145, trivial, trivial⟩ ?_
                  refine to_block ?_
                  refine to_then ?_
                  refine W_reg tbok ⟨[], []⟩ [] [0, 1, 2, 3, 4] [(3, .p β3 (.slice (.int .i64)) x2), (9, .adr 0 0 2 0), (10, .p false (.int .i64) (r4.1.length : Int)), (11, .adr 1 0 2 0), (12, .p false (.int .i64) v28), (13, .sl 4), (33, .p false (.int .i64) (IntKind.i64.wrap ((2 : Int) * (r4.1.length : Int)))), (34, .p false (.int .i64) v28), (43, .p false (.slice (.int .i64)) (r4.1.getD ((Int.tmod v28 (r4.1.length : Int)).toNat) ([] : List Int))), (44, .p false (.int .i64) ((r4.1.getD ((Int.tmod v28 (r4.1.length : Int)).toNat) ([] : List Int)).length : Int)), (45, .p false (.int .i64) (IntKind.i64.wrap (v38 + (1 : Int))))] [(0, .box [.p false (.slice (.slice (.int .i64))) r4.1, .p false (.slice (.int .u32)) r4.2]), (1, .box [.sl 2, .sl 3]), (2, .arr 23 (.slice (.int .i64)) v26), (3, .arr 37 (.int .u32) v27), (4, .arr 3 (.int .i64) (v37 ++ ([v41] : List Int)))] 5 0 [True, True] (by kernel_rfl) (by kernel_rfl) ⟨trivial, trivial, trivial⟩ ?_
                  obtain rfl := Option.some.inj h
                  exact roundB (goal_le (gs := []) (f := [0, 1, 2, 3, 4]) (by kernel_rfl) (by kernel_rfl))
            · replace h := h_else hb54 h
              refine W_exit_to ?_
              refine thenE ?_
              obtain rfl := Option.some.inj h
              refine roundE ?_
              exact postX_to (goal_le (gs := []) (f := [0, 1, 2, 3, 4]) (by kernel_rfl) (by kernel_rfl))
          · clear hp21
            obtain ⟨rfl, hle⟩ := hq
            refine use_to ?_ hle
            refine blockE_eq ?_
            refine to_then ?_
            obtain ⟨c150, h⟩ := h_guard h
            obtain ⟨c151, h⟩ := h_guard h
            obtain ⟨c152, h⟩ := h_guard h
            obtain ⟨c153, h⟩ := h_guard h
            refine W_regD tbok mixed ⟨[], []⟩ [] [0, 1, 37, 125] [(3, .p β3 (.slice (.int .i64)) x2), (9, .adr 0 0 2 0), (10, .p false (.int .i64) (r4.1.length : Int)), (11, .adr 1 0 2 0), (33, .p false (.int .i64) (IntKind.i64.wrap ((2 : Int) * (r4.1.length : Int)))), (34, .p false (.int .i64) v28)] [(0, .box [.p false (.slice (.slice (.int .i64))) r4.1, .p false (.slice (.int .u32)) r4.2]), (1, .box [.sl 2, .sl 3]), (2, .arr 23 (.slice (.int .i64)) (v26 ++ ([v39] : List (List Int)))), (3, .arr 37 (.int .u32) (v27 ++ ([(r4.2.getD ((Int.tmod v28 (r4.1.length : Int)).toNat) (0 : Int))] : List Int)))] 4 0 [True, True, True, True, (v26.length + ([v39] : List (List Int)).length) * 24 ≤ 140737488355328 ∧ v26.length + ([v39] : List (List Int)).length ≤ 9223372036854775807, True, True, True, True, True, True, ¬ (r4.1.length : Int) = 0, 0 ≤ (Int.tmod v28 (r4.1.length : Int)) ∧ (Int.tmod v28 (r4.1.length : Int)) < (r4.2.length : Int), True, True, (v27.length + ([(r4.2.getD ((Int.tmod v28 (r4.1.length : Int)).toNat) (0 : Int))] : List Int).length) * 4 ≤ 140737488355328 ∧ v27.length + ([(r4.2.getD ((Int.tmod v28 (r4.1.length : Int)).toNat) (0 : Int))] : List Int).length ≤ 9223372036854775807, True, True, True, True] (by kernel_rfl) (by kernel_rfl) ⟨trivial, trivial, trivial, trivial, c150, trivial, trivial, trivial, trivial, trivial, trivial, c151, c152, trivial, trivial, c153, trivial, trivial, trivial, trivial, trivial⟩ ?_
            refine to_block ?_
            refine to_then ?_
            refine W_reg tbok ⟨[], []⟩ [] [0, 1, 2, 3] [(3, .p β3 (.slice (.int .i64)) x2), (9, .adr 0 0 2 0), (10, .p false (.int .i64) (r4.1.length : Int)), (11, .adr 1 0 2 0), (33, .p false (.int .i64) (IntKind.i64.wrap ((2 : Int) * (r4.1.length : Int)))), (34, .p false (.int .i64) (IntKind.i64.wrap (v28 + (1 : Int))))] [(0, .box [.p false (.slice (.slice (.int .i64))) r4.1, .p false (.slice (.int .u32)) r4.2]), (1, .box [.sl 2, .sl 3]), (2, .arr 23 (.slice (.int .i64)) (v26 ++ ([v39] : List (List Int)))), (3, .arr 37 (.int .u32) (v27 ++ ([(r4.2.getD ((Int.tmod v28 (r4.1.length : Int)).toNat) (0 : Int))] : List Int)))] 4 0 [True, True] (by kernel_rfl) (by kernel_rfl) ⟨trivial, trivial, trivial⟩ ?_
            obtain rfl := Option.some.inj h
            exact roundB (goal_le (gs := []) (f := [0, 1, 2, 3]) (by kernel_rfl) (by kernel_rfl))
        · replace h := h_else hb41 h
          refine W_exit_to ?_
          refine thenE ?_
          obtain rfl := Option.some.inj h
          refine roundE ?_
          exact postX_to (goal_le (gs := []) (f := [0, 1, 2, 3]) (by kernel_rfl) (by kernel_rfl))
      · clear hp22
        obtain ⟨v29, v30⟩ := r5
        obtain ⟨rfl, hle⟩ := hq
        refine use_to ?_ hle
        refine blockE_eq ?_
        refine to_then ?_
        refine W_seq ?_
        obtain ⟨⟨r8, r9⟩, q6, h⟩ := h_bind h
        refine W_reg tbok ⟨[], [(1, ⟨.tup [.agg [.p false (.slice (.slice (.int .i64))) r8.1, .p false (.slice (.int .u32)) r8.2], .p false (.int .i64) r9], [false], false, [true], [], []⟩)]⟩ [] [1, 2, 3, 44] [(11, .adr 0 0 2 0), (16, .adr 3 0 2 0), (17, .p false (.int .i64) r9)] [(0, .box [.sl 1, .sl 2]), (1, .arr 23 (.slice (.int .i64)) v29), (2, .arr 37 (.int .u32) v30), (3, .box [.p false (.slice (.slice (.int .i64))) r8.1, .p false (.slice (.int .u32)) r8.2])] 4 0 [True, Pure Try.prog 12 [.agg [.p false (.slice (.slice (.int .i64))) r4.1, .p false (.slice (.int .u32)) r4.2]] (.tup [.agg [.p false (.slice (.slice (.int .i64))) r8.1, .p false (.slice (.int .u32)) r8.2], .p false (.int .i64) r9]), True, True, True, True, True, True] (by kernel_rfl) (by kernel_rfl) ⟨trivial, (least_Make_ok false false r4.1 r4.2 _ q6), trivial, trivial, trivial, trivial, trivial, trivial, trivial⟩ ?_
        refine to_then ?_
        refine W_seq ?_
        obtain ⟨⟨r12, r13⟩, q8, h⟩ := h_bind h
        refine W_reg tbok ⟨[], [(1, ⟨.tup [.agg [.p false (.slice (.slice (.int .i64))) r12.1, .p false (.slice (.int .u32)) r12.2], .p false (.int .i64) r13], [false], false, [true], [], []⟩)]⟩ [] [3, 44] [(16, .adr 0 0 2 0), (17, .p false (.int .i64) r9), (18, .adr 1 0 2 0), (19, .p false (.int .i64) r13)] [(0, .box [.p false (.slice (.slice (.int .i64))) r8.1, .p false (.slice (.int .u32)) r8.2]), (1, .box [.p false (.slice (.slice (.int .i64))) r12.1, .p false (.slice (.int .u32)) r12.2])] 2 0 [True, Pure Try.prog 12 [.agg [.p true (.slice (.slice (.int .i64))) v29, .p true (.slice (.int .u32)) v30]] (.tup [.agg [.p false (.slice (.slice (.int .i64))) r12.1, .p false (.slice (.int .u32)) r12.2], .p false (.int .i64) r13]), True, True, True, True, True, True] (by kernel_rfl) (by kernel_rfl) ⟨trivial, (least_Make_ok true true v29 v30 _ q8), trivial, trivial, trivial, trivial, trivial, trivial, trivial⟩ ?_
        refine to_then ?_
        refine W_seq ?_
        obtain ⟨v42, hp23, h⟩ := h_bind h
        refine W.mono (Q := (postN Try.f6.ntmps (fun (v42 : Bool) => mkSt [(8, .p false .bool v42)] [] 0)) v42) ?_ (fun e σ' hq => ?_)
        · replace h := hp23
          clear hp23
          rcases Bool.eq_false_or_eq_true (r9 == (0 : Int)) with hb64 | hb64
          · replace h := h_if hb64 h
            rcases Bool.eq_false_or_eq_true (r13 == (0 : Int)) with hb65 | hb65
            · replace h := h_if hb65 h
              obtain ⟨r16, q11, h⟩ := h_bind h
              refine W_reg tbok ⟨[(2, true), (5, true), (6, true), (10, true)], [(9, ⟨.p false .bool r16, [false, false], false, [true, true], [], []⟩)]⟩ [] [] [(8, .p false .bool r16)] [] 0 0 [True, True, True, (r9 == (0 : Int)) = true ∧ True, (r9 == (0 : Int)) = true ∧ True, (r9 == (0 : Int)) = true, True, (r13 == (0 : Int)) = true ∧ True, (r13 == (0 : Int)) = true ∧ True, (r13 == (0 : Int)) = true ∧ Pure Try.prog 13 [.agg [.p false (.slice (.slice (.int .i64))) r8.1, .p false (.slice (.int .u32)) r8.2], .agg [.p false (.slice (.slice (.int .i64))) r12.1, .p false (.slice (.int .u32)) r12.2]] (.p false .bool r16), (r13 == (0 : Int)) = true, True] (by kernel_rfl) (by kernel_rfl) ⟨trivial, trivial, trivial, ⟨hb64, trivial⟩, ⟨hb64, trivial⟩, hb64, trivial, ⟨hb65, trivial⟩, ⟨hb65, trivial⟩, ⟨hb65, (stanzaref04_SameAuto_ok false false false false r8.1 r8.2 r12.1 r12.2 _ q11)⟩, hb65, trivial, trivial⟩ ?_
              obtain rfl := Option.some.inj h
              exact postN_to (goal_le (gs := []) (f := []) (by kernel_rfl) (by kernel_rfl))
            · replace h := h_else hb65 h
              refine W_reg tbok ⟨[(2, true), (5, true), (6, false), (10, false)], []⟩ [] [] [(8, .p false .bool false)] [] 0 0 [True, True, True, (r9 == (0 : Int)) = true ∧ True, (r9 == (0 : Int)) = true ∧ True, (r9 == (0 : Int)) = true, True, (r13 == (0 : Int)) = false, (r13 == (0 : Int)) = false, (r13 == (0 : Int)) = false, (r13 == (0 : Int)) = false, True] (by kernel_rfl) (by kernel_rfl) ⟨trivial, trivial, trivial, ⟨hb64, trivial⟩, ⟨hb64, trivial⟩, hb64, trivial, hb65, hb65, hb65, hb65, trivial, trivial⟩ ?_
              obtain rfl := Option.some.inj h
              exact postN_to (goal_le (gs := []) (f := []) (by kernel_rfl) (by kernel_rfl))
          · replace h := h_else hb64 h
            refine W_reg tbok ⟨[(2, false), (5, false), (6, false), (10, false)], []⟩ [] [] [(8, .p false .bool false)] [] 0 0 [True, True, True, (r9 == (0 : Int)) = false, (r9 == (0 : Int)) = false, (r9 == (0 : Int)) = false, True, false = false, false = false, false = false, false = false, True] (by kernel_rfl) (by kernel_rfl) ⟨trivial, trivial, trivial, hb64, hb64, hb64, trivial, rfl, rfl, rfl, rfl, trivial, trivial⟩ ?_
            obtain rfl := Option.some.inj h
            exact postN_to (goal_le (gs := []) (f := []) (by kernel_rfl) (by kernel_rfl))
        · clear hp23
          obtain ⟨rfl, hle⟩ := hq
          refine use_to ?_ hle
          refine to_then ?_
          refine W_ret ?_
          obtain rfl := Option.some.inj h
          exact Ret_intro [.bool] (by kernel_rfl)

end
end Go.Proofs.Ytnnbofkcfooljaa.T
