/- Functions of the program as functions on data, and that the program's own come to them. -/
import Derived.Test.YtnnbofkcfooljaaTvT05x0
import Derived.Test.YtnnbofkcfooljaaTvT05xa
import Derived.Test.YtnnbofkcfooljaaTvT05xb
import Derived.Test.YtnnbofkcfooljaaTvT05xc
namespace Go.Proofs.Ytnnbofkcfooljaa.T
open Go Go.Tv Go.Proofs
noncomputable section

/-- a loop of 'stanza/stanzalaw05.copied': one round -/
def stanzalaw05_copied_L1 (a1 : List (List Int)) : ((List (List Int)) × Int) → Option (((List (List Int)) × Int) ⊕ (List (List Int))) := fun ((out2, v2) : (List (List Int)) × Int) =>
  (if (decide (v2 < (a1.length : Int))) = true then (if 0 ≤ v2 ∧ v2 < (a1.length : Int) then (if (([] : List Int).length + (a1.getD v2.toNat ([] : List Int)).length) * 8 ≤ 140737488355328 ∧ ([] : List Int).length + (a1.getD v2.toNat ([] : List Int)).length ≤ 9223372036854775807 then (if (out2.length + ([(([] : List Int) ++ (a1.getD v2.toNat ([] : List Int)))] : List (List Int)).length) * 24 ≤ 140737488355328 ∧ out2.length + ([(([] : List Int) ++ (a1.getD v2.toNat ([] : List Int)))] : List (List Int)).length ≤ 9223372036854775807 then some (Sum.inl ((out2 ++ ([(([] : List Int) ++ (a1.getD v2.toNat ([] : List Int)))] : List (List Int))), (IntKind.i64.wrap (v2 + (1 : Int))))) else none) else none) else none)
  else some (Sum.inr out2))

/-- 'stanza/stanzalaw05.copied' -/
def stanzalaw05_copied (a1 : List (List Int)) (a2 : List Int) : Option ((List (List Int)) × List Int) :=
  ((iter (stanzalaw05_copied_L1 a1) (([] : List (List Int)), (0 : Int))).bind fun (out3 : List (List Int)) => (if (([] : List Int).length + a2.length) * 4 ≤ 140737488355328 ∧ ([] : List Int).length + a2.length ≤ 9223372036854775807 then some (out3, (([] : List Int) ++ a2)) else none))

set_option maxRecDepth 100000 in
set_option maxHeartbeats 4000000 in
theorem stanzalaw05_copied_ok (β0 β1 : Bool) (a1 : List (List Int)) (a2 : List Int) (res : (List (List Int)) × List Int) (h : stanzalaw05_copied a1 a2 = some res) :
    Pure Try.prog 11 [.agg [.p β0 (.slice (.slice (.int .i64))) a1, .p β1 (.slice (.int .u32)) a2]] (wrapR (encs false [⟨(.prod (.slice (.slice (.int .i64))) (.slice (.int .u32))), res⟩])) := by
  refine Pure.of_body tbok Try.func11 (by kernel_rfl) rfl (Nat.le_of_ble_eq_true rfl) (fun Bw w0 => ?_) rfl
  unfold stanzalaw05_copied at h
  refine W_seq ?_
  refine W_reg tbok ⟨[], []⟩ [] [0, 8] [(1, .adr 0 0 2 0), (2, .adr 1 0 2 0)] [(0, .box [.p β0 (.slice (.slice (.int .i64))) a1, .p β1 (.slice (.int .u32)) a2]), (1, .box [.nils, .nils])] 2 0 [True, True] (by kernel_rfl) (by kernel_rfl) ⟨trivial, trivial, trivial⟩ ?_
  refine to_then ?_
  refine W_seq ?_
  refine W_reg tbok ⟨[], []⟩ [] [0, 1, 2] [(1, .adr 0 0 2 0), (2, .adr 1 0 2 0), (3, .adr 2 0 2 0)] [(0, .box [.p β0 (.slice (.slice (.int .i64))) a1, .p β1 (.slice (.int .u32)) a2]), (1, .box [.nils, .nils]), (2, .box [.nils, .nils])] 3 0 [True] (by kernel_rfl) (by kernel_rfl) ⟨trivial, trivial⟩ ?_
  refine to_then ?_
  refine W_seq ?_
  refine W_seq ?_
  refine W_reg tbok ⟨[], []⟩ [] [0, 1, 2] [(1, .adr 0 0 2 0), (2, .adr 1 0 2 0), (3, .adr 2 0 2 0), (7, .p β0 (.slice (.slice (.int .i64))) a1), (8, .p false (.int .i64) (a1.length : Int)), (9, .p false (.int .i64) (0 : Int))] [(0, .box [.p β0 (.slice (.slice (.int .i64))) a1, .p β1 (.slice (.int .u32)) a2]), (1, .box [.nils, .nils]), (2, .box [.nils, .nils])] 3 0 [True, True, True, True] (by kernel_rfl) (by kernel_rfl) ⟨trivial, trivial, trivial, trivial, trivial⟩ ?_
  refine to_then ?_
  refine W_block ?_
  obtain ⟨out3, hp1, h⟩ := h_bind h
  refine W.mono (Q := (postX Try.f11.ntmps 0 (fun (out3 : List (List Int)) => mkSt [(1, .adr 0 0 2 0), (2, .adr 1 0 2 0), (3, .adr 2 0 2 0)] [(0, .box [.p β0 (.slice (.slice (.int .i64))) a1, .p β1 (.slice (.int .u32)) a2]), (1, .box [.nils, .nils]), (2, .box [.sl 3, .nils]), (3, .arr 23 (.slice (.int .i64)) out3)] 4)) out3) (W_iter (f := fun ((out2, v2) : (List (List Int)) × Int) => mkSt [(1, .adr 0 0 2 0), (2, .adr 1 0 2 0), (3, .adr 2 0 2 0), (7, .p β0 (.slice (.slice (.int .i64))) a1), (8, .p false (.int .i64) (a1.length : Int)), (9, .p false (.int .i64) v2)] [(0, .box [.p β0 (.slice (.slice (.int .i64))) a1, .p β1 (.slice (.int .u32)) a2]), (1, .box [.nils, .nils]), (2, .box [.sl 3, .nils]), (3, .arr 23 (.slice (.int .i64)) out2)] 4) (Q := (postX Try.f11.ntmps 0 (fun (out3 : List (List Int)) => mkSt [(1, .adr 0 0 2 0), (2, .adr 1 0 2 0), (3, .adr 2 0 2 0)] [(0, .box [.p β0 (.slice (.slice (.int .i64))) a1, .p β1 (.slice (.int .u32)) a2]), (1, .box [.nils, .nils]), (2, .box [.sl 3, .nils]), (3, .arr 23 (.slice (.int .i64)) out3)] 4))) hp1 (goal_le (gs := [.nilC 2 0 3 23 (.slice (.int .i64))]) (f := [0, 1, 2, 3]) (by kernel_rfl) (by kernel_rfl)) (fun y o ho => ?_)) (fun e σ' hq => ?_)
  · obtain ⟨out2, v2⟩ := y
    replace h := ho
    clear ho hp1
    unfold stanzalaw05_copied_L1 at h
    refine W_seq ?_
    refine W_reg tbok ⟨[], []⟩ [] [0, 1, 2, 3] [(1, .adr 0 0 2 0), (2, .adr 1 0 2 0), (3, .adr 2 0 2 0), (7, .p β0 (.slice (.slice (.int .i64))) a1), (8, .p false (.int .i64) (a1.length : Int)), (9, .p false (.int .i64) v2), (10, .p false .bool (decide (v2 < (a1.length : Int))))] [(0, .box [.p β0 (.slice (.slice (.int .i64))) a1, .p β1 (.slice (.int .u32)) a2]), (1, .box [.nils, .nils]), (2, .box [.sl 3, .nils]), (3, .arr 23 (.slice (.int .i64)) out2)] 4 0 [True] (by kernel_rfl) (by kernel_rfl) ⟨trivial, trivial⟩ ?_
    refine to_then ?_
    refine W_seq ?_
    refine W_cond (b := (decide (v2 < (a1.length : Int)))) (β := false) (by kernel_rfl) (fun hb3 => ?_) (fun hb3 => ?_)
    · replace h := h_if hb3 h
      refine W_skip_to ?_
      refine to_then ?_
      refine W_seq ?_
      refine W_block ?_
      refine W_seq ?_
      obtain ⟨c14, h⟩ := h_guard h
      refine W_reg tbok ⟨[], []⟩ [] [0, 1, 2, 3] [(1, .adr 0 0 2 0), (2, .adr 1 0 2 0), (3, .adr 2 0 2 0), (5, .p β0 (.slice (.int .i64)) (a1.getD v2.toNat ([] : List Int))), (7, .p β0 (.slice (.slice (.int .i64))) a1), (8, .p false (.int .i64) (a1.length : Int)), (9, .p false (.int .i64) v2)] [(0, .box [.p β0 (.slice (.slice (.int .i64))) a1, .p β1 (.slice (.int .u32)) a2]), (1, .box [.nils, .nils]), (2, .box [.sl 3, .nils]), (3, .arr 23 (.slice (.int .i64)) out2)] 4 0 [0 ≤ v2 ∧ v2 < (a1.length : Int), True, True] (by kernel_rfl) (by kernel_rfl) ⟨c14, trivial, trivial, trivial⟩ ?_
      refine to_then ?_
      obtain ⟨c17, h⟩ := h_guard h
      obtain ⟨c18, h⟩ := h_guard h
      refine W_regD tbok mixed ⟨[], []⟩ [] [0, 1, 2, 52] [(1, .adr 0 0 2 0), (2, .adr 1 0 2 0), (3, .adr 2 0 2 0), (7, .p β0 (.slice (.slice (.int .i64))) a1), (8, .p false (.int .i64) (a1.length : Int)), (9, .p false (.int .i64) v2)] [(0, .box [.p β0 (.slice (.slice (.int .i64))) a1, .p β1 (.slice (.int .u32)) a2]), (1, .box [.nils, .nils]), (2, .box [.sl 3, .nils]), (3, .arr 23 (.slice (.int .i64)) (out2 ++ ([(([] : List Int) ++ (a1.getD v2.toNat ([] : List Int)))] : List (List Int))))] 4 0 [True, True, True, True, (([] : List Int).length + (a1.getD v2.toNat ([] : List Int)).length) * 8 ≤ 140737488355328 ∧ ([] : List Int).length + (a1.getD v2.toNat ([] : List Int)).length ≤ 9223372036854775807, True, (out2.length + ([(([] : List Int) ++ (a1.getD v2.toNat ([] : List Int)))] : List (List Int)).length) * 24 ≤ 140737488355328 ∧ out2.length + ([(([] : List Int) ++ (a1.getD v2.toNat ([] : List Int)))] : List (List Int)).length ≤ 9223372036854775807, True, True] (by kernel_rfl) (by kernel_rfl) ⟨trivial, trivial, trivial, trivial, c17, trivial, c18, trivial, trivial, trivial⟩ ?_
      refine to_block ?_
      refine to_then ?_
      refine W_reg tbok ⟨[], []⟩ [] [0, 1, 2, 3] [(1, .adr 0 0 2 0), (2, .adr 1 0 2 0), (3, .adr 2 0 2 0), (7, .p β0 (.slice (.slice (.int .i64))) a1), (8, .p false (.int .i64) (a1.length : Int)), (9, .p false (.int .i64) (IntKind.i64.wrap (v2 + (1 : Int))))] [(0, .box [.p β0 (.slice (.slice (.int .i64))) a1, .p β1 (.slice (.int .u32)) a2]), (1, .box [.nils, .nils]), (2, .box [.sl 3, .nils]), (3, .arr 23 (.slice (.int .i64)) (out2 ++ ([(([] : List Int) ++ (a1.getD v2.toNat ([] : List Int)))] : List (List Int))))] 4 0 [True, True] (by kernel_rfl) (by kernel_rfl) ⟨trivial, trivial, trivial⟩ ?_
      obtain rfl := Option.some.inj h
      exact roundB (goal_le (gs := []) (f := [0, 1, 2, 3]) (by kernel_rfl) (by kernel_rfl))
    · replace h := h_else hb3 h
      refine W_exit_to ?_
      refine thenE ?_
      obtain rfl := Option.some.inj h
      refine roundE ?_
      exact postX_to (goal_le (gs := []) (f := [0, 1, 2, 3]) (by kernel_rfl) (by kernel_rfl))
  · clear hp1
    obtain ⟨rfl, hle⟩ := hq
    refine use_to ?_ hle
    refine blockE_eq ?_
    refine to_then ?_
    refine W_seq ?_
    obtain ⟨c20, h⟩ := h_guard h
    refine W_reg tbok ⟨[], []⟩ [] [1, 2, 3, 28] [(2, .adr 0 0 2 0), (3, .adr 1 0 2 0)] [(0, .box [.nils, .nils]), (1, .box [.sl 2, .sl 3]), (2, .arr 23 (.slice (.int .i64)) out3), (3, .arr 37 (.int .u32) (([] : List Int) ++ a2))] 4 0 [True, True, True, (([] : List Int).length + a2.length) * 4 ≤ 140737488355328 ∧ ([] : List Int).length + a2.length ≤ 9223372036854775807, True, True] (by kernel_rfl) (by kernel_rfl) ⟨trivial, trivial, trivial, c20, trivial, trivial, trivial⟩ ?_
    refine to_then ?_
    refine W_seq ?_
    refine W_reg tbok ⟨[], []⟩ [] [0, 2, 3] [(2, .adr 0 0 2 0)] [(0, .box [.sl 1, .sl 2]), (1, .arr 23 (.slice (.int .i64)) out3), (2, .arr 37 (.int .u32) (([] : List Int) ++ a2))] 3 0 [True, True] (by kernel_rfl) (by kernel_rfl) ⟨trivial, trivial, trivial⟩ ?_
    refine to_then ?_
    refine W_ret ?_
    obtain rfl := Option.some.inj h
    exact Ret_intro [(.prod (.slice (.slice (.int .i64))) (.slice (.int .u32)))] (by kernel_rfl)

/-- 'stanza/stanzalaw05.LeastMakes' -/
def stanzalaw05_LeastMakes (out1 : List Int) (ways1 : List Int) (classes1 : Int) : Option (Bool) :=
  ((stanzalaw05_Awake).bind fun (r2 : Bool) =>
  (if (!r2) = true then some false
  else ((stanzalaw05_Made out1 ways1 classes1).bind fun (r4 : (List (List Int)) × List Int) =>
  (if ((r4.1.length : Int) == (0 : Int)) = true then ((least_Check r4.1 r4.2).bind fun (r6 : Bool) =>
  some (!r6))
  else ((stanzalaw05_copied r4.1 r4.2).bind fun (r8 : (List (List Int)) × List Int) =>
  ((least_Make r8.1 r8.2).bind fun ((r11, r12) : ((List (List Int)) × List Int) × Int) =>
  (((if (r12 == (0 : Int)) = true then ((stanzaref04_Least r4.1 r4.2).bind fun (r19 : (List (List Int)) × List Int) =>
  ((stanzaref04_SameAuto r11.1 r11.2 r19.1 r19.2).bind fun (r20 : Bool) =>
  (if r20 = true then ((stanzaref04_SameAuto r4.1 r4.2 r8.1 r8.2).bind fun (r21 : Bool) =>
  some (r21))
  else some (false))))
  else some (false))).bind fun (v1 : Bool) => some v1)))))))

set_option maxRecDepth 100000 in
set_option maxHeartbeats 4000000 in
theorem stanzalaw05_LeastMakes_ok (β0 β1 : Bool) (out1 : List Int) (ways1 : List Int) (classes1 : Int) (res : Bool) (h : stanzalaw05_LeastMakes out1 ways1 classes1 = some res) :
    Pure Try.prog 3 [.p β0 (.slice (.int .u32)) out1, .p β1 (.slice (.int .i64)) ways1, .p false (.int .u8) classes1] (wrapR (encs false [⟨.bool, res⟩])) := by
  refine Pure.of_body tbok Try.func3 (by kernel_rfl) rfl (Nat.le_of_ble_eq_true rfl) (fun Bw w0 => ?_) rfl
  unfold stanzalaw05_LeastMakes at h
  refine W_seq ?_
  refine W_reg tbok ⟨[], []⟩ [] [] [(0, .p β0 (.slice (.int .u32)) out1), (1, .p β1 (.slice (.int .i64)) ways1), (2, .p false (.int .u8) classes1)] [] 0 0 [True] (by kernel_rfl) (by kernel_rfl) ⟨trivial, trivial⟩ ?_
  refine to_then ?_
  refine W_seq ?_
  refine W_seq ?_
  obtain ⟨r2, q2, h⟩ := h_bind h
  refine W_reg tbok ⟨[], [(0, ⟨.p false .bool r2, [], false, [], [], []⟩)]⟩ [] [] [(0, .p β0 (.slice (.int .u32)) out1), (1, .p β1 (.slice (.int .i64)) ways1), (2, .p false (.int .u8) classes1), (12, .p false .bool (!r2))] [] 0 0 [Pure Try.prog 8 [] (.p false .bool r2), True] (by kernel_rfl) (by kernel_rfl) ⟨(stanzalaw05_Awake_ok _ q2), trivial, trivial⟩ ?_
  refine to_then ?_
  refine W_cond (b := (!r2)) (β := false) (by kernel_rfl) (fun hb1 => ?_) (fun hb1 => ?_)
  · replace h := h_if hb1 h
    refine W_seq ?_
    refine W_reg tbok ⟨[], []⟩ [] [] [(6, .p false .bool false)] [] 0 0 [True] (by kernel_rfl) (by kernel_rfl) ⟨trivial, trivial⟩ ?_
    refine to_then ?_
    refine W_ret ?_
    refine thenQ_ret ?_
    obtain rfl := Option.some.inj h
    exact Ret_intro [.bool] (by kernel_rfl)
  · replace h := h_else hb1 h
    refine W_skip_to ?_
    refine to_then ?_
    refine W_seq ?_
    obtain ⟨r4, q4, h⟩ := h_bind h
    refine W_reg tbok ⟨[], [(3, ⟨.agg [.p false (.slice (.slice (.int .i64))) r4.1, .p false (.slice (.int .u32)) r4.2], [false, false, false], false, [true, true, true], [], []⟩)]⟩ [] [32] [(7, .adr 0 0 2 0)] [(0, .box [.p false (.slice (.slice (.int .i64))) r4.1, .p false (.slice (.int .u32)) r4.2])] 1 0 [True, True, True, Pure Try.prog 9 [.p β0 (.slice (.int .u32)) out1, .p β1 (.slice (.int .i64)) ways1, .p false (.int .u8) classes1] (.agg [.p false (.slice (.slice (.int .i64))) r4.1, .p false (.slice (.int .u32)) r4.2]), True, True] (by kernel_rfl) (by kernel_rfl) ⟨trivial, trivial, trivial, (stanzalaw05_Made_ok β0 β1 out1 ways1 classes1 _ q4), trivial, trivial, trivial⟩ ?_
    refine to_then ?_
    refine W_seq ?_
    refine W_seq ?_
    refine W_reg tbok ⟨[], []⟩ [] [0] [(7, .adr 0 0 2 0), (20, .p false .bool ((r4.1.length : Int) == (0 : Int)))] [(0, .box [.p false (.slice (.slice (.int .i64))) r4.1, .p false (.slice (.int .u32)) r4.2])] 1 0 [True, True, True, True] (by kernel_rfl) (by kernel_rfl) ⟨trivial, trivial, trivial, trivial, trivial⟩ ?_
    refine to_then ?_
    refine W_cond (b := ((r4.1.length : Int) == (0 : Int))) (β := false) (by kernel_rfl) (fun hb2 => ?_) (fun hb2 => ?_)
    · replace h := h_if hb2 h
      refine W_seq ?_
      obtain ⟨r6, q6, h⟩ := h_bind h
      refine W_reg tbok ⟨[], [(1, ⟨.p false .bool r6, [false], false, [true], [], []⟩)]⟩ [] [] [(6, .p false .bool (!r6))] [] 0 0 [True, Pure Try.prog 10 [.agg [.p false (.slice (.slice (.int .i64))) r4.1, .p false (.slice (.int .u32)) r4.2]] (.p false .bool r6), True, True] (by kernel_rfl) (by kernel_rfl) ⟨trivial, (least_Check_ok false false r4.1 r4.2 _ q6), trivial, trivial, trivial⟩ ?_
      refine to_then ?_
      refine W_ret ?_
      refine thenQ_ret ?_
      obtain rfl := Option.some.inj h
      exact Ret_intro [.bool] (by kernel_rfl)
    · replace h := h_else hb2 h
      refine W_skip_to ?_
      refine to_then ?_
      refine W_seq ?_
      obtain ⟨r8, q8, h⟩ := h_bind h
      refine W_reg tbok ⟨[], [(1, ⟨.agg [.p false (.slice (.slice (.int .i64))) r8.1, .p false (.slice (.int .u32)) r8.2], [false], false, [true], [], []⟩)]⟩ [] [0, 17] [(7, .adr 0 0 2 0), (8, .adr 1 0 2 0)] [(0, .box [.p false (.slice (.slice (.int .i64))) r4.1, .p false (.slice (.int .u32)) r4.2]), (1, .box [.p false (.slice (.slice (.int .i64))) r8.1, .p false (.slice (.int .u32)) r8.2])] 2 0 [True, Pure Try.prog 11 [.agg [.p false (.slice (.slice (.int .i64))) r4.1, .p false (.slice (.int .u32)) r4.2]] (.agg [.p false (.slice (.slice (.int .i64))) r8.1, .p false (.slice (.int .u32)) r8.2]), True, True] (by kernel_rfl) (by kernel_rfl) ⟨trivial, (stanzalaw05_copied_ok false false r4.1 r4.2 _ q8), trivial, trivial, trivial⟩ ?_
      refine to_then ?_
      refine W_seq ?_
      obtain ⟨⟨r11, r12⟩, q10, h⟩ := h_bind h
      refine W_reg tbok ⟨[], [(1, ⟨.tup [.agg [.p false (.slice (.slice (.int .i64))) r11.1, .p false (.slice (.int .u32)) r11.2], .p false (.int .i64) r12], [false], false, [true], [], []⟩)]⟩ [] [0, 1, 42] [(7, .adr 0 0 2 0), (8, .adr 1 0 2 0), (9, .adr 2 0 2 0), (10, .p false (.int .i64) r12)] [(0, .box [.p false (.slice (.slice (.int .i64))) r4.1, .p false (.slice (.int .u32)) r4.2]), (1, .box [.p false (.slice (.slice (.int .i64))) r8.1, .p false (.slice (.int .u32)) r8.2]), (2, .box [.p false (.slice (.slice (.int .i64))) r11.1, .p false (.slice (.int .u32)) r11.2])] 3 0 [True, Pure Try.prog 12 [.agg [.p false (.slice (.slice (.int .i64))) r8.1, .p false (.slice (.int .u32)) r8.2]] (.tup [.agg [.p false (.slice (.slice (.int .i64))) r11.1, .p false (.slice (.int .u32)) r11.2], .p false (.int .i64) r12]), True, True, True, True, True, True] (by kernel_rfl) (by kernel_rfl) ⟨trivial, (least_Make_ok false false r8.1 r8.2 _ q10), trivial, trivial, trivial, trivial, trivial, trivial, trivial⟩ ?_
      refine to_then ?_
      refine W_seq ?_
      obtain ⟨v1, hp1, h⟩ := h_bind h
      refine W.mono (Q := (postN Try.f3.ntmps (fun (v1 : Bool) => mkSt [(6, .p false .bool v1)] [] 0)) v1) ?_ (fun e σ' hq => ?_)
      · replace h := hp1
        clear hp1
        rcases Bool.eq_false_or_eq_true (r12 == (0 : Int)) with hb7 | hb7
        · replace h := h_if hb7 h
          obtain ⟨r19, q17, h⟩ := h_bind h
          obtain ⟨r20, q18, h⟩ := h_bind h
          rcases Bool.eq_false_or_eq_true r20 with hb8 | hb8
          · replace h := h_if hb8 h
            obtain ⟨r21, q19, h⟩ := h_bind h
            refine W_regD tbok mixed ⟨[(2, true), (7, true), (8, true), (12, true)], [(5, ⟨.agg [.p false (.slice (.slice (.int .i64))) r19.1, .p false (.slice (.int .u32)) r19.2], [false], false, [true], [], []⟩), (6, ⟨.p false .bool r20, [false, false], false, [true, true], [], []⟩), (11, ⟨.p false .bool r21, [false, false], false, [true, true], [], []⟩)]⟩ [] [] [(6, .p false .bool r21)] [] 0 0 [True, True, True, (r12 == (0 : Int)) = true ∧ True, (r12 == (0 : Int)) = true ∧ True, (r12 == (0 : Int)) = true ∧ Pure Try.prog 14 [.agg [.p false (.slice (.slice (.int .i64))) r4.1, .p false (.slice (.int .u32)) r4.2]] (.agg [.p false (.slice (.slice (.int .i64))) r19.1, .p false (.slice (.int .u32)) r19.2]), (r12 == (0 : Int)) = true ∧ Pure Try.prog 13 [.agg [.p false (.slice (.slice (.int .i64))) r11.1, .p false (.slice (.int .u32)) r11.2], .agg [.p false (.slice (.slice (.int .i64))) r19.1, .p false (.slice (.int .u32)) r19.2]] (.p false .bool r20), (r12 == (0 : Int)) = true, True, r20 = true ∧ True, r20 = true ∧ True, r20 = true ∧ Pure Try.prog 13 [.agg [.p false (.slice (.slice (.int .i64))) r4.1, .p false (.slice (.int .u32)) r4.2], .agg [.p false (.slice (.slice (.int .i64))) r8.1, .p false (.slice (.int .u32)) r8.2]] (.p false .bool r21), r20 = true, True] (by kernel_rfl) (by kernel_rfl) ⟨trivial, trivial, trivial, ⟨hb7, trivial⟩, ⟨hb7, trivial⟩, ⟨hb7, (stanzaref04_Least_ok false false r4.1 r4.2 _ q17)⟩, ⟨hb7, (stanzaref04_SameAuto_ok false false false false r11.1 r11.2 r19.1 r19.2 _ q18)⟩, hb7, trivial, ⟨hb8, trivial⟩, ⟨hb8, trivial⟩, ⟨hb8, (stanzaref04_SameAuto_ok false false false false r4.1 r4.2 r8.1 r8.2 _ q19)⟩, hb8, trivial, trivial⟩ ?_
            obtain rfl := Option.some.inj h
            exact postN_to (goal_le (gs := []) (f := []) (by kernel_rfl) (by kernel_rfl))
          · replace h := h_else hb8 h
            refine W_regD tbok mixed ⟨[(2, true), (7, true), (8, false), (12, false)], [(5, ⟨.agg [.p false (.slice (.slice (.int .i64))) r19.1, .p false (.slice (.int .u32)) r19.2], [false], false, [true], [], []⟩), (6, ⟨.p false .bool r20, [false, false], false, [true, true], [], []⟩)]⟩ [] [] [(6, .p false .bool false)] [] 0 0 [True, True, True, (r12 == (0 : Int)) = true ∧ True, (r12 == (0 : Int)) = true ∧ True, (r12 == (0 : Int)) = true ∧ Pure Try.prog 14 [.agg [.p false (.slice (.slice (.int .i64))) r4.1, .p false (.slice (.int .u32)) r4.2]] (.agg [.p false (.slice (.slice (.int .i64))) r19.1, .p false (.slice (.int .u32)) r19.2]), (r12 == (0 : Int)) = true ∧ Pure Try.prog 13 [.agg [.p false (.slice (.slice (.int .i64))) r11.1, .p false (.slice (.int .u32)) r11.2], .agg [.p false (.slice (.slice (.int .i64))) r19.1, .p false (.slice (.int .u32)) r19.2]] (.p false .bool r20), (r12 == (0 : Int)) = true, True, r20 = false, r20 = false, r20 = false, r20 = false, True] (by kernel_rfl) (by kernel_rfl) ⟨trivial, trivial, trivial, ⟨hb7, trivial⟩, ⟨hb7, trivial⟩, ⟨hb7, (stanzaref04_Least_ok false false r4.1 r4.2 _ q17)⟩, ⟨hb7, (stanzaref04_SameAuto_ok false false false false r11.1 r11.2 r19.1 r19.2 _ q18)⟩, hb7, trivial, hb8, hb8, hb8, hb8, trivial, trivial⟩ ?_
            obtain rfl := Option.some.inj h
            exact postN_to (goal_le (gs := []) (f := []) (by kernel_rfl) (by kernel_rfl))
        · replace h := h_else hb7 h
          refine W_regD tbok mixed ⟨[(2, false), (7, false), (8, false), (12, false)], []⟩ [] [] [(6, .p false .bool false)] [] 0 0 [True, True, True, (r12 == (0 : Int)) = false, (r12 == (0 : Int)) = false, (r12 == (0 : Int)) = false, (r12 == (0 : Int)) = false, (r12 == (0 : Int)) = false, True, false = false, false = false, false = false, false = false, True] (by kernel_rfl) (by kernel_rfl) ⟨trivial, trivial, trivial, hb7, hb7, hb7, hb7, hb7, trivial, rfl, rfl, rfl, rfl, trivial, trivial⟩ ?_
          obtain rfl := Option.some.inj h
          exact postN_to (goal_le (gs := []) (f := []) (by kernel_rfl) (by kernel_rfl))
      · clear hp1
        obtain ⟨rfl, hle⟩ := hq
        refine use_to ?_ hle
        refine to_then ?_
        refine W_ret ?_
        obtain rfl := Option.some.inj h
        exact Ret_intro [.bool] (by kernel_rfl)

end
end Go.Proofs.Ytnnbofkcfooljaa.T
