/- Functions of the program as functions on data, and that the program's own come to them. -/
import Derived.Test.YtnnbofkcfooljaaTvT05x0
namespace Go.Proofs.Ytnnbofkcfooljaa.T
open Go Go.Tv Go.Proofs
noncomputable section

/-- a loop of 'stanza/stanzalaw05.Made': one round -/
def stanzalaw05_Made_L1 (d1 : List Int) (i1 : List Int) (x1 : Int) (v22 : Int) : ((List Int) × Int) → Option (((List Int) × Int) ⊕ (List Int)) := fun ((v29, v30) : (List Int) × Int) =>
  (if (decide (v30 < (IntKind.i64.wrap (Int.tmod x1 (4 : Int))))) = true then (((if (decide ((i1.length : Int) > (0 : Int))) = true then (if ¬ (i1.length : Int) = 0 then (if 0 ≤ (Int.tmod (IntKind.i64.wrap ((IntKind.i64.wrap (v22 * (IntKind.i64.wrap (Int.tmod x1 (4 : Int))))) + v30)) (i1.length : Int)) ∧ (Int.tmod (IntKind.i64.wrap ((IntKind.i64.wrap (v22 * (IntKind.i64.wrap (Int.tmod x1 (4 : Int))))) + v30)) (i1.length : Int)) < (i1.length : Int) then some ((i1.getD ((Int.tmod (IntKind.i64.wrap ((IntKind.i64.wrap (v22 * (IntKind.i64.wrap (Int.tmod x1 (4 : Int))))) + v30)) (i1.length : Int)).toNat) (0 : Int))) else none) else none)
  else some ((0 : Int)))).bind fun (v32 : Int) => (if ¬ (IntKind.u64.wrap (min (d1.length : Int) (30 : Int))) = 0 then (if (v29.length + ([(IntKind.i64.wrap (Int.tmod (IntKind.u64.wrap v32) (IntKind.u64.wrap (min (d1.length : Int) (30 : Int)))))] : List Int).length) * 8 ≤ 140737488355328 ∧ v29.length + ([(IntKind.i64.wrap (Int.tmod (IntKind.u64.wrap v32) (IntKind.u64.wrap (min (d1.length : Int) (30 : Int)))))] : List Int).length ≤ 9223372036854775807 then some (Sum.inl ((v29 ++ ([(IntKind.i64.wrap (Int.tmod (IntKind.u64.wrap v32) (IntKind.u64.wrap (min (d1.length : Int) (30 : Int)))))] : List Int)), (IntKind.i64.wrap (v30 + (1 : Int))))) else none) else none))
  else some (Sum.inr v29))

/-- a loop of 'stanza/stanzalaw05.Made': one round -/
def stanzalaw05_Made_L2 (d1 : List Int) (i1 : List Int) (x1 : Int) : ((List (List Int)) × (List Int) × Int) → Option (((List (List Int)) × (List Int) × Int) ⊕ ((List (List Int)) × List Int)) := fun ((v20, v21, v22) : (List (List Int)) × (List Int) × Int) =>
  (if (decide (v22 < (min (d1.length : Int) (30 : Int)))) = true then ((iter (stanzalaw05_Made_L1 d1 i1 x1 v22) (([] : List Int), (0 : Int))).bind fun (v31 : List Int) => (if (v20.length + ([v31] : List (List Int)).length) * 24 ≤ 140737488355328 ∧ v20.length + ([v31] : List (List Int)).length ≤ 9223372036854775807 then (if 0 ≤ v22 ∧ v22 < (d1.length : Int) then (if ¬ (3 : Int) = 0 then (if (v21.length + ([(Int.tmod (d1.getD v22.toNat (0 : Int)) (3 : Int))] : List Int).length) * 4 ≤ 140737488355328 ∧ v21.length + ([(Int.tmod (d1.getD v22.toNat (0 : Int)) (3 : Int))] : List Int).length ≤ 9223372036854775807 then some (Sum.inl ((v20 ++ ([v31] : List (List Int))), (v21 ++ ([(Int.tmod (d1.getD v22.toNat (0 : Int)) (3 : Int))] : List Int)), (IntKind.i64.wrap (v22 + (1 : Int))))) else none) else none) else none) else none))
  else some (Sum.inr (v20, v21)))

/-- 'stanza/stanzalaw05.Made' -/
def stanzalaw05_Made (d1 : List Int) (i1 : List Int) (x1 : Int) : Option ((List (List Int)) × List Int) :=
  (if ¬ (4 : Int) = 0 then ((iter (stanzalaw05_Made_L2 d1 i1 x1) (([] : List (List Int)), ([] : List Int), (0 : Int))).bind fun ((v23, v24) : (List (List Int)) × List Int) => some (v23, v24)) else none)

set_option maxRecDepth 100000 in
set_option maxHeartbeats 4000000 in
theorem stanzalaw05_Made_ok (β0 β1 : Bool) (d1 : List Int) (i1 : List Int) (x1 : Int) (res : (List (List Int)) × List Int) (h : stanzalaw05_Made d1 i1 x1 = some res) :
    Pure Try.prog 9 [.p β0 (.slice (.int .u32)) d1, .p β1 (.slice (.int .i64)) i1, .p false (.int .u8) x1] (wrapR (encs false [⟨(.prod (.slice (.slice (.int .i64))) (.slice (.int .u32))), res⟩])) := by
  refine Pure.of_body tbok Try.func9 (by kernel_rfl) rfl (Nat.le_of_ble_eq_true rfl) (fun Bw w0 => ?_) rfl
  unfold stanzalaw05_Made at h
  refine W_seq ?_
  refine W_reg tbok ⟨[], []⟩ [] [0] [(0, .p β0 (.slice (.int .u32)) d1), (1, .p β1 (.slice (.int .i64)) i1), (2, .p false (.int .u8) x1), (6, .adr 0 0 2 0)] [(0, .box [.nils, .nils])] 1 0 [True] (by kernel_rfl) (by kernel_rfl) ⟨trivial, trivial⟩ ?_
  refine to_then ?_
  refine W_seq ?_
  refine W_reg tbok ⟨[], []⟩ [] [0, 9] [(0, .p β0 (.slice (.int .u32)) d1), (1, .p β1 (.slice (.int .i64)) i1), (2, .p false (.int .u8) x1), (6, .adr 0 0 2 0), (7, .adr 1 0 2 0)] [(0, .box [.nils, .nils]), (1, .box [.nils, .nils])] 2 0 [True, True, True] (by kernel_rfl) (by kernel_rfl) ⟨trivial, trivial, trivial, trivial⟩ ?_
  refine to_then ?_
  refine W_seq ?_
  refine W_reg tbok ⟨[], []⟩ [] [0, 1] [(0, .p β0 (.slice (.int .u32)) d1), (1, .p β1 (.slice (.int .i64)) i1), (2, .p false (.int .u8) x1), (6, .adr 0 0 2 0), (7, .adr 1 0 2 0), (8, .p false (.int .i64) (min (d1.length : Int) (30 : Int)))] [(0, .box [.nils, .nils]), (1, .box [.nils, .nils])] 2 0 [True, True, True, True] (by kernel_rfl) (by kernel_rfl) ⟨trivial, trivial, trivial, trivial, trivial⟩ ?_
  refine to_then ?_
  refine W_seq ?_
  obtain ⟨c2, h⟩ := h_guard h
  refine W_reg tbok ⟨[], []⟩ [] [0, 1] [(0, .p β0 (.slice (.int .u32)) d1), (1, .p β1 (.slice (.int .i64)) i1), (6, .adr 0 0 2 0), (7, .adr 1 0 2 0), (8, .p false (.int .i64) (min (d1.length : Int) (30 : Int))), (9, .p false (.int .i64) (IntKind.i64.wrap (Int.tmod x1 (4 : Int))))] [(0, .box [.nils, .nils]), (1, .box [.nils, .nils])] 2 0 [True, ¬ (4 : Int) = 0, True, True] (by kernel_rfl) (by kernel_rfl) ⟨trivial, c2, trivial, trivial, trivial⟩ ?_
  refine to_then ?_
  refine W_seq ?_
  refine W_seq ?_
  refine W_reg tbok ⟨[], []⟩ [] [0, 1] [(0, .p β0 (.slice (.int .u32)) d1), (1, .p β1 (.slice (.int .i64)) i1), (6, .adr 0 0 2 0), (7, .adr 1 0 2 0), (8, .p false (.int .i64) (min (d1.length : Int) (30 : Int))), (9, .p false (.int .i64) (IntKind.i64.wrap (Int.tmod x1 (4 : Int)))), (21, .p false (.int .i64) (min (d1.length : Int) (30 : Int))), (22, .p false (.int .i64) (0 : Int))] [(0, .box [.nils, .nils]), (1, .box [.nils, .nils])] 2 0 [True, True] (by kernel_rfl) (by kernel_rfl) ⟨trivial, trivial, trivial⟩ ?_
  refine to_then ?_
  refine W_block ?_
  obtain ⟨r1, hp13, h⟩ := h_bind h
  refine W.mono (Q := (postX Try.f9.ntmps 0 (fun ((v23, v24) : (List (List Int)) × List Int) => mkSt [(6, .adr 0 0 2 0), (7, .adr 1 0 2 0)] [(0, .box [.nils, .nils]), (1, .box [.sl 2, .sl 3]), (2, .arr 23 (.slice (.int .i64)) v23), (3, .arr 37 (.int .u32) v24)] 4)) r1) (W_iter (f := fun ((v20, v21, v22) : (List (List Int)) × (List Int) × Int) => mkSt [(0, .p β0 (.slice (.int .u32)) d1), (1, .p β1 (.slice (.int .i64)) i1), (6, .adr 0 0 2 0), (7, .adr 1 0 2 0), (8, .p false (.int .i64) (min (d1.length : Int) (30 : Int))), (9, .p false (.int .i64) (IntKind.i64.wrap (Int.tmod x1 (4 : Int)))), (21, .p false (.int .i64) (min (d1.length : Int) (30 : Int))), (22, .p false (.int .i64) v22)] [(0, .box [.nils, .nils]), (1, .box [.sl 2, .sl 3]), (2, .arr 23 (.slice (.int .i64)) v20), (3, .arr 37 (.int .u32) v21)] 4) (Q := (postX Try.f9.ntmps 0 (fun ((v23, v24) : (List (List Int)) × List Int) => mkSt [(6, .adr 0 0 2 0), (7, .adr 1 0 2 0)] [(0, .box [.nils, .nils]), (1, .box [.sl 2, .sl 3]), (2, .arr 23 (.slice (.int .i64)) v23), (3, .arr 37 (.int .u32) v24)] 4))) hp13 (goal_le (gs := [.nilC 1 0 2 23 (.slice (.int .i64)), .nilC 1 1 3 37 (.int .u32)]) (f := [0, 1, 2, 3]) (by kernel_rfl) (by kernel_rfl)) (fun y o ho => ?_)) (fun e σ' hq => ?_)
  · obtain ⟨v20, v21, v22⟩ := y
    replace h := ho
    clear ho hp13
    unfold stanzalaw05_Made_L2 at h
    refine W_seq ?_
    refine W_reg tbok ⟨[], []⟩ [] [0, 1, 2, 3] [(0, .p β0 (.slice (.int .u32)) d1), (1, .p β1 (.slice (.int .i64)) i1), (6, .adr 0 0 2 0), (7, .adr 1 0 2 0), (8, .p false (.int .i64) (min (d1.length : Int) (30 : Int))), (9, .p false (.int .i64) (IntKind.i64.wrap (Int.tmod x1 (4 : Int)))), (21, .p false (.int .i64) (min (d1.length : Int) (30 : Int))), (22, .p false (.int .i64) v22), (23, .p false .bool (decide (v22 < (min (d1.length : Int) (30 : Int)))))] [(0, .box [.nils, .nils]), (1, .box [.sl 2, .sl 3]), (2, .arr 23 (.slice (.int .i64)) v20), (3, .arr 37 (.int .u32) v21)] 4 0 [True] (by kernel_rfl) (by kernel_rfl) ⟨trivial, trivial⟩ ?_
    refine to_then ?_
    refine W_seq ?_
    refine W_cond (b := (decide (v22 < (min (d1.length : Int) (30 : Int))))) (β := false) (by kernel_rfl) (fun hb21 => ?_) (fun hb21 => ?_)
    · replace h := h_if hb21 h
      refine W_skip_to ?_
      refine to_then ?_
      refine W_seq ?_
      refine W_block ?_
      refine W_seq ?_
      refine W_reg tbok ⟨[], []⟩ [] [0, 1, 2, 3] [(0, .p β0 (.slice (.int .u32)) d1), (1, .p β1 (.slice (.int .i64)) i1), (6, .adr 0 0 2 0), (7, .adr 1 0 2 0), (8, .p false (.int .i64) (min (d1.length : Int) (30 : Int))), (9, .p false (.int .i64) (IntKind.i64.wrap (Int.tmod x1 (4 : Int)))), (10, .p false (.int .i64) v22), (21, .p false (.int .i64) (min (d1.length : Int) (30 : Int))), (22, .p false (.int .i64) v22)] [(0, .box [.nils, .nils]), (1, .box [.sl 2, .sl 3]), (2, .arr 23 (.slice (.int .i64)) v20), (3, .arr 37 (.int .u32) v21)] 4 0 [True, True] (by kernel_rfl) (by kernel_rfl) ⟨trivial, trivial, trivial⟩ ?_
      refine to_then ?_
      refine W_seq ?_
      refine W_reg tbok ⟨[], []⟩ [] [0, 1, 2, 3] [(0, .p β0 (.slice (.int .u32)) d1), (1, .p β1 (.slice (.int .i64)) i1), (6, .adr 0 0 2 0), (7, .adr 1 0 2 0), (8, .p false (.int .i64) (min (d1.length : Int) (30 : Int))), (9, .p false (.int .i64) (IntKind.i64.wrap (Int.tmod x1 (4 : Int)))), (10, .p false (.int .i64) v22), (11, .nils), (21, .p false (.int .i64) (min (d1.length : Int) (30 : Int))), (22, .p false (.int .i64) v22)] [(0, .box [.nils, .nils]), (1, .box [.sl 2, .sl 3]), (2, .arr 23 (.slice (.int .i64)) v20), (3, .arr 37 (.int .u32) v21)] 4 0 [True] (by kernel_rfl) (by kernel_rfl) ⟨trivial, trivial⟩ ?_
      refine to_then ?_
      refine W_seq ?_
      refine W_seq ?_
      refine W_reg tbok ⟨[], []⟩ [] [0, 1, 2, 3] [(0, .p β0 (.slice (.int .u32)) d1), (1, .p β1 (.slice (.int .i64)) i1), (6, .adr 0 0 2 0), (7, .adr 1 0 2 0), (8, .p false (.int .i64) (min (d1.length : Int) (30 : Int))), (9, .p false (.int .i64) (IntKind.i64.wrap (Int.tmod x1 (4 : Int)))), (10, .p false (.int .i64) v22), (11, .nils), (21, .p false (.int .i64) (min (d1.length : Int) (30 : Int))), (22, .p false (.int .i64) v22), (25, .p false (.int .i64) (IntKind.i64.wrap (Int.tmod x1 (4 : Int)))), (26, .p false (.int .i64) (0 : Int))] [(0, .box [.nils, .nils]), (1, .box [.sl 2, .sl 3]), (2, .arr 23 (.slice (.int .i64)) v20), (3, .arr 37 (.int .u32) v21)] 4 0 [True, True] (by kernel_rfl) (by kernel_rfl) ⟨trivial, trivial, trivial⟩ ?_
      refine to_then ?_
      refine W_block ?_
      obtain ⟨v31, hp12, h⟩ := h_bind h
      refine W.mono (Q := (postX Try.f9.ntmps 2 (fun (v31 : List Int) => mkSt [(0, .p β0 (.slice (.int .u32)) d1), (1, .p β1 (.slice (.int .i64)) i1), (6, .adr 0 0 2 0), (7, .adr 1 0 2 0), (8, .p false (.int .i64) (min (d1.length : Int) (30 : Int))), (9, .p false (.int .i64) (IntKind.i64.wrap (Int.tmod x1 (4 : Int)))), (10, .p false (.int .i64) v22), (11, .sl 4), (21, .p false (.int .i64) (min (d1.length : Int) (30 : Int))), (22, .p false (.int .i64) v22)] [(0, .box [.nils, .nils]), (1, .box [.sl 2, .sl 3]), (2, .arr 23 (.slice (.int .i64)) v20), (3, .arr 37 (.int .u32) v21), (4, .arr 3 (.int .i64) v31)] 5)) v31) (W_iter (f := fun ((v29, v30) : (List Int) × Int) => mkSt [(0, .p β0 (.slice (.int .u32)) d1), (1, .p β1 (.slice (.int .i64)) i1), (6, .adr 0 0 2 0), (7, .adr 1 0 2 0), (8, .p false (.int .i64) (min (d1.length : Int) (30 : Int))), (9, .p false (.int .i64) (IntKind.i64.wrap (Int.tmod x1 (4 : Int)))), (10, .p false (.int .i64) v22), (11, .sl 4), (21, .p false (.int .i64) (min (d1.length : Int) (30 : Int))), (22, .p false (.int .i64) v22), (25, .p false (.int .i64) (IntKind.i64.wrap (Int.tmod x1 (4 : Int)))), (26, .p false (.int .i64) v30)] [(0, .box [.nils, .nils]), (1, .box [.sl 2, .sl 3]), (2, .arr 23 (.slice (.int .i64)) v20), (3, .arr 37 (.int .u32) v21), (4, .arr 3 (.int .i64) v29)] 5) (Q := (postX Try.f9.ntmps 2 (fun (v31 : List Int) => mkSt [(0, .p β0 (.slice (.int .u32)) d1), (1, .p β1 (.slice (.int .i64)) i1), (6, .adr 0 0 2 0), (7, .adr 1 0 2 0), (8, .p false (.int .i64) (min (d1.length : Int) (30 : Int))), (9, .p false (.int .i64) (IntKind.i64.wrap (Int.tmod x1 (4 : Int)))), (10, .p false (.int .i64) v22), (11, .sl 4), (21, .p false (.int .i64) (min (d1.length : Int) (30 : Int))), (22, .p false (.int .i64) v22)] [(0, .box [.nils, .nils]), (1, .box [.sl 2, .sl 3]), (2, .arr 23 (.slice (.int .i64)) v20), (3, .arr 37 (.int .u32) v21), (4, .arr 3 (.int .i64) v31)] 5))) hp12 (goal_le (gs := [.nilS 11 4 3 (.int .i64)]) (f := [0, 1, 2, 3, 4]) (by kernel_rfl) (by kernel_rfl)) (fun y o ho => ?_)) (fun e σ' hq => ?_)
      · obtain ⟨v29, v30⟩ := y
        replace h := ho
        clear ho hp12
        unfold stanzalaw05_Made_L1 at h
        refine W_seq ?_
        refine W_reg tbok ⟨[], []⟩ [] [0, 1, 2, 3, 4] [(0, .p β0 (.slice (.int .u32)) d1), (1, .p β1 (.slice (.int .i64)) i1), (6, .adr 0 0 2 0), (7, .adr 1 0 2 0), (8, .p false (.int .i64) (min (d1.length : Int) (30 : Int))), (9, .p false (.int .i64) (IntKind.i64.wrap (Int.tmod x1 (4 : Int)))), (10, .p false (.int .i64) v22), (11, .sl 4), (21, .p false (.int .i64) (min (d1.length : Int) (30 : Int))), (22, .p false (.int .i64) v22), (25, .p false (.int .i64) (IntKind.i64.wrap (Int.tmod x1 (4 : Int)))), (26, .p false (.int .i64) v30), (27, .p false .bool (decide (v30 < (IntKind.i64.wrap (Int.tmod x1 (4 : Int))))))] [(0, .box [.nils, .nils]), (1, .box [.sl 2, .sl 3]), (2, .arr 23 (.slice (.int .i64)) v20), (3, .arr 37 (.int .u32) v21), (4, .arr 3 (.int .i64) v29)] 5 0 [True] (by kernel_rfl) (by kernel_rfl) ⟨trivial, trivial⟩ ?_
        refine to_then ?_
        refine W_seq ?_
        refine W_cond (b := (decide (v30 < (IntKind.i64.wrap (Int.tmod x1 (4 : Int)))))) (β := false) (by kernel_rfl) (fun hb28 => ?_) (fun hb28 => ?_)
        · replace h := h_if hb28 h
          refine W_skip_to ?_
          refine to_then ?_
          refine W_seq ?_
          refine W_block ?_
          refine W_seq ?_
          refine W_reg tbok ⟨[], []⟩ [] [0, 1, 2, 3, 4] [(0, .p β0 (.slice (.int .u32)) d1), (1, .p β1 (.slice (.int .i64)) i1), (6, .adr 0 0 2 0), (7, .adr 1 0 2 0), (8, .p false (.int .i64) (min (d1.length : Int) (30 : Int))), (9, .p false (.int .i64) (IntKind.i64.wrap (Int.tmod x1 (4 : Int)))), (10, .p false (.int .i64) v22), (11, .sl 4), (12, .p false (.int .i64) v30), (21, .p false (.int .i64) (min (d1.length : Int) (30 : Int))), (22, .p false (.int .i64) v22), (25, .p false (.int .i64) (IntKind.i64.wrap (Int.tmod x1 (4 : Int)))), (26, .p false (.int .i64) v30)] [(0, .box [.nils, .nils]), (1, .box [.sl 2, .sl 3]), (2, .arr 23 (.slice (.int .i64)) v20), (3, .arr 37 (.int .u32) v21), (4, .arr 3 (.int .i64) v29)] 5 0 [True, True] (by kernel_rfl) (by kernel_rfl) ⟨trivial, trivial, trivial⟩ ?_
          refine to_then ?_
          refine W_seq ?_
          refine W_reg tbok ⟨[], []⟩ [] [0, 1, 2, 3, 4] [(0, .p β0 (.slice (.int .u32)) d1), (1, .p β1 (.slice (.int .i64)) i1), (6, .adr 0 0 2 0), (7, .adr 1 0 2 0), (8, .p false (.int .i64) (min (d1.length : Int) (30 : Int))), (9, .p false (.int .i64) (IntKind.i64.wrap (Int.tmod x1 (4 : Int)))), (10, .p false (.int .i64) v22), (11, .sl 4), (12, .p false (.int .i64) v30), (13, .p false (.int .i64) (0 : Int)), (21, .p false (.int .i64) (min (d1.length : Int) (30 : Int))), (22, .p false (.int .i64) v22), (25, .p false (.int .i64) (IntKind.i64.wrap (Int.tmod x1 (4 : Int)))), (26, .p false (.int .i64) v30)] [(0, .box [.nils, .nils]), (1, .box [.sl 2, .sl 3]), (2, .arr 23 (.slice (.int .i64)) v20), (3, .arr 37 (.int .u32) v21), (4, .arr 3 (.int .i64) v29)] 5 0 [True] (by kernel_rfl) (by kernel_rfl) ⟨trivial, trivial⟩ ?_
          refine to_then ?_
          refine W_seq ?_
          refine W_seq ?_
          refine W_reg tbok ⟨[], []⟩ [] [0, 1, 2, 3, 4] [(0, .p β0 (.slice (.int .u32)) d1), (1, .p β1 (.slice (.int .i64)) i1), (6, .adr 0 0 2 0), (7, .adr 1 0 2 0), (8, .p false (.int .i64) (min (d1.length : Int) (30 : Int))), (9, .p false (.int .i64) (IntKind.i64.wrap (Int.tmod x1 (4 : Int)))), (10, .p false (.int .i64) v22), (11, .sl 4), (12, .p false (.int .i64) v30), (13, .p false (.int .i64) (0 : Int)), (21, .p false (.int .i64) (min (d1.length : Int) (30 : Int))), (22, .p false (.int .i64) v22), (25, .p false (.int .i64) (IntKind.i64.wrap (Int.tmod x1 (4 : Int)))), (26, .p false (.int .i64) v30), (31, .p false .bool (decide ((i1.length : Int) > (0 : Int))))] [(0, .box [.nils, .nils]), (1, .box [.sl 2, .sl 3]), (2, .arr 23 (.slice (.int .i64)) v20), (3, .arr 37 (.int .u32) v21), (4, .arr 3 (.int .i64) v29)] 5 0 [True, True, True] (by kernel_rfl) (by kernel_rfl) ⟨trivial, trivial, trivial, trivial⟩ ?_
          refine to_then ?_
          obtain ⟨v32, hp11, h⟩ := h_bind h
          refine W.mono (Q := (postN Try.f9.ntmps (fun (v32 : Int) => mkSt [(0, .p β0 (.slice (.int .u32)) d1), (1, .p β1 (.slice (.int .i64)) i1), (6, .adr 0 0 2 0), (7, .adr 1 0 2 0), (8, .p false (.int .i64) (min (d1.length : Int) (30 : Int))), (9, .p false (.int .i64) (IntKind.i64.wrap (Int.tmod x1 (4 : Int)))), (10, .p false (.int .i64) v22), (11, .sl 4), (13, .p false (.int .i64) v32), (21, .p false (.int .i64) (min (d1.length : Int) (30 : Int))), (22, .p false (.int .i64) v22), (25, .p false (.int .i64) (IntKind.i64.wrap (Int.tmod x1 (4 : Int)))), (26, .p false (.int .i64) v30)] [(0, .box [.nils, .nils]), (1, .box [.sl 2, .sl 3]), (2, .arr 23 (.slice (.int .i64)) v20), (3, .arr 37 (.int .u32) v21), (4, .arr 3 (.int .i64) v29)] 5)) v32) ?_ (fun e σ' hq => ?_)
          · replace h := hp11
            clear hp11
            refine W_cond (b := (decide ((i1.length : Int) > (0 : Int)))) (β := false) (by kernel_rfl) (fun hb30 => ?_) (fun hb30 => ?_)
            · replace h := h_if hb30 h
              obtain ⟨c121, h⟩ := h_guard h
              obtain ⟨c122, h⟩ := h_guard h
              refine W_reg tbok ⟨[], []⟩ [] [0, 1, 2, 3, 4] [(0, .p β0 (.slice (.int .u32)) d1), (1, .p β1 (.slice (.int .i64)) i1), (6, .adr 0 0 2 0), (7, .adr 1 0 2 0), (8, .p false (.int .i64) (min (d1.length : Int) (30 : Int))), (9, .p false (.int .i64) (IntKind.i64.wrap (Int.tmod x1 (4 : Int)))), (10, .p false (.int .i64) v22), (11, .sl 4), (13, .p false (.int .i64) (i1.getD ((Int.tmod (IntKind.i64.wrap ((IntKind.i64.wrap (v22 * (IntKind.i64.wrap (Int.tmod x1 (4 : Int))))) + v30)) (i1.length : Int)).toNat) (0 : Int))), (21, .p false (.int .i64) (min (d1.length : Int) (30 : Int))), (22, .p false (.int .i64) v22), (25, .p false (.int .i64) (IntKind.i64.wrap (Int.tmod x1 (4 : Int)))), (26, .p false (.int .i64) v30)] [(0, .box [.nils, .nils]), (1, .box [.sl 2, .sl 3]), (2, .arr 23 (.slice (.int .i64)) v20), (3, .arr 37 (.int .u32) v21), (4, .arr 3 (.int .i64) v29)] 5 0 [True, True, True, True, True, True, True, True, ¬ (i1.length : Int) = 0, 0 ≤ (Int.tmod (IntKind.i64.wrap ((IntKind.i64.wrap (v22 * (IntKind.i64.wrap (Int.tmod x1 (4 : Int))))) + v30)) (i1.length : Int)) ∧ (Int.tmod (IntKind.i64.wrap ((IntKind.i64.wrap (v22 * (IntKind.i64.wrap (Int.tmod x1 (4 : Int))))) + v30)) (i1.length : Int)) < (i1.length : Int), True, True] (by kernel_rfl) (by kernel_rfl) ⟨trivial, trivial, trivial, trivial, trivial, trivial, trivial, trivial, c121, c122, trivial, trivial, trivial⟩ ?_
              obtain rfl := Option.some.inj h
              exact postN_to (goal_le (gs := []) (f := [0, 1, 2, 3, 4]) (by kernel_rfl) (by kernel_rfl))
            · replace h := h_else hb30 h
              refine W_skip_to ?_
              obtain rfl := Option.some.inj h
              exact postN_to (goal_le (gs := []) (f := [0, 1, 2, 3, 4]) (by kernel_rfl) (by kernel_rfl))
          · clear hp11
            obtain ⟨rfl, hle⟩ := hq
            refine use_to ?_ hle
            refine to_then ?_
            obtain ⟨c125, h⟩ := h_guard h
            obtain ⟨c126, h⟩ := h_guard h
            refine W_reg tbok ⟨[], []⟩ [] [0, 1, 2, 3, 69] [(0, .p β0 (.slice (.int .u32)) d1), (1, .p β1 (.slice (.int .i64)) i1), (6, .adr 0 0 2 0), (7, .adr 1 0 2 0), (8, .p false (.int .i64) (min (d1.length : Int) (30 : Int))), (9, .p false (.int .i64) (IntKind.i64.wrap (Int.tmod x1 (4 : Int)))), (10, .p false (.int .i64) v22), (11, .sl 4), (21, .p false (.int .i64) (min (d1.length : Int) (30 : Int))), (22, .p false (.int .i64) v22), (25, .p false (.int .i64) (IntKind.i64.wrap (Int.tmod x1 (4 : Int)))), (26, .p false (.int .i64) v30)] [(0, .box [.nils, .nils]), (1, .box [.sl 2, .sl 3]), (2, .arr 23 (.slice (.int .i64)) v20), (3, .arr 37 (.int .u32) v21), (4, .arr 3 (.int .i64) (v29 ++ ([(IntKind.i64.wrap (Int.tmod (IntKind.u64.wrap v32) (IntKind.u64.wrap (min (d1.length : Int) (30 : Int)))))] : List Int)))] 5 0 [True, True, True, True, True, ¬ (IntKind.u64.wrap (min (d1.length : Int) (30 : Int))) = 0, True, True, (v29.length + ([(IntKind.i64.wrap (Int.tmod (IntKind.u64.wrap v32) (IntKind.u64.wrap (min (d1.length : Int) (30 : Int)))))] : List Int).length) * 8 ≤ 140737488355328 ∧ v29.length + ([(IntKind.i64.wrap (Int.tmod (IntKind.u64.wrap v32) (IntKind.u64.wrap (min (d1.length : Int) (30 : Int)))))] : List Int).length ≤ 9223372036854775807, True] (by kernel_rfl) (by kernel_rfl) ⟨trivial, trivial, trivial, trivial, trivial, c125, trivial, trivial, c126, trivial, trivial⟩ ?_
            refine to_block ?_
            refine to_then ?_
            refine W_reg tbok ⟨[], []⟩ [] [0, 1, 2, 3, 4] [(0, .p β0 (.slice (.int .u32)) d1), (1, .p β1 (.slice (.int .i64)) i1), (6, .adr 0 0 2 0), (7, .adr 1 0 2 0), (8, .p false (.int .i64) (min (d1.length : Int) (30 : Int))), (9, .p false (.int .i64) (IntKind.i64.wrap (Int.tmod x1 (4 : Int)))), (10, .p false (.int .i64) v22), (11, .sl 4), (21, .p false (.int .i64) (min (d1.length : Int) (30 : Int))), (22, .p false (.int .i64) v22), (25, .p false (.int .i64) (IntKind.i64.wrap (Int.tmod x1 (4 : Int)))), (26, .p false (.int .i64) (IntKind.i64.wrap (v30 + (1 : Int))))] [(0, .box [.nils, .nils]), (1, .box [.sl 2, .sl 3]), (2, .arr 23 (.slice (.int .i64)) v20), (3, .arr 37 (.int .u32) v21), (4, .arr 3 (.int .i64) (v29 ++ ([(IntKind.i64.wrap (Int.tmod (IntKind.u64.wrap v32) (IntKind.u64.wrap (min (d1.length : Int) (30 : Int)))))] : List Int)))] 5 0 [True, True] (by kernel_rfl) (by kernel_rfl) ⟨trivial, trivial, trivial⟩ ?_
            obtain rfl := Option.some.inj h
            exact roundB (goal_le (gs := []) (f := [0, 1, 2, 3, 4]) (by kernel_rfl) (by kernel_rfl))
        · replace h := h_else hb28 h
          refine W_exit_to ?_
          refine thenE ?_
          obtain rfl := Option.some.inj h
          refine roundE ?_
          exact postX_to (goal_le (gs := []) (f := [0, 1, 2, 3, 4]) (by kernel_rfl) (by kernel_rfl))
      · clear hp12
        obtain ⟨rfl, hle⟩ := hq
        refine use_to ?_ hle
        refine blockE_eq ?_
        refine to_then ?_
        obtain ⟨c131, h⟩ := h_guard h
        obtain ⟨c132, h⟩ := h_guard h
        obtain ⟨c133, h⟩ := h_guard h
        obtain ⟨c134, h⟩ := h_guard h
        refine W_regD tbok mixed ⟨[], []⟩ [] [0, 1, 37, 109] [(0, .p β0 (.slice (.int .u32)) d1), (1, .p β1 (.slice (.int .i64)) i1), (6, .adr 0 0 2 0), (7, .adr 1 0 2 0), (8, .p false (.int .i64) (min (d1.length : Int) (30 : Int))), (9, .p false (.int .i64) (IntKind.i64.wrap (Int.tmod x1 (4 : Int)))), (21, .p false (.int .i64) (min (d1.length : Int) (30 : Int))), (22, .p false (.int .i64) v22)] [(0, .box [.nils, .nils]), (1, .box [.sl 2, .sl 3]), (2, .arr 23 (.slice (.int .i64)) (v20 ++ ([v31] : List (List Int)))), (3, .arr 37 (.int .u32) (v21 ++ ([(Int.tmod (d1.getD v22.toNat (0 : Int)) (3 : Int))] : List Int)))] 4 0 [True, True, True, True, (v20.length + ([v31] : List (List Int)).length) * 24 ≤ 140737488355328 ∧ v20.length + ([v31] : List (List Int)).length ≤ 9223372036854775807, True, True, True, True, 0 ≤ v22 ∧ v22 < (d1.length : Int), True, ¬ (3 : Int) = 0, True, (v21.length + ([(Int.tmod (d1.getD v22.toNat (0 : Int)) (3 : Int))] : List Int).length) * 4 ≤ 140737488355328 ∧ v21.length + ([(Int.tmod (d1.getD v22.toNat (0 : Int)) (3 : Int))] : List Int).length ≤ 9223372036854775807, True, True, True, True] (by kernel_rfl) (by kernel_rfl) ⟨trivial, trivial, trivial, trivial, c131, trivial, trivial, trivial, trivial, c132, trivial, c133, trivial, c134, trivial, trivial, trivial, trivial, trivial⟩ ?_
        refine to_block ?_
        refine to_then ?_
        refine W_reg tbok ⟨[], []⟩ [] [0, 1, 2, 3] [(0, .p β0 (.slice (.int .u32)) d1), (1, .p β1 (.slice (.int .i64)) i1), (6, .adr 0 0 2 0), (7, .adr 1 0 2 0), (8, .p false (.int .i64) (min (d1.length : Int) (30 : Int))), (9, .p false (.int .i64) (IntKind.i64.wrap (Int.tmod x1 (4 : Int)))), (21, .p false (.int .i64) (min (d1.length : Int) (30 : Int))), (22, .p false (.int .i64) (IntKind.i64.wrap (v22 + (1 : Int))))] [(0, .box [.nils, .nils]), (1, .box [.sl 2, .sl 3]), (2, .arr 23 (.slice (.int .i64)) (v20 ++ ([v31] : List (List Int)))), (3, .arr 37 (.int .u32) (v21 ++ ([(Int.tmod (d1.getD v22.toNat (0 : Int)) (3 : Int))] : List Int)))] 4 0 [True, True] (by kernel_rfl) (by kernel_rfl) ⟨trivial, trivial, trivial⟩ ?_
        obtain rfl := Option.some.inj h
        exact roundB (goal_le (gs := []) (f := [0, 1, 2, 3]) (by kernel_rfl) (by kernel_rfl))
    · replace h := h_else hb21 h
      refine W_exit_to ?_
      refine thenE ?_
      obtain rfl := Option.some.inj h
      refine roundE ?_
      exact postX_to (goal_le (gs := []) (f := [0, 1, 2, 3]) (by kernel_rfl) (by kernel_rfl))
  · clear hp13
    obtain ⟨v23, v24⟩ := r1
    obtain ⟨rfl, hle⟩ := hq
    refine use_to ?_ hle
    refine blockE_eq ?_
    refine to_then ?_
    refine W_seq ?_
    refine W_reg tbok ⟨[], []⟩ [] [0, 2, 3] [(6, .adr 0 0 2 0)] [(0, .box [.sl 1, .sl 2]), (1, .arr 23 (.slice (.int .i64)) v23), (2, .arr 37 (.int .u32) v24)] 3 0 [True, True] (by kernel_rfl) (by kernel_rfl) ⟨trivial, trivial, trivial⟩ ?_
    refine to_then ?_
    refine W_ret ?_
    obtain rfl := Option.some.inj h
    exact Ret_intro [(.prod (.slice (.slice (.int .i64))) (.slice (.int .u32)))] (by kernel_rfl)

end
end Go.Proofs.Ytnnbofkcfooljaa.T
