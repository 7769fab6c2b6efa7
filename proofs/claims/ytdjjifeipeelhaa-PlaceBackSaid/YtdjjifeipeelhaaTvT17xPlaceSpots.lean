/- Functions of the program as functions on data, and that the program's own come to them. -/
import Derived.Test.YtdjjifeipeelhaaTvT17x0
import Derived.Test.YtdjjifeipeelhaaTvT17xa
import Derived.Test.YtdjjifeipeelhaaTvT17xb
namespace Go.Proofs.Ytdjjifeipeelhaa.T
open Go Go.Tv Go.Proofs
noncomputable section

/-- a loop of 'stanza/stanzaref13.Spot': one round -/
def stanzaref13_Spot_L1 (d1 : List (Int × Int × Int × Int)) (x2 : Int) : (Int × Int × Int) → Option ((Int × Int × Int) ⊕ (Int × Int)) := fun ((v6, v7, v8) : Int × Int × Int) =>
  (if (decide (v8 ≥ (0 : Int))) = true then (if 0 ≤ v8 ∧ v8 < (d1.length : Int) then (if 0 ≤ v8 ∧ v8 < (d1.length : Int) then (if 0 ≤ v8 ∧ v8 < (d1.length : Int) then (((if (decide (x2 < (IntKind.i64.wrap (((d1.getD v8.toNat ((0 : Int), ((0 : Int), ((0 : Int), (0 : Int))))).1) + ((d1.getD v8.toNat ((0 : Int), ((0 : Int), ((0 : Int), (0 : Int))))).2.1))))) = true then some (v8)
  else some (v7))).bind fun (v11 : Int) => some (Sum.inl ((IntKind.i64.wrap (v6 + ((d1.getD v8.toNat ((0 : Int), ((0 : Int), ((0 : Int), (0 : Int))))).2.1))), v11, (IntKind.i64.wrap (v8 - (1 : Int)))))) else none) else none) else none)
  else some (Sum.inr (v6, v7)))

/-- a loop of 'stanza/stanzaref13.Spot': one round -/
def stanzaref13_Spot_L2 (i2 : List (Int × Int × Int × Int)) (v10 : Int) : (Int × Int) → Option ((Int × Int) ⊕ (Int)) := fun ((v21, v22) : Int × Int) =>
  (if (decide (v22 ≥ (0 : Int))) = true then (((if 0 ≤ v22 ∧ v22 < (i2.length : Int) then (if (decide (v10 < ((i2.getD v22.toNat ((0 : Int), ((0 : Int), ((0 : Int), (0 : Int))))).2.1))) = true then (if 0 ≤ v22 ∧ v22 < (i2.length : Int) then some ((decide (v10 ≥ ((i2.getD v22.toNat ((0 : Int), ((0 : Int), ((0 : Int), (0 : Int))))).1)))) else none)
  else some (false)) else none)).bind fun (v24 : Bool) => (((if v24 = true then some (v22)
  else some (v21))).bind fun (v25 : Int) => some (Sum.inl (v25, (IntKind.i64.wrap (v22 - (1 : Int)))))))
  else some (Sum.inr v21))

/-- 'stanza/stanzaref13.Spot' -/
def stanzaref13_Spot (d1 : List (Int × Int × Int × Int)) (d2 : List Int) (i1 : List (Int × Int × Int × Int)) (x1 : Int) (x2 : Int) (x3 : Bool) : Option ((Int × Int) × Int) :=
  (((if ((i1.length : Int) == (0 : Int)) = true then some (([((0 : Int), ((0 : Int), ((0 : Int), (0 : Int))))] : List (Int × Int × Int × Int)))
  else some (i1))).bind fun (i2 : List (Int × Int × Int × Int)) => ((iter (stanzaref13_Spot_L1 d1 x2) ((0 : Int), (d1.length : Int), (IntKind.i64.wrap ((d1.length : Int) - (1 : Int))))).bind fun ((v9, v10) : Int × Int) => (((if (decide (x2 < (0 : Int))) = true then some (true)
  else some ((decide (x2 > v9))))).bind fun (v12 : Bool) => (if v12 = true then some (((0 : Int), (0 : Int)), (2 : Int))
  else ((iter (stanzaref13_Spot_L2 i2 v10) ((IntKind.i64.wrap ((i2.length : Int) - (1 : Int))), (IntKind.i64.wrap ((i2.length : Int) - (1 : Int))))).bind fun (v23 : Int) => (((if x3 = true then (if (decide (v23 > (0 : Int))) = true then (if 0 ≤ v23 ∧ v23 < (i2.length : Int) then some ((((i2.getD v23.toNat ((0 : Int), ((0 : Int), ((0 : Int), (0 : Int))))).1) == v10)) else none)
  else some (false))
  else some (false))).bind fun (v26 : Bool) => (((if v26 = true then some ((IntKind.i64.wrap (v23 - (1 : Int))))
  else some (v23))).bind fun (v27 : Int) => (if 0 ≤ v27 ∧ v27 < (i2.length : Int) then (if 0 ≤ v27 ∧ v27 < (i2.length : Int) then ((stanzaref13_Columns d1 d2 ((i2.getD v27.toNat ((0 : Int), ((0 : Int), ((0 : Int), (0 : Int))))).1) ((i2.getD v27.toNat ((0 : Int), ((0 : Int), ((0 : Int), (0 : Int))))).2.1) x1).bind fun (r4 : List Int) =>
  (if 0 ≤ v27 ∧ v27 < (i2.length : Int) then (if 0 ≤ (IntKind.i64.wrap (v10 - ((i2.getD v27.toNat ((0 : Int), ((0 : Int), ((0 : Int), (0 : Int))))).1))) ∧ (IntKind.i64.wrap (v10 - ((i2.getD v27.toNat ((0 : Int), ((0 : Int), ((0 : Int), (0 : Int))))).1))) < (r4.length : Int) then some ((v27, (r4.getD ((IntKind.i64.wrap (v10 - ((i2.getD v27.toNat ((0 : Int), ((0 : Int), ((0 : Int), (0 : Int))))).1))).toNat) (0 : Int))), (0 : Int)) else none) else none)) else none) else none))))))))

set_option maxRecDepth 100000 in
set_option maxHeartbeats 4000000 in
theorem stanzaref13_Spot_ok (β0 β1 : Bool) (d1 : List (Int × Int × Int × Int)) (d2 : List Int) (i1 : List (Int × Int × Int × Int)) (x1 : Int) (x2 : Int) (x3 : Bool) (res : (Int × Int) × Int) (h : stanzaref13_Spot d1 d2 i1 x1 x2 x3 = some res) :
    Pure Try.prog 15 [.agg [.p β0 (.slice (.prod (.int .i64) (.prod (.int .i64) (.prod (.int .i64) (.int .u8))))) d1, .p β1 (.slice (.int .u8)) d2], .p false (.slice (.prod (.int .i64) (.prod (.int .i64) (.prod (.int .i64) (.int .u8))))) i1, .p false (.int .i64) x1, .p false (.int .i64) x2, .p false .bool x3] (wrapR (encs false [⟨(.prod (.int .i64) (.int .i64)), res.1⟩, ⟨(.int .i64), res.2⟩])) := by
  refine Pure.of_body tbok Try.func15 (by kernel_rfl) rfl (Nat.le_of_ble_eq_true rfl) (fun Bw w0 => ?_) rfl
  unfold stanzaref13_Spot at h
  refine W_seq ?_
  refine W_reg tbok ⟨[], []⟩ [] [0, 8] [(1, .p false (.slice (.prod (.int .i64) (.prod (.int .i64) (.prod (.int .i64) (.int .u8))))) i1), (2, .p false (.int .i64) x1), (3, .p false (.int .i64) x2), (4, .p false .bool x3), (5, .adr 0 0 2 0), (10, .adr 1 0 2 0)] [(0, .box [.p β0 (.slice (.prod (.int .i64) (.prod (.int .i64) (.prod (.int .i64) (.int .u8))))) d1, .p β1 (.slice (.int .u8)) d2]), (1, .box [.p false (.int .i64) (0 : Int), .p false (.int .i64) (0 : Int)])] 2 0 [True, True, True] (by kernel_rfl) (by kernel_rfl) ⟨trivial, trivial, trivial, trivial⟩ ?_
  refine to_then ?_
  refine W_seq ?_
  refine W_seq ?_
  refine W_reg tbok ⟨[], []⟩ [] [0, 1] [(1, .p false (.slice (.prod (.int .i64) (.prod (.int .i64) (.prod (.int .i64) (.int .u8))))) i1), (2, .p false (.int .i64) x1), (3, .p false (.int .i64) x2), (4, .p false .bool x3), (5, .adr 0 0 2 0), (10, .adr 1 0 2 0), (21, .p false .bool ((i1.length : Int) == (0 : Int)))] [(0, .box [.p β0 (.slice (.prod (.int .i64) (.prod (.int .i64) (.prod (.int .i64) (.int .u8))))) d1, .p β1 (.slice (.int .u8)) d2]), (1, .box [.p false (.int .i64) (0 : Int), .p false (.int .i64) (0 : Int)])] 2 0 [True, True, True] (by kernel_rfl) (by kernel_rfl) ⟨trivial, trivial, trivial, trivial⟩ ?_
  refine to_then ?_
  obtain ⟨i2, hp1, h⟩ := h_bind h
  refine W.mono (Q := (postN Try.f15.ntmps (fun (i2 : List (Int × Int × Int × Int)) => mkSt [(1, .p false (.slice (.prod (.int .i64) (.prod (.int .i64) (.prod (.int .i64) (.int .u8))))) i2), (2, .p false (.int .i64) x1), (3, .p false (.int .i64) x2), (4, .p false .bool x3), (5, .adr 0 0 2 0), (10, .adr 1 0 2 0)] [(0, .box [.p β0 (.slice (.prod (.int .i64) (.prod (.int .i64) (.prod (.int .i64) (.int .u8))))) d1, .p β1 (.slice (.int .u8)) d2]), (1, .box [.p false (.int .i64) (0 : Int), .p false (.int .i64) (0 : Int)])] 2)) i2) ?_ (fun e σ' hq => ?_)
  · replace h := hp1
    clear hp1
    refine W_cond (b := ((i1.length : Int) == (0 : Int))) (β := false) (by kernel_rfl) (fun hb2 => ?_) (fun hb2 => ?_)
    · replace h := h_if hb2 h
      refine W_reg tbok ⟨[], []⟩ [] [10, 0, 1] [(1, .sl 0), (2, .p false (.int .i64) x1), (3, .p false (.int .i64) x2), (4, .p false .bool x3), (5, .adr 1 0 2 0), (10, .adr 2 0 2 0)] [(0, .arr 60 (.prod (.int .i64) (.prod (.int .i64) (.prod (.int .i64) (.int .u8)))) ([((0 : Int), ((0 : Int), ((0 : Int), (0 : Int))))] : List (Int × Int × Int × Int))), (1, .box [.p β0 (.slice (.prod (.int .i64) (.prod (.int .i64) (.prod (.int .i64) (.int .u8))))) d1, .p β1 (.slice (.int .u8)) d2]), (2, .box [.p false (.int .i64) (0 : Int), .p false (.int .i64) (0 : Int)])] 3 0 [True, True, True] (by kernel_rfl) (by kernel_rfl) ⟨trivial, trivial, trivial, trivial⟩ ?_
      obtain rfl := Option.some.inj h
      exact postN_to (goal_le (gs := [.frzS 1]) (f := [1, 2]) (by kernel_rfl) (by kernel_rfl))
    · replace h := h_else hb2 h
      refine W_skip_to ?_
      obtain rfl := Option.some.inj h
      exact postN_to (goal_le (gs := []) (f := [0, 1]) (by kernel_rfl) (by kernel_rfl))
  · clear hp1
    obtain ⟨rfl, hle⟩ := hq
    refine use_to ?_ hle
    refine to_then ?_
    refine W_seq ?_
    refine W_reg tbok ⟨[], []⟩ [] [0, 1] [(1, .p false (.slice (.prod (.int .i64) (.prod (.int .i64) (.prod (.int .i64) (.int .u8))))) i2), (2, .p false (.int .i64) x1), (3, .p false (.int .i64) x2), (4, .p false .bool x3), (5, .adr 0 0 2 0), (10, .adr 1 0 2 0), (12, .p false (.int .i64) (d1.length : Int))] [(0, .box [.p β0 (.slice (.prod (.int .i64) (.prod (.int .i64) (.prod (.int .i64) (.int .u8))))) d1, .p β1 (.slice (.int .u8)) d2]), (1, .box [.p false (.int .i64) (0 : Int), .p false (.int .i64) (0 : Int)])] 2 0 [True, True, True, True] (by kernel_rfl) (by kernel_rfl) ⟨trivial, trivial, trivial, trivial, trivial⟩ ?_
    refine to_then ?_
    refine W_seq ?_
    refine W_reg tbok ⟨[], []⟩ [] [0, 1] [(1, .p false (.slice (.prod (.int .i64) (.prod (.int .i64) (.prod (.int .i64) (.int .u8))))) i2), (2, .p false (.int .i64) x1), (3, .p false (.int .i64) x2), (4, .p false .bool x3), (5, .adr 0 0 2 0), (10, .adr 1 0 2 0), (12, .p false (.int .i64) (d1.length : Int)), (13, .p false (.int .i64) (0 : Int))] [(0, .box [.p β0 (.slice (.prod (.int .i64) (.prod (.int .i64) (.prod (.int .i64) (.int .u8))))) d1, .p β1 (.slice (.int .u8)) d2]), (1, .box [.p false (.int .i64) (0 : Int), .p false (.int .i64) (0 : Int)])] 2 0 [True] (by kernel_rfl) (by kernel_rfl) ⟨trivial, trivial⟩ ?_
    refine to_then ?_
    refine W_seq ?_
    refine W_reg tbok ⟨[], []⟩ [] [0, 1] [(1, .p false (.slice (.prod (.int .i64) (.prod (.int .i64) (.prod (.int .i64) (.int .u8))))) i2), (2, .p false (.int .i64) x1), (3, .p false (.int .i64) x2), (4, .p false .bool x3), (5, .adr 0 0 2 0), (10, .adr 1 0 2 0), (12, .p false (.int .i64) (d1.length : Int)), (13, .p false (.int .i64) (0 : Int)), (14, .p false (.int .i64) (d1.length : Int))] [(0, .box [.p β0 (.slice (.prod (.int .i64) (.prod (.int .i64) (.prod (.int .i64) (.int .u8))))) d1, .p β1 (.slice (.int .u8)) d2]), (1, .box [.p false (.int .i64) (0 : Int), .p false (.int .i64) (0 : Int)])] 2 0 [True, True] (by kernel_rfl) (by kernel_rfl) ⟨trivial, trivial, trivial⟩ ?_
    refine to_then ?_
    refine W_seq ?_
    refine W_seq ?_
    refine W_reg tbok ⟨[], []⟩ [] [0, 1] [(1, .p false (.slice (.prod (.int .i64) (.prod (.int .i64) (.prod (.int .i64) (.int .u8))))) i2), (2, .p false (.int .i64) x1), (3, .p false (.int .i64) x2), (4, .p false .bool x3), (5, .adr 0 0 2 0), (10, .adr 1 0 2 0), (13, .p false (.int .i64) (0 : Int)), (14, .p false (.int .i64) (d1.length : Int)), (15, .p false (.int .i64) (IntKind.i64.wrap ((d1.length : Int) - (1 : Int))))] [(0, .box [.p β0 (.slice (.prod (.int .i64) (.prod (.int .i64) (.prod (.int .i64) (.int .u8))))) d1, .p β1 (.slice (.int .u8)) d2]), (1, .box [.p false (.int .i64) (0 : Int), .p false (.int .i64) (0 : Int)])] 2 0 [True, True, True] (by kernel_rfl) (by kernel_rfl) ⟨trivial, trivial, trivial, trivial⟩ ?_
    refine to_then ?_
    refine W_block ?_
    obtain ⟨r1, hp5, h⟩ := h_bind h
    refine W.mono (Q := (postX Try.f15.ntmps 0 (fun ((v9, v10) : Int × Int) => mkSt [(1, .p false (.slice (.prod (.int .i64) (.prod (.int .i64) (.prod (.int .i64) (.int .u8))))) i2), (2, .p false (.int .i64) x1), (3, .p false (.int .i64) x2), (4, .p false .bool x3), (5, .adr 0 0 2 0), (10, .adr 1 0 2 0), (13, .p false (.int .i64) v9), (14, .p false (.int .i64) v10)] [(0, .box [.p β0 (.slice (.prod (.int .i64) (.prod (.int .i64) (.prod (.int .i64) (.int .u8))))) d1, .p β1 (.slice (.int .u8)) d2]), (1, .box [.p false (.int .i64) (0 : Int), .p false (.int .i64) (0 : Int)])] 2)) r1) (W_iter (f := fun ((v6, v7, v8) : Int × Int × Int) => mkSt [(1, .p false (.slice (.prod (.int .i64) (.prod (.int .i64) (.prod (.int .i64) (.int .u8))))) i2), (2, .p false (.int .i64) x1), (3, .p false (.int .i64) x2), (4, .p false .bool x3), (5, .adr 0 0 2 0), (10, .adr 1 0 2 0), (13, .p false (.int .i64) v6), (14, .p false (.int .i64) v7), (15, .p false (.int .i64) v8)] [(0, .box [.p β0 (.slice (.prod (.int .i64) (.prod (.int .i64) (.prod (.int .i64) (.int .u8))))) d1, .p β1 (.slice (.int .u8)) d2]), (1, .box [.p false (.int .i64) (0 : Int), .p false (.int .i64) (0 : Int)])] 2) (Q := (postX Try.f15.ntmps 0 (fun ((v9, v10) : Int × Int) => mkSt [(1, .p false (.slice (.prod (.int .i64) (.prod (.int .i64) (.prod (.int .i64) (.int .u8))))) i2), (2, .p false (.int .i64) x1), (3, .p false (.int .i64) x2), (4, .p false .bool x3), (5, .adr 0 0 2 0), (10, .adr 1 0 2 0), (13, .p false (.int .i64) v9), (14, .p false (.int .i64) v10)] [(0, .box [.p β0 (.slice (.prod (.int .i64) (.prod (.int .i64) (.prod (.int .i64) (.int .u8))))) d1, .p β1 (.slice (.int .u8)) d2]), (1, .box [.p false (.int .i64) (0 : Int), .p false (.int .i64) (0 : Int)])] 2))) hp5 (goal_le (gs := []) (f := [0, 1]) (by kernel_rfl) (by kernel_rfl)) (fun y o ho => ?_)) (fun e σ' hq => ?_)
    · obtain ⟨v6, v7, v8⟩ := y
      replace h := ho
      clear ho hp5
      unfold stanzaref13_Spot_L1 at h
      refine W_seq ?_
      refine W_seq ?_
      refine W_reg tbok ⟨[], []⟩ [] [0, 1] [(1, .p false (.slice (.prod (.int .i64) (.prod (.int .i64) (.prod (.int .i64) (.int .u8))))) i2), (2, .p false (.int .i64) x1), (3, .p false (.int .i64) x2), (4, .p false .bool x3), (5, .adr 0 0 2 0), (10, .adr 1 0 2 0), (13, .p false (.int .i64) v6), (14, .p false (.int .i64) v7), (15, .p false (.int .i64) v8), (31, .p false .bool (decide (v8 ≥ (0 : Int))))] [(0, .box [.p β0 (.slice (.prod (.int .i64) (.prod (.int .i64) (.prod (.int .i64) (.int .u8))))) d1, .p β1 (.slice (.int .u8)) d2]), (1, .box [.p false (.int .i64) (0 : Int), .p false (.int .i64) (0 : Int)])] 2 0 [True, True] (by kernel_rfl) (by kernel_rfl) ⟨trivial, trivial, trivial⟩ ?_
      refine to_then ?_
      refine W_cond (b := (decide (v8 ≥ (0 : Int)))) (β := false) (by kernel_rfl) (fun hb9 => ?_) (fun hb9 => ?_)
      · replace h := h_if hb9 h
        refine W_skip_to ?_
        refine to_then ?_
        refine W_seq ?_
        refine W_block ?_
        refine W_seq ?_
        obtain ⟨c14, h⟩ := h_guard h
        refine W_reg tbok ⟨[], []⟩ [] [0, 1] [(1, .p false (.slice (.prod (.int .i64) (.prod (.int .i64) (.prod (.int .i64) (.int .u8))))) i2), (2, .p false (.int .i64) x1), (3, .p false (.int .i64) x2), (4, .p false .bool x3), (5, .adr 0 0 2 0), (10, .adr 1 0 2 0), (13, .p false (.int .i64) (IntKind.i64.wrap (v6 + ((d1.getD v8.toNat ((0 : Int), ((0 : Int), ((0 : Int), (0 : Int))))).2.1)))), (14, .p false (.int .i64) v7), (15, .p false (.int .i64) v8)] [(0, .box [.p β0 (.slice (.prod (.int .i64) (.prod (.int .i64) (.prod (.int .i64) (.int .u8))))) d1, .p β1 (.slice (.int .u8)) d2]), (1, .box [.p false (.int .i64) (0 : Int), .p false (.int .i64) (0 : Int)])] 2 0 [True, True, True, True, 0 ≤ v8 ∧ v8 < (d1.length : Int), True, True, True, True] (by kernel_rfl) (by kernel_rfl) ⟨trivial, trivial, trivial, trivial, c14, trivial, trivial, trivial, trivial, trivial⟩ ?_
        refine to_then ?_
        refine W_seq ?_
        obtain ⟨c17, h⟩ := h_guard h
        obtain ⟨c18, h⟩ := h_guard h
        refine W_regD tbok mixed ⟨[], []⟩ [] [0, 1] [(1, .p false (.slice (.prod (.int .i64) (.prod (.int .i64) (.prod (.int .i64) (.int .u8))))) i2), (2, .p false (.int .i64) x1), (3, .p false (.int .i64) x2), (4, .p false .bool x3), (5, .adr 0 0 2 0), (10, .adr 1 0 2 0), (13, .p false (.int .i64) (IntKind.i64.wrap (v6 + ((d1.getD v8.toNat ((0 : Int), ((0 : Int), ((0 : Int), (0 : Int))))).2.1)))), (14, .p false (.int .i64) v7), (15, .p false (.int .i64) v8), (56, .p false .bool (decide (x2 < (IntKind.i64.wrap (((d1.getD v8.toNat ((0 : Int), ((0 : Int), ((0 : Int), (0 : Int))))).1) + ((d1.getD v8.toNat ((0 : Int), ((0 : Int), ((0 : Int), (0 : Int))))).2.1))))))] [(0, .box [.p β0 (.slice (.prod (.int .i64) (.prod (.int .i64) (.prod (.int .i64) (.int .u8))))) d1, .p β1 (.slice (.int .u8)) d2]), (1, .box [.p false (.int .i64) (0 : Int), .p false (.int .i64) (0 : Int)])] 2 0 [True, True, True, True, 0 ≤ v8 ∧ v8 < (d1.length : Int), True, True, True, True, True, 0 ≤ v8 ∧ v8 < (d1.length : Int), True, True, True, True] (by kernel_rfl) (by kernel_rfl) ⟨trivial, trivial, trivial, trivial, c17, trivial, trivial, trivial, trivial, trivial, c18, trivial, trivial, trivial, trivial, trivial⟩ ?_
        refine to_then ?_
        obtain ⟨v11, hp4, h⟩ := h_bind h
        refine W.mono (Q := (postN Try.f15.ntmps (fun (v11 : Int) => mkSt [(1, .p false (.slice (.prod (.int .i64) (.prod (.int .i64) (.prod (.int .i64) (.int .u8))))) i2), (2, .p false (.int .i64) x1), (3, .p false (.int .i64) x2), (4, .p false .bool x3), (5, .adr 0 0 2 0), (10, .adr 1 0 2 0), (13, .p false (.int .i64) (IntKind.i64.wrap (v6 + ((d1.getD v8.toNat ((0 : Int), ((0 : Int), ((0 : Int), (0 : Int))))).2.1)))), (14, .p false (.int .i64) v11), (15, .p false (.int .i64) v8)] [(0, .box [.p β0 (.slice (.prod (.int .i64) (.prod (.int .i64) (.prod (.int .i64) (.int .u8))))) d1, .p β1 (.slice (.int .u8)) d2]), (1, .box [.p false (.int .i64) (0 : Int), .p false (.int .i64) (0 : Int)])] 2)) v11) ?_ (fun e σ' hq => ?_)
        · replace h := hp4
          clear hp4
          refine W_cond (b := (decide (x2 < (IntKind.i64.wrap (((d1.getD v8.toNat ((0 : Int), ((0 : Int), ((0 : Int), (0 : Int))))).1) + ((d1.getD v8.toNat ((0 : Int), ((0 : Int), ((0 : Int), (0 : Int))))).2.1)))))) (β := false) (by kernel_rfl) (fun hb11 => ?_) (fun hb11 => ?_)
          · replace h := h_if hb11 h
            refine W_reg tbok ⟨[], []⟩ [] [0, 1] [(1, .p false (.slice (.prod (.int .i64) (.prod (.int .i64) (.prod (.int .i64) (.int .u8))))) i2), (2, .p false (.int .i64) x1), (3, .p false (.int .i64) x2), (4, .p false .bool x3), (5, .adr 0 0 2 0), (10, .adr 1 0 2 0), (13, .p false (.int .i64) (IntKind.i64.wrap (v6 + ((d1.getD v8.toNat ((0 : Int), ((0 : Int), ((0 : Int), (0 : Int))))).2.1)))), (14, .p false (.int .i64) v8), (15, .p false (.int .i64) v8)] [(0, .box [.p β0 (.slice (.prod (.int .i64) (.prod (.int .i64) (.prod (.int .i64) (.int .u8))))) d1, .p β1 (.slice (.int .u8)) d2]), (1, .box [.p false (.int .i64) (0 : Int), .p false (.int .i64) (0 : Int)])] 2 0 [True, True] (by kernel_rfl) (by kernel_rfl) ⟨trivial, trivial, trivial⟩ ?_
            obtain rfl := Option.some.inj h
            exact postN_to (goal_le (gs := []) (f := [0, 1]) (by kernel_rfl) (by kernel_rfl))
          · replace h := h_else hb11 h
            refine W_skip_to ?_
            obtain rfl := Option.some.inj h
            exact postN_to (goal_le (gs := []) (f := [0, 1]) (by kernel_rfl) (by kernel_rfl))
        · clear hp4
          obtain ⟨rfl, hle⟩ := hq
          refine use_to ?_ hle
          refine to_block ?_
          refine to_then ?_
          refine W_reg tbok ⟨[], []⟩ [] [0, 1] [(1, .p false (.slice (.prod (.int .i64) (.prod (.int .i64) (.prod (.int .i64) (.int .u8))))) i2), (2, .p false (.int .i64) x1), (3, .p false (.int .i64) x2), (4, .p false .bool x3), (5, .adr 0 0 2 0), (10, .adr 1 0 2 0), (13, .p false (.int .i64) (IntKind.i64.wrap (v6 + ((d1.getD v8.toNat ((0 : Int), ((0 : Int), ((0 : Int), (0 : Int))))).2.1)))), (14, .p false (.int .i64) v11), (15, .p false (.int .i64) (IntKind.i64.wrap (v8 - (1 : Int))))] [(0, .box [.p β0 (.slice (.prod (.int .i64) (.prod (.int .i64) (.prod (.int .i64) (.int .u8))))) d1, .p β1 (.slice (.int .u8)) d2]), (1, .box [.p false (.int .i64) (0 : Int), .p false (.int .i64) (0 : Int)])] 2 0 [True, True, True] (by kernel_rfl) (by kernel_rfl) ⟨trivial, trivial, trivial, trivial⟩ ?_
          obtain rfl := Option.some.inj h
          exact roundB (goal_le (gs := []) (f := [0, 1]) (by kernel_rfl) (by kernel_rfl))
      · replace h := h_else hb9 h
        refine W_exit_to ?_
        refine thenE ?_
        obtain rfl := Option.some.inj h
        refine roundE ?_
        exact postX_to (goal_le (gs := []) (f := [0, 1]) (by kernel_rfl) (by kernel_rfl))
    · clear hp5
      obtain ⟨v9, v10⟩ := r1
      obtain ⟨rfl, hle⟩ := hq
      refine use_to ?_ hle
      refine blockE_eq ?_
      refine to_then ?_
      refine W_seq ?_
      refine W_seq ?_
      obtain ⟨v12, hp6, h⟩ := h_bind h
      refine W.mono (Q := (postN Try.f15.ntmps (fun (v12 : Bool) => mkSt [(1, .p false (.slice (.prod (.int .i64) (.prod (.int .i64) (.prod (.int .i64) (.int .u8))))) i2), (2, .p false (.int .i64) x1), (4, .p false .bool x3), (5, .adr 0 0 2 0), (10, .adr 1 0 2 0), (14, .p false (.int .i64) v10), (64, .p false .bool v12)] [(0, .box [.p β0 (.slice (.prod (.int .i64) (.prod (.int .i64) (.prod (.int .i64) (.int .u8))))) d1, .p β1 (.slice (.int .u8)) d2]), (1, .box [.p false (.int .i64) (0 : Int), .p false (.int .i64) (0 : Int)])] 2)) v12) ?_ (fun e σ' hq => ?_)
      · replace h := hp6
        clear hp6
        rcases Bool.eq_false_or_eq_true (decide (x2 < (0 : Int))) with hb14 | hb14
        · replace h := h_if hb14 h
          refine W_reg tbok ⟨[(2, true), (6, true)], []⟩ [] [0, 1] [(1, .p false (.slice (.prod (.int .i64) (.prod (.int .i64) (.prod (.int .i64) (.int .u8))))) i2), (2, .p false (.int .i64) x1), (4, .p false .bool x3), (5, .adr 0 0 2 0), (10, .adr 1 0 2 0), (14, .p false (.int .i64) v10), (64, .p false .bool true)] [(0, .box [.p β0 (.slice (.prod (.int .i64) (.prod (.int .i64) (.prod (.int .i64) (.int .u8))))) d1, .p β1 (.slice (.int .u8)) d2]), (1, .box [.p false (.int .i64) (0 : Int), .p false (.int .i64) (0 : Int)])] 2 0 [True, True, True, (decide (x2 < (0 : Int))) = true, (decide (x2 < (0 : Int))) = true, (decide (x2 < (0 : Int))) = true, (decide (x2 < (0 : Int))) = true] (by kernel_rfl) (by kernel_rfl) ⟨trivial, trivial, trivial, hb14, hb14, hb14, hb14, trivial⟩ ?_
          obtain rfl := Option.some.inj h
          exact postN_to (goal_le (gs := []) (f := [0, 1]) (by kernel_rfl) (by kernel_rfl))
        · replace h := h_else hb14 h
          refine W_reg tbok ⟨[(2, false), (6, false)], []⟩ [] [0, 1] [(1, .p false (.slice (.prod (.int .i64) (.prod (.int .i64) (.prod (.int .i64) (.int .u8))))) i2), (2, .p false (.int .i64) x1), (4, .p false .bool x3), (5, .adr 0 0 2 0), (10, .adr 1 0 2 0), (14, .p false (.int .i64) v10), (64, .p false .bool (decide (x2 > v9)))] [(0, .box [.p β0 (.slice (.prod (.int .i64) (.prod (.int .i64) (.prod (.int .i64) (.int .u8))))) d1, .p β1 (.slice (.int .u8)) d2]), (1, .box [.p false (.int .i64) (0 : Int), .p false (.int .i64) (0 : Int)])] 2 0 [True, True, True, (decide (x2 < (0 : Int))) = false ∧ True, (decide (x2 < (0 : Int))) = false ∧ True, (decide (x2 < (0 : Int))) = false ∧ True, (decide (x2 < (0 : Int))) = false] (by kernel_rfl) (by kernel_rfl) ⟨trivial, trivial, trivial, ⟨hb14, trivial⟩, ⟨hb14, trivial⟩, ⟨hb14, trivial⟩, hb14, trivial⟩ ?_
          obtain rfl := Option.some.inj h
          exact postN_to (goal_le (gs := []) (f := [0, 1]) (by kernel_rfl) (by kernel_rfl))
      · clear hp6
        obtain ⟨rfl, hle⟩ := hq
        refine use_to ?_ hle
        refine to_then ?_
        refine W_cond (b := v12) (β := false) (by kernel_rfl) (fun hb15 => ?_) (fun hb15 => ?_)
        · replace h := h_if hb15 h
          refine W_seq ?_
          refine W_reg tbok ⟨[], []⟩ [] [1] [(10, .adr 0 0 2 0), (11, .p false (.int .i64) (2 : Int))] [(0, .box [.p false (.int .i64) (0 : Int), .p false (.int .i64) (0 : Int)])] 1 0 [True, True, True] (by kernel_rfl) (by kernel_rfl) ⟨trivial, trivial, trivial, trivial⟩ ?_
          refine to_then ?_
          refine W_ret ?_
          refine thenQ_ret ?_
          obtain rfl := Option.some.inj h
          exact Ret_intro [(.prod (.int .i64) (.int .i64)), (.int .i64)] (by kernel_rfl)
        · replace h := h_else hb15 h
          refine W_skip_to ?_
          refine to_then ?_
          refine W_seq ?_
          refine W_reg tbok ⟨[], []⟩ [] [0, 1] [(1, .p false (.slice (.prod (.int .i64) (.prod (.int .i64) (.prod (.int .i64) (.int .u8))))) i2), (2, .p false (.int .i64) x1), (4, .p false .bool x3), (5, .adr 0 0 2 0), (10, .adr 1 0 2 0), (14, .p false (.int .i64) v10), (16, .p false (.int .i64) (IntKind.i64.wrap ((i2.length : Int) - (1 : Int))))] [(0, .box [.p β0 (.slice (.prod (.int .i64) (.prod (.int .i64) (.prod (.int .i64) (.int .u8))))) d1, .p β1 (.slice (.int .u8)) d2]), (1, .box [.p false (.int .i64) (0 : Int), .p false (.int .i64) (0 : Int)])] 2 0 [True, True, True, True] (by kernel_rfl) (by kernel_rfl) ⟨trivial, trivial, trivial, trivial, trivial⟩ ?_
          refine to_then ?_
          refine W_seq ?_
          refine W_seq ?_
          refine W_reg tbok ⟨[], []⟩ [] [0, 1] [(1, .p false (.slice (.prod (.int .i64) (.prod (.int .i64) (.prod (.int .i64) (.int .u8))))) i2), (2, .p false (.int .i64) x1), (4, .p false .bool x3), (5, .adr 0 0 2 0), (10, .adr 1 0 2 0), (14, .p false (.int .i64) v10), (16, .p false (.int .i64) (IntKind.i64.wrap ((i2.length : Int) - (1 : Int)))), (17, .p false (.int .i64) (IntKind.i64.wrap ((i2.length : Int) - (1 : Int))))] [(0, .box [.p β0 (.slice (.prod (.int .i64) (.prod (.int .i64) (.prod (.int .i64) (.int .u8))))) d1, .p β1 (.slice (.int .u8)) d2]), (1, .box [.p false (.int .i64) (0 : Int), .p false (.int .i64) (0 : Int)])] 2 0 [True, True, True, True] (by kernel_rfl) (by kernel_rfl) ⟨trivial, trivial, trivial, trivial, trivial⟩ ?_
          refine to_then ?_
          refine W_block ?_
          obtain ⟨v23, hp15, h⟩ := h_bind h
          refine W.mono (Q := (postX Try.f15.ntmps 2 (fun (v23 : Int) => mkSt [(1, .p false (.slice (.prod (.int .i64) (.prod (.int .i64) (.prod (.int .i64) (.int .u8))))) i2), (2, .p false (.int .i64) x1), (4, .p false .bool x3), (5, .adr 0 0 2 0), (10, .adr 1 0 2 0), (14, .p false (.int .i64) v10), (16, .p false (.int .i64) v23)] [(0, .box [.p β0 (.slice (.prod (.int .i64) (.prod (.int .i64) (.prod (.int .i64) (.int .u8))))) d1, .p β1 (.slice (.int .u8)) d2]), (1, .box [.p false (.int .i64) (0 : Int), .p false (.int .i64) (0 : Int)])] 2)) v23) (W_iter (f := fun ((v21, v22) : Int × Int) => mkSt [(1, .p false (.slice (.prod (.int .i64) (.prod (.int .i64) (.prod (.int .i64) (.int .u8))))) i2), (2, .p false (.int .i64) x1), (4, .p false .bool x3), (5, .adr 0 0 2 0), (10, .adr 1 0 2 0), (14, .p false (.int .i64) v10), (16, .p false (.int .i64) v21), (17, .p false (.int .i64) v22)] [(0, .box [.p β0 (.slice (.prod (.int .i64) (.prod (.int .i64) (.prod (.int .i64) (.int .u8))))) d1, .p β1 (.slice (.int .u8)) d2]), (1, .box [.p false (.int .i64) (0 : Int), .p false (.int .i64) (0 : Int)])] 2) (Q := (postX Try.f15.ntmps 2 (fun (v23 : Int) => mkSt [(1, .p false (.slice (.prod (.int .i64) (.prod (.int .i64) (.prod (.int .i64) (.int .u8))))) i2), (2, .p false (.int .i64) x1), (4, .p false .bool x3), (5, .adr 0 0 2 0), (10, .adr 1 0 2 0), (14, .p false (.int .i64) v10), (16, .p false (.int .i64) v23)] [(0, .box [.p β0 (.slice (.prod (.int .i64) (.prod (.int .i64) (.prod (.int .i64) (.int .u8))))) d1, .p β1 (.slice (.int .u8)) d2]), (1, .box [.p false (.int .i64) (0 : Int), .p false (.int .i64) (0 : Int)])] 2))) hp15 (goal_le (gs := []) (f := [0, 1]) (by kernel_rfl) (by kernel_rfl)) (fun y o ho => ?_)) (fun e σ' hq => ?_)
          · obtain ⟨v21, v22⟩ := y
            replace h := ho
            clear ho hp15
            unfold stanzaref13_Spot_L2 at h
            refine W_seq ?_
            refine W_seq ?_
            refine W_reg tbok ⟨[], []⟩ [] [0, 1] [(1, .p false (.slice (.prod (.int .i64) (.prod (.int .i64) (.prod (.int .i64) (.int .u8))))) i2), (2, .p false (.int .i64) x1), (4, .p false .bool x3), (5, .adr 0 0 2 0), (10, .adr 1 0 2 0), (14, .p false (.int .i64) v10), (16, .p false (.int .i64) v21), (17, .p false (.int .i64) v22), (73, .p false .bool (decide (v22 ≥ (0 : Int))))] [(0, .box [.p β0 (.slice (.prod (.int .i64) (.prod (.int .i64) (.prod (.int .i64) (.int .u8))))) d1, .p β1 (.slice (.int .u8)) d2]), (1, .box [.p false (.int .i64) (0 : Int), .p false (.int .i64) (0 : Int)])] 2 0 [True, True] (by kernel_rfl) (by kernel_rfl) ⟨trivial, trivial, trivial⟩ ?_
            refine to_then ?_
            refine W_cond (b := (decide (v22 ≥ (0 : Int)))) (β := false) (by kernel_rfl) (fun hb34 => ?_) (fun hb34 => ?_)
            · replace h := h_if hb34 h
              refine W_skip_to ?_
              refine to_then ?_
              refine W_seq ?_
              refine W_block ?_
              refine W_seq ?_
              obtain ⟨v24, hp13, h⟩ := h_bind h
              refine W.mono (Q := (postN Try.f15.ntmps (fun (v24 : Bool) => mkSt [(1, .p false (.slice (.prod (.int .i64) (.prod (.int .i64) (.prod (.int .i64) (.int .u8))))) i2), (2, .p false (.int .i64) x1), (4, .p false .bool x3), (5, .adr 0 0 2 0), (10, .adr 1 0 2 0), (14, .p false (.int .i64) v10), (16, .p false (.int .i64) v21), (17, .p false (.int .i64) v22), (91, .p false .bool v24)] [(0, .box [.p β0 (.slice (.prod (.int .i64) (.prod (.int .i64) (.prod (.int .i64) (.int .u8))))) d1, .p β1 (.slice (.int .u8)) d2]), (1, .box [.p false (.int .i64) (0 : Int), .p false (.int .i64) (0 : Int)])] 2)) v24) ?_ (fun e σ' hq => ?_)
              · replace h := hp13
                clear hp13
                obtain ⟨c41, h⟩ := h_guard h
                rcases Bool.eq_false_or_eq_true (decide (v10 < ((i2.getD v22.toNat ((0 : Int), ((0 : Int), ((0 : Int), (0 : Int))))).2.1))) with hb37 | hb37
                · replace h := h_if hb37 h
                  obtain ⟨c42, h⟩ := h_guard h
                  refine W_reg tbok ⟨[(7, true), (15, true)], []⟩ [] [0, 1] [(1, .p false (.slice (.prod (.int .i64) (.prod (.int .i64) (.prod (.int .i64) (.int .u8))))) i2), (2, .p false (.int .i64) x1), (4, .p false .bool x3), (5, .adr 0 0 2 0), (10, .adr 1 0 2 0), (14, .p false (.int .i64) v10), (16, .p false (.int .i64) v21), (17, .p false (.int .i64) v22), (91, .p false .bool (decide (v10 ≥ ((i2.getD v22.toNat ((0 : Int), ((0 : Int), ((0 : Int), (0 : Int))))).1))))] [(0, .box [.p β0 (.slice (.prod (.int .i64) (.prod (.int .i64) (.prod (.int .i64) (.int .u8))))) d1, .p β1 (.slice (.int .u8)) d2]), (1, .box [.p false (.int .i64) (0 : Int), .p false (.int .i64) (0 : Int)])] 2 0 [True, True, True, 0 ≤ v22 ∧ v22 < (i2.length : Int), True, True, True, True, (decide (v10 < ((i2.getD v22.toNat ((0 : Int), ((0 : Int), ((0 : Int), (0 : Int))))).2.1))) = true ∧ True, (decide (v10 < ((i2.getD v22.toNat ((0 : Int), ((0 : Int), ((0 : Int), (0 : Int))))).2.1))) = true ∧ True, (decide (v10 < ((i2.getD v22.toNat ((0 : Int), ((0 : Int), ((0 : Int), (0 : Int))))).2.1))) = true ∧ True, (decide (v10 < ((i2.getD v22.toNat ((0 : Int), ((0 : Int), ((0 : Int), (0 : Int))))).2.1))) = true ∧ 0 ≤ v22 ∧ v22 < (i2.length : Int), (decide (v10 < ((i2.getD v22.toNat ((0 : Int), ((0 : Int), ((0 : Int), (0 : Int))))).2.1))) = true ∧ True, (decide (v10 < ((i2.getD v22.toNat ((0 : Int), ((0 : Int), ((0 : Int), (0 : Int))))).2.1))) = true ∧ True, (decide (v10 < ((i2.getD v22.toNat ((0 : Int), ((0 : Int), ((0 : Int), (0 : Int))))).2.1))) = true ∧ True, (decide (v10 < ((i2.getD v22.toNat ((0 : Int), ((0 : Int), ((0 : Int), (0 : Int))))).2.1))) = true] (by kernel_rfl) (by kernel_rfl) ⟨trivial, trivial, trivial, c41, trivial, trivial, trivial, trivial, ⟨hb37, trivial⟩, ⟨hb37, trivial⟩, ⟨hb37, trivial⟩, ⟨hb37, c42⟩, ⟨hb37, trivial⟩, ⟨hb37, trivial⟩, ⟨hb37, trivial⟩, hb37, trivial⟩ ?_
                  obtain rfl := Option.some.inj h
                  exact postN_to (goal_le (gs := []) (f := [0, 1]) (by kernel_rfl) (by kernel_rfl))
                · replace h := h_else hb37 h
                  refine W_reg tbok ⟨[(7, false), (15, false)], []⟩ [] [0, 1] [(1, .p false (.slice (.prod (.int .i64) (.prod (.int .i64) (.prod (.int .i64) (.int .u8))))) i2), (2, .p false (.int .i64) x1), (4, .p false .bool x3), (5, .adr 0 0 2 0), (10, .adr 1 0 2 0), (14, .p false (.int .i64) v10), (16, .p false (.int .i64) v21), (17, .p false (.int .i64) v22), (91, .p false .bool false)] [(0, .box [.p β0 (.slice (.prod (.int .i64) (.prod (.int .i64) (.prod (.int .i64) (.int .u8))))) d1, .p β1 (.slice (.int .u8)) d2]), (1, .box [.p false (.int .i64) (0 : Int), .p false (.int .i64) (0 : Int)])] 2 0 [True, True, True, 0 ≤ v22 ∧ v22 < (i2.length : Int), True, True, True, True, (decide (v10 < ((i2.getD v22.toNat ((0 : Int), ((0 : Int), ((0 : Int), (0 : Int))))).2.1))) = false, (decide (v10 < ((i2.getD v22.toNat ((0 : Int), ((0 : Int), ((0 : Int), (0 : Int))))).2.1))) = false, (decide (v10 < ((i2.getD v22.toNat ((0 : Int), ((0 : Int), ((0 : Int), (0 : Int))))).2.1))) = false, (decide (v10 < ((i2.getD v22.toNat ((0 : Int), ((0 : Int), ((0 : Int), (0 : Int))))).2.1))) = false, (decide (v10 < ((i2.getD v22.toNat ((0 : Int), ((0 : Int), ((0 : Int), (0 : Int))))).2.1))) = false, (decide (v10 < ((i2.getD v22.toNat ((0 : Int), ((0 : Int), ((0 : Int), (0 : Int))))).2.1))) = false, (decide (v10 < ((i2.getD v22.toNat ((0 : Int), ((0 : Int), ((0 : Int), (0 : Int))))).2.1))) = false, (decide (v10 < ((i2.getD v22.toNat ((0 : Int), ((0 : Int), ((0 : Int), (0 : Int))))).2.1))) = false] (by kernel_rfl) (by kernel_rfl) ⟨trivial, trivial, trivial, c41, trivial, trivial, trivial, trivial, hb37, hb37, hb37, hb37, hb37, hb37, hb37, hb37, trivial⟩ ?_
                  obtain rfl := Option.some.inj h
                  exact postN_to (goal_le (gs := []) (f := [0, 1]) (by kernel_rfl) (by kernel_rfl))
              · clear hp13
                obtain ⟨rfl, hle⟩ := hq
                refine use_to ?_ hle
                refine to_then ?_
                obtain ⟨v25, hp14, h⟩ := h_bind h
                refine W.mono (Q := (postN Try.f15.ntmps (fun (v25 : Int) => mkSt [(1, .p false (.slice (.prod (.int .i64) (.prod (.int .i64) (.prod (.int .i64) (.int .u8))))) i2), (2, .p false (.int .i64) x1), (4, .p false .bool x3), (5, .adr 0 0 2 0), (10, .adr 1 0 2 0), (14, .p false (.int .i64) v10), (16, .p false (.int .i64) v25), (17, .p false (.int .i64) v22)] [(0, .box [.p β0 (.slice (.prod (.int .i64) (.prod (.int .i64) (.prod (.int .i64) (.int .u8))))) d1, .p β1 (.slice (.int .u8)) d2]), (1, .box [.p false (.int .i64) (0 : Int), .p false (.int .i64) (0 : Int)])] 2)) v25) ?_ (fun e σ' hq => ?_)
                · replace h := hp14
                  clear hp14
                  refine W_cond (b := v24) (β := false) (by kernel_rfl) (fun hb39 => ?_) (fun hb39 => ?_)
                  · replace h := h_if hb39 h
                    refine W_reg tbok ⟨[], []⟩ [] [0, 1] [(1, .p false (.slice (.prod (.int .i64) (.prod (.int .i64) (.prod (.int .i64) (.int .u8))))) i2), (2, .p false (.int .i64) x1), (4, .p false .bool x3), (5, .adr 0 0 2 0), (10, .adr 1 0 2 0), (14, .p false (.int .i64) v10), (16, .p false (.int .i64) v22), (17, .p false (.int .i64) v22)] [(0, .box [.p β0 (.slice (.prod (.int .i64) (.prod (.int .i64) (.prod (.int .i64) (.int .u8))))) d1, .p β1 (.slice (.int .u8)) d2]), (1, .box [.p false (.int .i64) (0 : Int), .p false (.int .i64) (0 : Int)])] 2 0 [True, True] (by kernel_rfl) (by kernel_rfl) ⟨trivial, trivial, trivial⟩ ?_
                    obtain rfl := Option.some.inj h
                    exact postN_to (goal_le (gs := []) (f := [0, 1]) (by kernel_rfl) (by kernel_rfl))
                  · replace h := h_else hb39 h
                    refine W_skip_to ?_
                    obtain rfl := Option.some.inj h
                    exact postN_to (goal_le (gs := []) (f := [0, 1]) (by kernel_rfl) (by kernel_rfl))
                · clear hp14
                  obtain ⟨rfl, hle⟩ := hq
                  refine use_to ?_ hle
                  refine to_block ?_
                  refine to_then ?_
                  refine W_reg tbok ⟨[], []⟩ [] [0, 1] [(1, .p false (.slice (.prod (.int .i64) (.prod (.int .i64) (.prod (.int .i64) (.int .u8))))) i2), (2, .p false (.int .i64) x1), (4, .p false .bool x3), (5, .adr 0 0 2 0), (10, .adr 1 0 2 0), (14, .p false (.int .i64) v10), (16, .p false (.int .i64) v25), (17, .p false (.int .i64) (IntKind.i64.wrap (v22 - (1 : Int))))] [(0, .box [.p β0 (.slice (.prod (.int .i64) (.prod (.int .i64) (.prod (.int .i64) (.int .u8))))) d1, .p β1 (.slice (.int .u8)) d2]), (1, .box [.p false (.int .i64) (0 : Int), .p false (.int .i64) (0 : Int)])] 2 0 [True, True, True] (by kernel_rfl) (by kernel_rfl) ⟨trivial, trivial, trivial, trivial⟩ ?_
                  obtain rfl := Option.some.inj h
                  exact roundB (goal_le (gs := []) (f := [0, 1]) (by kernel_rfl) (by kernel_rfl))
            · replace h := h_else hb34 h
              refine W_exit_to ?_
              refine thenE ?_
              obtain rfl := Option.some.inj h
              refine roundE ?_
              exact postX_to (goal_le (gs := []) (f := [0, 1]) (by kernel_rfl) (by kernel_rfl))
          · clear hp15
            obtain ⟨rfl, hle⟩ := hq
            refine use_to ?_ hle
            refine blockE_eq ?_
            refine to_then ?_
            refine W_seq ?_
            refine W_seq ?_
            obtain ⟨v26, hp16, h⟩ := h_bind h
            refine W.mono (Q := (postN Try.f15.ntmps (fun (v26 : Bool) => mkSt [(1, .p false (.slice (.prod (.int .i64) (.prod (.int .i64) (.prod (.int .i64) (.int .u8))))) i2), (2, .p false (.int .i64) x1), (5, .adr 0 0 2 0), (10, .adr 1 0 2 0), (14, .p false (.int .i64) v10), (16, .p false (.int .i64) v23), (106, .p false .bool v26)] [(0, .box [.p β0 (.slice (.prod (.int .i64) (.prod (.int .i64) (.prod (.int .i64) (.int .u8))))) d1, .p β1 (.slice (.int .u8)) d2]), (1, .box [.p false (.int .i64) (0 : Int), .p false (.int .i64) (0 : Int)])] 2)) v26) ?_ (fun e σ' hq => ?_)
            · replace h := hp16
              clear hp16
              rcases Bool.eq_false_or_eq_true x3 with hb44 | hb44
              · replace h := h_if hb44 h
                rcases Bool.eq_false_or_eq_true (decide (v23 > (0 : Int))) with hb45 | hb45
                · replace h := h_if hb45 h
                  obtain ⟨c45, h⟩ := h_guard h
                  refine W_reg tbok ⟨[(1, true), (4, true), (5, true), (13, true)], []⟩ [] [0, 1] [(1, .p false (.slice (.prod (.int .i64) (.prod (.int .i64) (.prod (.int .i64) (.int .u8))))) i2), (2, .p false (.int .i64) x1), (5, .adr 0 0 2 0), (10, .adr 1 0 2 0), (14, .p false (.int .i64) v10), (16, .p false (.int .i64) v23), (106, .p false .bool (((i2.getD v23.toNat ((0 : Int), ((0 : Int), ((0 : Int), (0 : Int))))).1) == v10))] [(0, .box [.p β0 (.slice (.prod (.int .i64) (.prod (.int .i64) (.prod (.int .i64) (.int .u8))))) d1, .p β1 (.slice (.int .u8)) d2]), (1, .box [.p false (.int .i64) (0 : Int), .p false (.int .i64) (0 : Int)])] 2 0 [True, True, x3 = true ∧ True, x3 = true ∧ True, x3 = true, True, (decide (v23 > (0 : Int))) = true ∧ True, (decide (v23 > (0 : Int))) = true ∧ True, (decide (v23 > (0 : Int))) = true ∧ 0 ≤ v23 ∧ v23 < (i2.length : Int), (decide (v23 > (0 : Int))) = true ∧ True, (decide (v23 > (0 : Int))) = true ∧ True, (decide (v23 > (0 : Int))) = true ∧ True, (decide (v23 > (0 : Int))) = true ∧ True, (decide (v23 > (0 : Int))) = true] (by kernel_rfl) (by kernel_rfl) ⟨trivial, trivial, ⟨hb44, trivial⟩, ⟨hb44, trivial⟩, hb44, trivial, ⟨hb45, trivial⟩, ⟨hb45, trivial⟩, ⟨hb45, c45⟩, ⟨hb45, trivial⟩, ⟨hb45, trivial⟩, ⟨hb45, trivial⟩, ⟨hb45, trivial⟩, hb45, trivial⟩ ?_
                  obtain rfl := Option.some.inj h
                  exact postN_to (goal_le (gs := []) (f := [0, 1]) (by kernel_rfl) (by kernel_rfl))
                · replace h := h_else hb45 h
                  refine W_reg tbok ⟨[(1, true), (4, true), (5, false), (13, false)], []⟩ [] [0, 1] [(1, .p false (.slice (.prod (.int .i64) (.prod (.int .i64) (.prod (.int .i64) (.int .u8))))) i2), (2, .p false (.int .i64) x1), (5, .adr 0 0 2 0), (10, .adr 1 0 2 0), (14, .p false (.int .i64) v10), (16, .p false (.int .i64) v23), (106, .p false .bool false)] [(0, .box [.p β0 (.slice (.prod (.int .i64) (.prod (.int .i64) (.prod (.int .i64) (.int .u8))))) d1, .p β1 (.slice (.int .u8)) d2]), (1, .box [.p false (.int .i64) (0 : Int), .p false (.int .i64) (0 : Int)])] 2 0 [True, True, x3 = true ∧ True, x3 = true ∧ True, x3 = true, True, (decide (v23 > (0 : Int))) = false, (decide (v23 > (0 : Int))) = false, (decide (v23 > (0 : Int))) = false, (decide (v23 > (0 : Int))) = false, (decide (v23 > (0 : Int))) = false, (decide (v23 > (0 : Int))) = false, (decide (v23 > (0 : Int))) = false, (decide (v23 > (0 : Int))) = false] (by kernel_rfl) (by kernel_rfl) ⟨trivial, trivial, ⟨hb44, trivial⟩, ⟨hb44, trivial⟩, hb44, trivial, hb45, hb45, hb45, hb45, hb45, hb45, hb45, hb45, trivial⟩ ?_
                  obtain rfl := Option.some.inj h
                  exact postN_to (goal_le (gs := []) (f := [0, 1]) (by kernel_rfl) (by kernel_rfl))
              · replace h := h_else hb44 h
                refine W_reg tbok ⟨[(1, false), (4, false), (5, false), (13, false)], []⟩ [] [0, 1] [(1, .p false (.slice (.prod (.int .i64) (.prod (.int .i64) (.prod (.int .i64) (.int .u8))))) i2), (2, .p false (.int .i64) x1), (5, .adr 0 0 2 0), (10, .adr 1 0 2 0), (14, .p false (.int .i64) v10), (16, .p false (.int .i64) v23), (106, .p false .bool false)] [(0, .box [.p β0 (.slice (.prod (.int .i64) (.prod (.int .i64) (.prod (.int .i64) (.int .u8))))) d1, .p β1 (.slice (.int .u8)) d2]), (1, .box [.p false (.int .i64) (0 : Int), .p false (.int .i64) (0 : Int)])] 2 0 [True, True, x3 = false, x3 = false, x3 = false, True, false = false, false = false, false = false, false = false, false = false, false = false, false = false, false = false] (by kernel_rfl) (by kernel_rfl) ⟨trivial, trivial, hb44, hb44, hb44, trivial, rfl, rfl, rfl, rfl, rfl, rfl, rfl, rfl, trivial⟩ ?_
                obtain rfl := Option.some.inj h
                exact postN_to (goal_le (gs := []) (f := [0, 1]) (by kernel_rfl) (by kernel_rfl))
            · clear hp16
              obtain ⟨rfl, hle⟩ := hq
              refine use_to ?_ hle
              refine to_then ?_
              obtain ⟨v27, hp17, h⟩ := h_bind h
              refine W.mono (Q := (postN Try.f15.ntmps (fun (v27 : Int) => mkSt [(1, .p false (.slice (.prod (.int .i64) (.prod (.int .i64) (.prod (.int .i64) (.int .u8))))) i2), (2, .p false (.int .i64) x1), (5, .adr 0 0 2 0), (10, .adr 1 0 2 0), (14, .p false (.int .i64) v10), (16, .p false (.int .i64) v27)] [(0, .box [.p β0 (.slice (.prod (.int .i64) (.prod (.int .i64) (.prod (.int .i64) (.int .u8))))) d1, .p β1 (.slice (.int .u8)) d2]), (1, .box [.p false (.int .i64) (0 : Int), .p false (.int .i64) (0 : Int)])] 2)) v27) ?_ (fun e σ' hq => ?_)
              · replace h := hp17
                clear hp17
                refine W_cond (b := v26) (β := false) (by kernel_rfl) (fun hb47 => ?_) (fun hb47 => ?_)
                · replace h := h_if hb47 h
                  refine W_reg tbok ⟨[], []⟩ [] [0, 1] [(1, .p false (.slice (.prod (.int .i64) (.prod (.int .i64) (.prod (.int .i64) (.int .u8))))) i2), (2, .p false (.int .i64) x1), (5, .adr 0 0 2 0), (10, .adr 1 0 2 0), (14, .p false (.int .i64) v10), (16, .p false (.int .i64) (IntKind.i64.wrap (v23 - (1 : Int))))] [(0, .box [.p β0 (.slice (.prod (.int .i64) (.prod (.int .i64) (.prod (.int .i64) (.int .u8))))) d1, .p β1 (.slice (.int .u8)) d2]), (1, .box [.p false (.int .i64) (0 : Int), .p false (.int .i64) (0 : Int)])] 2 0 [True, True, True] (by kernel_rfl) (by kernel_rfl) ⟨trivial, trivial, trivial, trivial⟩ ?_
                  obtain rfl := Option.some.inj h
                  exact postN_to (goal_le (gs := []) (f := [0, 1]) (by kernel_rfl) (by kernel_rfl))
                · replace h := h_else hb47 h
                  refine W_skip_to ?_
                  obtain rfl := Option.some.inj h
                  exact postN_to (goal_le (gs := []) (f := [0, 1]) (by kernel_rfl) (by kernel_rfl))
              · clear hp17
                obtain ⟨rfl, hle⟩ := hq
                refine use_to ?_ hle
                refine to_then ?_
                refine W_seq ?_
                obtain ⟨c48, h⟩ := h_guard h
                obtain ⟨c49, h⟩ := h_guard h
                obtain ⟨r4, q2, h⟩ := h_bind h
                refine W_regD tbok mixed ⟨[], [(12, ⟨.p false (.slice (.int .i64)) r4, [false, false, false, false], false, [true, true, true, true], [], []⟩)]⟩ [] [1] [(1, .p false (.slice (.prod (.int .i64) (.prod (.int .i64) (.prod (.int .i64) (.int .u8))))) i2), (10, .adr 0 0 2 0), (14, .p false (.int .i64) v10), (16, .p false (.int .i64) v27), (18, .p false (.slice (.int .i64)) r4)] [(0, .box [.p false (.int .i64) (0 : Int), .p false (.int .i64) (0 : Int)])] 1 0 [True, True, True, 0 ≤ v27 ∧ v27 < (i2.length : Int), True, True, True, True, 0 ≤ v27 ∧ v27 < (i2.length : Int), True, True, True, Pure Try.prog 17 [.agg [.p β0 (.slice (.prod (.int .i64) (.prod (.int .i64) (.prod (.int .i64) (.int .u8))))) d1, .p β1 (.slice (.int .u8)) d2], .p false (.int .i64) ((i2.getD v27.toNat ((0 : Int), ((0 : Int), ((0 : Int), (0 : Int))))).1), .p false (.int .i64) ((i2.getD v27.toNat ((0 : Int), ((0 : Int), ((0 : Int), (0 : Int))))).2.1), .p false (.int .i64) x1] (.p false (.slice (.int .i64)) r4), True] (by kernel_rfl) (by kernel_rfl) ⟨trivial, trivial, trivial, c48, trivial, trivial, trivial, trivial, c49, trivial, trivial, trivial, (stanzaref13_Columns_ok β0 β1 d1 d2 ((i2.getD v27.toNat ((0 : Int), ((0 : Int), ((0 : Int), (0 : Int))))).1) ((i2.getD v27.toNat ((0 : Int), ((0 : Int), ((0 : Int), (0 : Int))))).2.1) x1 _ q2), trivial, trivial⟩ ?_
                refine to_then ?_
                refine W_seq ?_
                obtain ⟨c52, h⟩ := h_guard h
                obtain ⟨c53, h⟩ := h_guard h
                refine W_reg tbok ⟨[], []⟩ [] [0] [(10, .adr 0 0 2 0), (11, .p false (.int .i64) (0 : Int))] [(0, .box [.p false (.int .i64) v27, .p false (.int .i64) (r4.getD ((IntKind.i64.wrap (v10 - ((i2.getD v27.toNat ((0 : Int), ((0 : Int), ((0 : Int), (0 : Int))))).1))).toNat) (0 : Int))])] 1 0 [True, True, True, True, True, 0 ≤ v27 ∧ v27 < (i2.length : Int), True, True, True, 0 ≤ (IntKind.i64.wrap (v10 - ((i2.getD v27.toNat ((0 : Int), ((0 : Int), ((0 : Int), (0 : Int))))).1))) ∧ (IntKind.i64.wrap (v10 - ((i2.getD v27.toNat ((0 : Int), ((0 : Int), ((0 : Int), (0 : Int))))).1))) < (r4.length : Int), True, True, True, True] (by kernel_rfl) (by kernel_rfl) ⟨trivial, trivial, trivial, trivial, trivial, c52, trivial, trivial, trivial, c53, trivial, trivial, trivial, trivial, trivial⟩ ?_
                refine to_then ?_
                refine W_ret ?_
                obtain rfl := Option.some.inj h
                exact Ret_intro [(.prod (.int .i64) (.int .i64)), (.int .i64)] (by kernel_rfl)

/-- a loop of 'stanza/stanzalaw17.PlaceSpots': one round -/
def stanzalaw17_PlaceSpots_L1 (x1 : Int) (x2 : Bool) (r11 : (List (Int × Int × Int × Int)) × List Int) (r12 : List (Int × Int × Int × Int)) (r13 : Int) (r14 : Int) (r15 : List (Int × Int × Int × Int)) (r16 : List Int) (r17 : List (Int × Int × Int × Int)) (r18 : List (List Int)) : (Int) → Option ((Int) ⊕ ((Unit) ⊕ (Bool))) := fun (v4 : Int) =>
  (if (decide (v4 < (([x1, (IntKind.i64.wrap (Int.tmod (IntKind.u64.wrap x1) (IntKind.u64.wrap (IntKind.i64.wrap (r13 + (1 : Int)))))), r13, (0 : Int)] : List Int).length : Int))) = true then (if 0 ≤ v4 ∧ v4 < (([x1, (IntKind.i64.wrap (Int.tmod (IntKind.u64.wrap x1) (IntKind.u64.wrap (IntKind.i64.wrap (r13 + (1 : Int)))))), r13, (0 : Int)] : List Int).length : Int) then (if v4.toNat < ([x1, (IntKind.i64.wrap (Int.tmod (IntKind.u64.wrap x1) (IntKind.u64.wrap (IntKind.i64.wrap (r13 + (1 : Int)))))), r13, (0 : Int)] : List Int).length then ((place_Map_Spot r15 r16 r17 r18 (([x1, (IntKind.i64.wrap (Int.tmod (IntKind.u64.wrap x1) (IntKind.u64.wrap (IntKind.i64.wrap (r13 + (1 : Int)))))), r13, (0 : Int)] : List Int).getD v4.toNat (0 : Int)) x2).bind fun ((r38, r39) : (Int × Int) × Int) =>
  ((stanzaref13_Spot r11.1 r11.2 r12 r14 (([x1, (IntKind.i64.wrap (Int.tmod (IntKind.u64.wrap x1) (IntKind.u64.wrap (IntKind.i64.wrap (r13 + (1 : Int)))))), r13, (0 : Int)] : List Int).getD v4.toNat (0 : Int)) x2).bind fun ((r42, r43) : (Int × Int) × Int) =>
  (((if (!((r38.1 == r42.1) && (r38.2 == r42.2))) = true then some (true)
  else some ((r39 != r43)))).bind fun (v5 : Bool) => (if v5 = true then some (Sum.inr (Sum.inr false))
  else some (Sum.inl (IntKind.i64.wrap (v4 + (1 : Int)))))))) else none) else none)
  else some (Sum.inr (Sum.inl ())))

/-- 'stanza/stanzalaw17.PlaceSpots' -/
def stanzalaw17_PlaceSpots (d1 : List (Int × Int × Int × Int)) (i1 : Int) (i2 : Int) (i3 : Int) (i4 : Int) (i5 : Int) (i6 : Nat) (x1 : Int) (x2 : Bool) : Option (Bool) :=
  ((stanzalaw17_Awake).bind fun (r2 : Bool) =>
  (if (!r2) = true then some false
  else ((stanzalaw17_made d1 i1 i2 i3 i4 i5 i6).bind fun ((r11, r12, r13, r14, r15, r16, r17, r18) : ((List (Int × Int × Int × Int)) × List Int) × (List (Int × Int × Int × Int)) × Int × Int × (List (Int × Int × Int × Int)) × (List Int) × (List (Int × Int × Int × Int)) × List (List Int)) =>
  (if ¬ (IntKind.u64.wrap (IntKind.i64.wrap (r13 + (1 : Int)))) = 0 then ((iter (stanzalaw17_PlaceSpots_L1 x1 x2 r11 r12 r13 r14 r15 r16 r17 r18) (0 : Int)).bind fun (r44 : ((Unit) ⊕ (Bool))) => match r44 with
  | .inl _ => ((place_Map_Rows r15 r16 r17 r18).bind fun (r46 : Int) =>
  some (r46 == (max (r12.length : Int) (1 : Int))))
  | .inr (r35) => some r35) else none))))

set_option maxRecDepth 100000 in
set_option maxHeartbeats 4000000 in
theorem stanzalaw17_PlaceSpots_ok (β0 : Bool) (d1 : List (Int × Int × Int × Int)) (i1 : Int) (i2 : Int) (i3 : Int) (i4 : Int) (i5 : Int) (i6 : Nat) (x1 : Int) (x2 : Bool) (res : Bool) (h : stanzalaw17_PlaceSpots d1 i1 i2 i3 i4 i5 i6 x1 x2 = some res) :
    Pure Try.prog 4 [.p β0 (.slice (.prod (.int .u8) (.prod (.int .u8) (.prod (.int .u8) (.int .u8))))) d1, .agg [.p false (.int .u8) i1, .p false (.int .u8) i2, .p false (.int .u8) i3, .p false (.int .u16) i4, .p false (.int .u16) i5, .p false .flt i6], .p false (.int .i64) x1, .p false .bool x2] (wrapR (encs false [⟨.bool, res⟩])) := by
  refine Pure.of_body tbok Try.func4 (by kernel_rfl) rfl (Nat.le_of_ble_eq_true rfl) (fun Bw w0 => ?_) rfl
  unfold stanzalaw17_PlaceSpots at h
  refine W_seq ?_
  refine W_reg tbok ⟨[], []⟩ [] [0] [(0, .p β0 (.slice (.prod (.int .u8) (.prod (.int .u8) (.prod (.int .u8) (.int .u8))))) d1), (2, .p false (.int .i64) x1), (3, .p false .bool x2), (5, .adr 0 0 6 0)] [(0, .box [.p false (.int .u8) i1, .p false (.int .u8) i2, .p false (.int .u8) i3, .p false (.int .u16) i4, .p false (.int .u16) i5, .p false .flt i6])] 1 0 [True, True] (by kernel_rfl) (by kernel_rfl) ⟨trivial, trivial, trivial⟩ ?_
  refine to_then ?_
  refine W_seq ?_
  refine W_seq ?_
  obtain ⟨r2, q2, h⟩ := h_bind h
  refine W_reg tbok ⟨[], [(0, ⟨.p false .bool r2, [], false, [], [], []⟩)]⟩ [] [0] [(0, .p β0 (.slice (.prod (.int .u8) (.prod (.int .u8) (.prod (.int .u8) (.int .u8))))) d1), (2, .p false (.int .i64) x1), (3, .p false .bool x2), (5, .adr 0 0 6 0), (21, .p false .bool (!r2))] [(0, .box [.p false (.int .u8) i1, .p false (.int .u8) i2, .p false (.int .u8) i3, .p false (.int .u16) i4, .p false (.int .u16) i5, .p false .flt i6])] 1 0 [Pure Try.prog 10 [] (.p false .bool r2), True] (by kernel_rfl) (by kernel_rfl) ⟨(stanzalaw17_Awake_ok _ q2), trivial, trivial⟩ ?_
  refine to_then ?_
  refine W_cond (b := (!r2)) (β := false) (by kernel_rfl) (fun hb1 => ?_) (fun hb1 => ?_)
  · replace h := h_if hb1 h
    refine W_seq ?_
    refine W_reg tbok ⟨[], []⟩ [] [] [(8, .p false .bool false)] [] 0 0 [True] (by kernel_rfl) (by kernel_rfl) ⟨trivial, trivial⟩ ?_
    refine to_then ?_
    refine W_ret ?_
    refine thenQ_ret ?_
    obtain rfl := Option.some.inj h
    exact Ret_intro [.bool] (by kernel_rfl)
  · replace h := h_else hb1 h
    refine W_skip_to ?_
    refine to_then ?_
    refine W_seq ?_
    obtain ⟨⟨r11, r12, r13, r14, r15, r16, r17, r18⟩, q4, h⟩ := h_bind h
    refine W_reg tbok ⟨[], [(2, ⟨.tup [.agg [.p false (.slice (.prod (.int .i64) (.prod (.int .i64) (.prod (.int .i64) (.int .u8))))) r11.1, .p false (.slice (.int .u8)) r11.2], .p false (.slice (.prod (.int .i64) (.prod (.int .i64) (.prod (.int .i64) (.int .u8))))) r12, .adr 0 0 4 0, .p false (.int .i64) r13, .p false (.int .i64) r14], [false, false], true, [true, true], [], [(0, .box [.p false (.slice (.prod (.int .i64) (.prod (.int .i64) (.prod (.int .i64) (.int .u8))))) r15, .p false (.slice (.int .u8)) r16, .p false (.slice (.prod (.int .i64) (.prod (.int .i64) (.prod (.int .i64) (.int .u8))))) r17, .sl 1]), (1, .arr 46 (.slice (.int .i64)) r18)]⟩)]⟩ [] [73, 17, 18] [(2, .p false (.int .i64) x1), (3, .p false .bool x2), (9, .adr 0 0 2 0), (10, .p false (.slice (.prod (.int .i64) (.prod (.int .i64) (.prod (.int .i64) (.int .u8))))) r12), (11, .adr 1 0 4 0), (12, .p false (.int .i64) r13), (13, .p false (.int .i64) r14)] [(0, .box [.p false (.slice (.prod (.int .i64) (.prod (.int .i64) (.prod (.int .i64) (.int .u8))))) r11.1, .p false (.slice (.int .u8)) r11.2]), (1, .box [.p false (.slice (.prod (.int .i64) (.prod (.int .i64) (.prod (.int .i64) (.int .u8))))) r15, .p false (.slice (.int .u8)) r16, .p false (.slice (.prod (.int .i64) (.prod (.int .i64) (.prod (.int .i64) (.int .u8))))) r17, .sl 2]), (2, .arr 46 (.slice (.int .i64)) r18)] 3 0 [True, True, Owns Try.prog 14 [.p β0 (.slice (.prod (.int .u8) (.prod (.int .u8) (.prod (.int .u8) (.int .u8))))) d1, .agg [.p false (.int .u8) i1, .p false (.int .u8) i2, .p false (.int .u8) i3, .p false (.int .u16) i4, .p false (.int .u16) i5, .p false .flt i6]] [] (.tup [.agg [.p false (.slice (.prod (.int .i64) (.prod (.int .i64) (.prod (.int .i64) (.int .u8))))) r11.1, .p false (.slice (.int .u8)) r11.2], .p false (.slice (.prod (.int .i64) (.prod (.int .i64) (.prod (.int .i64) (.int .u8))))) r12, .adr 0 0 4 0, .p false (.int .i64) r13, .p false (.int .i64) r14]) [(0, .box [.p false (.slice (.prod (.int .i64) (.prod (.int .i64) (.prod (.int .i64) (.int .u8))))) r15, .p false (.slice (.int .u8)) r16, .p false (.slice (.prod (.int .i64) (.prod (.int .i64) (.prod (.int .i64) (.int .u8))))) r17, .sl 1]), (1, .arr 46 (.slice (.int .i64)) r18)], True, True, True, True, True, True, True, True, True, True, True, True] (by kernel_rfl) (by kernel_rfl) ⟨trivial, trivial, (stanzalaw17_made_ok β0 d1 i1 i2 i3 i4 i5 i6 _ q4), trivial, trivial, trivial, trivial, trivial, trivial, trivial, trivial, trivial, trivial, trivial, trivial, trivial⟩ ?_
    refine to_then ?_
    refine W_seq ?_
    refine W_seq ?_
    obtain ⟨c2, h⟩ := h_guard h
    refine W_reg tbok ⟨[], []⟩ [] [0, 1, 2, 75] [(3, .p false .bool x2), (9, .adr 0 0 2 0), (10, .p false (.slice (.prod (.int .i64) (.prod (.int .i64) (.prod (.int .i64) (.int .u8))))) r12), (11, .adr 1 0 4 0), (13, .p false (.int .i64) r14), (40, .sl 3), (41, .p false (.int .i64) (([x1, (IntKind.i64.wrap (Int.tmod (IntKind.u64.wrap x1) (IntKind.u64.wrap (IntKind.i64.wrap (r13 + (1 : Int)))))), r13, (0 : Int)] : List Int).length : Int)), (42, .p false (.int .i64) (0 : Int))] [(0, .box [.p false (.slice (.prod (.int .i64) (.prod (.int .i64) (.prod (.int .i64) (.int .u8))))) r11.1, .p false (.slice (.int .u8)) r11.2]), (1, .box [.p false (.slice (.prod (.int .i64) (.prod (.int .i64) (.prod (.int .i64) (.int .u8))))) r15, .p false (.slice (.int .u8)) r16, .p false (.slice (.prod (.int .i64) (.prod (.int .i64) (.prod (.int .i64) (.int .u8))))) r17, .sl 2]), (2, .arr 46 (.slice (.int .i64)) r18), (3, .arr 3 (.int .i64) ([x1, (IntKind.i64.wrap (Int.tmod (IntKind.u64.wrap x1) (IntKind.u64.wrap (IntKind.i64.wrap (r13 + (1 : Int)))))), r13, (0 : Int)] : List Int))] 4 0 [True, True, True, True, True, True, ¬ (IntKind.u64.wrap (IntKind.i64.wrap (r13 + (1 : Int)))) = 0, True, True, True, True, True] (by kernel_rfl) (by kernel_rfl) ⟨trivial, trivial, trivial, trivial, trivial, trivial, c2, trivial, trivial, trivial, trivial, trivial, trivial⟩ ?_
    refine to_then ?_
    refine W_block ?_
    obtain ⟨r44, hp4, h⟩ := h_bind h
    refine W.mono (Q := (postS (postX Try.f4.ntmps 0 (fun (_ : Unit) => mkSt [(10, .p false (.slice (.prod (.int .i64) (.prod (.int .i64) (.prod (.int .i64) (.int .u8))))) r12), (11, .adr 0 0 4 0)] [(0, .box [.p false (.slice (.prod (.int .i64) (.prod (.int .i64) (.prod (.int .i64) (.int .u8))))) r15, .p false (.slice (.int .u8)) r16, .p false (.slice (.prod (.int .i64) (.prod (.int .i64) (.prod (.int .i64) (.int .u8))))) r17, .sl 1]), (1, .arr 46 (.slice (.int .i64)) r18)] 2)) (postR tb Try.f4.results.toList (fun (r35 : Bool) => [⟨.bool, r35⟩]))) r44) (W_iter (f := fun (v4 : Int) => mkSt [(3, .p false .bool x2), (9, .adr 0 0 2 0), (10, .p false (.slice (.prod (.int .i64) (.prod (.int .i64) (.prod (.int .i64) (.int .u8))))) r12), (11, .adr 1 0 4 0), (13, .p false (.int .i64) r14), (40, .sl 3), (41, .p false (.int .i64) (([x1, (IntKind.i64.wrap (Int.tmod (IntKind.u64.wrap x1) (IntKind.u64.wrap (IntKind.i64.wrap (r13 + (1 : Int)))))), r13, (0 : Int)] : List Int).length : Int)), (42, .p false (.int .i64) v4)] [(0, .box [.p false (.slice (.prod (.int .i64) (.prod (.int .i64) (.prod (.int .i64) (.int .u8))))) r11.1, .p false (.slice (.int .u8)) r11.2]), (1, .box [.p false (.slice (.prod (.int .i64) (.prod (.int .i64) (.prod (.int .i64) (.int .u8))))) r15, .p false (.slice (.int .u8)) r16, .p false (.slice (.prod (.int .i64) (.prod (.int .i64) (.prod (.int .i64) (.int .u8))))) r17, .sl 2]), (2, .arr 46 (.slice (.int .i64)) r18), (3, .arr 3 (.int .i64) ([x1, (IntKind.i64.wrap (Int.tmod (IntKind.u64.wrap x1) (IntKind.u64.wrap (IntKind.i64.wrap (r13 + (1 : Int)))))), r13, (0 : Int)] : List Int))] 4) (Q := (postS (postX Try.f4.ntmps 0 (fun (_ : Unit) => mkSt [(10, .p false (.slice (.prod (.int .i64) (.prod (.int .i64) (.prod (.int .i64) (.int .u8))))) r12), (11, .adr 0 0 4 0)] [(0, .box [.p false (.slice (.prod (.int .i64) (.prod (.int .i64) (.prod (.int .i64) (.int .u8))))) r15, .p false (.slice (.int .u8)) r16, .p false (.slice (.prod (.int .i64) (.prod (.int .i64) (.prod (.int .i64) (.int .u8))))) r17, .sl 1]), (1, .arr 46 (.slice (.int .i64)) r18)] 2)) (postR tb Try.f4.results.toList (fun (r35 : Bool) => [⟨.bool, r35⟩])))) hp4 (goal_le (gs := []) (f := [0, 1, 2, 3]) (by kernel_rfl) (by kernel_rfl)) (fun v4 o ho => ?_)) (fun e σ' hq => ?_)
    · replace h := ho
      clear ho hp4
      unfold stanzalaw17_PlaceSpots_L1 at h
      refine W_seq ?_
      refine W_reg tbok ⟨[], []⟩ [] [0, 1, 2, 3] [(3, .p false .bool x2), (9, .adr 0 0 2 0), (10, .p false (.slice (.prod (.int .i64) (.prod (.int .i64) (.prod (.int .i64) (.int .u8))))) r12), (11, .adr 1 0 4 0), (13, .p false (.int .i64) r14), (40, .sl 3), (41, .p false (.int .i64) (([x1, (IntKind.i64.wrap (Int.tmod (IntKind.u64.wrap x1) (IntKind.u64.wrap (IntKind.i64.wrap (r13 + (1 : Int)))))), r13, (0 : Int)] : List Int).length : Int)), (42, .p false (.int .i64) v4), (43, .p false .bool (decide (v4 < (([x1, (IntKind.i64.wrap (Int.tmod (IntKind.u64.wrap x1) (IntKind.u64.wrap (IntKind.i64.wrap (r13 + (1 : Int)))))), r13, (0 : Int)] : List Int).length : Int))))] [(0, .box [.p false (.slice (.prod (.int .i64) (.prod (.int .i64) (.prod (.int .i64) (.int .u8))))) r11.1, .p false (.slice (.int .u8)) r11.2]), (1, .box [.p false (.slice (.prod (.int .i64) (.prod (.int .i64) (.prod (.int .i64) (.int .u8))))) r15, .p false (.slice (.int .u8)) r16, .p false (.slice (.prod (.int .i64) (.prod (.int .i64) (.prod (.int .i64) (.int .u8))))) r17, .sl 2]), (2, .arr 46 (.slice (.int .i64)) r18), (3, .arr 3 (.int .i64) ([x1, (IntKind.i64.wrap (Int.tmod (IntKind.u64.wrap x1) (IntKind.u64.wrap (IntKind.i64.wrap (r13 + (1 : Int)))))), r13, (0 : Int)] : List Int))] 4 0 [True] (by kernel_rfl) (by kernel_rfl) ⟨trivial, trivial⟩ ?_
      refine to_then ?_
      refine W_seq ?_
      refine W_cond (b := (decide (v4 < (([x1, (IntKind.i64.wrap (Int.tmod (IntKind.u64.wrap x1) (IntKind.u64.wrap (IntKind.i64.wrap (r13 + (1 : Int)))))), r13, (0 : Int)] : List Int).length : Int)))) (β := false) (by kernel_rfl) (fun hb12 => ?_) (fun hb12 => ?_)
      · replace h := h_if hb12 h
        refine W_skip_to ?_
        refine to_then ?_
        refine W_seq ?_
        refine W_block ?_
        refine W_seq ?_
        obtain ⟨c13, h⟩ := h_guard h
        obtain ⟨c14, h⟩ := h_guard h
        refine W_reg tbok ⟨[], []⟩ [] [0, 1, 2, 3] [(3, .p false .bool x2), (9, .adr 0 0 2 0), (10, .p false (.slice (.prod (.int .i64) (.prod (.int .i64) (.prod (.int .i64) (.int .u8))))) r12), (11, .adr 1 0 4 0), (13, .p false (.int .i64) r14), (15, .p false (.int .i64) (([x1, (IntKind.i64.wrap (Int.tmod (IntKind.u64.wrap x1) (IntKind.u64.wrap (IntKind.i64.wrap (r13 + (1 : Int)))))), r13, (0 : Int)] : List Int).getD v4.toNat (0 : Int))), (40, .sl 3), (41, .p false (.int .i64) (([x1, (IntKind.i64.wrap (Int.tmod (IntKind.u64.wrap x1) (IntKind.u64.wrap (IntKind.i64.wrap (r13 + (1 : Int)))))), r13, (0 : Int)] : List Int).length : Int)), (42, .p false (.int .i64) v4)] [(0, .box [.p false (.slice (.prod (.int .i64) (.prod (.int .i64) (.prod (.int .i64) (.int .u8))))) r11.1, .p false (.slice (.int .u8)) r11.2]), (1, .box [.p false (.slice (.prod (.int .i64) (.prod (.int .i64) (.prod (.int .i64) (.int .u8))))) r15, .p false (.slice (.int .u8)) r16, .p false (.slice (.prod (.int .i64) (.prod (.int .i64) (.prod (.int .i64) (.int .u8))))) r17, .sl 2]), (2, .arr 46 (.slice (.int .i64)) r18), (3, .arr 3 (.int .i64) ([x1, (IntKind.i64.wrap (Int.tmod (IntKind.u64.wrap x1) (IntKind.u64.wrap (IntKind.i64.wrap (r13 + (1 : Int)))))), r13, (0 : Int)] : List Int))] 4 0 [0 ≤ v4 ∧ v4 < (([x1, (IntKind.i64.wrap (Int.tmod (IntKind.u64.wrap x1) (IntKind.u64.wrap (IntKind.i64.wrap (r13 + (1 : Int)))))), r13, (0 : Int)] : List Int).length : Int), v4.toNat < ([x1, (IntKind.i64.wrap (Int.tmod (IntKind.u64.wrap x1) (IntKind.u64.wrap (IntKind.i64.wrap (r13 + (1 : Int)))))), r13, (0 : Int)] : List Int).length, True] (by kernel_rfl) (by kernel_rfl) ⟨c13, c14, trivial, trivial⟩ ?_
        refine to_then ?_
        refine W_seq ?_
        obtain ⟨⟨r38, r39⟩, q14, h⟩ := h_bind h
        refine W_reg tbok ⟨[], [(3, ⟨.tup [.agg [.p false (.int .i64) r38.1, .p false (.int .i64) r38.2], .p false (.int .i64) r39], [false, false, false], false, [true, true, true], [], []⟩)]⟩ [] [0, 1, 2, 60, 3] [(3, .p false .bool x2), (9, .adr 0 0 2 0), (10, .p false (.slice (.prod (.int .i64) (.prod (.int .i64) (.prod (.int .i64) (.int .u8))))) r12), (11, .adr 1 0 4 0), (13, .p false (.int .i64) r14), (15, .p false (.int .i64) (([x1, (IntKind.i64.wrap (Int.tmod (IntKind.u64.wrap x1) (IntKind.u64.wrap (IntKind.i64.wrap (r13 + (1 : Int)))))), r13, (0 : Int)] : List Int).getD v4.toNat (0 : Int))), (16, .adr 3 0 2 0), (17, .p false (.int .i64) r39), (40, .sl 4), (41, .p false (.int .i64) (([x1, (IntKind.i64.wrap (Int.tmod (IntKind.u64.wrap x1) (IntKind.u64.wrap (IntKind.i64.wrap (r13 + (1 : Int)))))), r13, (0 : Int)] : List Int).length : Int)), (42, .p false (.int .i64) v4)] [(0, .box [.p false (.slice (.prod (.int .i64) (.prod (.int .i64) (.prod (.int .i64) (.int .u8))))) r11.1, .p false (.slice (.int .u8)) r11.2]), (1, .box [.p false (.slice (.prod (.int .i64) (.prod (.int .i64) (.prod (.int .i64) (.int .u8))))) r15, .p false (.slice (.int .u8)) r16, .p false (.slice (.prod (.int .i64) (.prod (.int .i64) (.prod (.int .i64) (.int .u8))))) r17, .sl 2]), (2, .arr 46 (.slice (.int .i64)) r18), (3, .box [.p false (.int .i64) r38.1, .p false (.int .i64) r38.2]), (4, .arr 3 (.int .i64) ([x1, (IntKind.i64.wrap (Int.tmod (IntKind.u64.wrap x1) (IntKind.u64.wrap (IntKind.i64.wrap (r13 + (1 : Int)))))), r13, (0 : Int)] : List Int))] 5 0 [True, True, True, Pure Try.prog 11 [.fad true [.p false (.slice (.prod (.int .i64) (.prod (.int .i64) (.prod (.int .i64) (.int .u8))))) r15, .p false (.slice (.int .u8)) r16, .p false (.slice (.prod (.int .i64) (.prod (.int .i64) (.prod (.int .i64) (.int .u8))))) r17, .p true (.slice (.slice (.int .i64))) r18] 0, .p false (.int .i64) (([x1, (IntKind.i64.wrap (Int.tmod (IntKind.u64.wrap x1) (IntKind.u64.wrap (IntKind.i64.wrap (r13 + (1 : Int)))))), r13, (0 : Int)] : List Int).getD v4.toNat (0 : Int)), .p false .bool x2] (.tup [.agg [.p false (.int .i64) r38.1, .p false (.int .i64) r38.2], .p false (.int .i64) r39]), True, True, True, True, True, True] (by kernel_rfl) (by kernel_rfl) ⟨trivial, trivial, trivial, (place_Map_Spot_ok false false false true r15 r16 r17 r18 (([x1, (IntKind.i64.wrap (Int.tmod (IntKind.u64.wrap x1) (IntKind.u64.wrap (IntKind.i64.wrap (r13 + (1 : Int)))))), r13, (0 : Int)] : List Int).getD v4.toNat (0 : Int)) x2 _ q14), trivial, trivial, trivial, trivial, trivial, trivial, trivial⟩ ?_
        refine to_then ?_
        refine W_seq ?_
        obtain ⟨⟨r42, r43⟩, q16, h⟩ := h_bind h
        refine W_reg tbok ⟨[], [(5, ⟨.tup [.agg [.p false (.int .i64) r42.1, .p false (.int .i64) r42.2], .p false (.int .i64) r43], [false, false, false, false, false], false, [true, true, true, true, true], [], []⟩)]⟩ [] [0, 1, 2, 3, 77, 4] [(3, .p false .bool x2), (9, .adr 0 0 2 0), (10, .p false (.slice (.prod (.int .i64) (.prod (.int .i64) (.prod (.int .i64) (.int .u8))))) r12), (11, .adr 1 0 4 0), (13, .p false (.int .i64) r14), (16, .adr 3 0 2 0), (17, .p false (.int .i64) r39), (18, .adr 4 0 2 0), (19, .p false (.int .i64) r43), (40, .sl 5), (41, .p false (.int .i64) (([x1, (IntKind.i64.wrap (Int.tmod (IntKind.u64.wrap x1) (IntKind.u64.wrap (IntKind.i64.wrap (r13 + (1 : Int)))))), r13, (0 : Int)] : List Int).length : Int)), (42, .p false (.int .i64) v4)] [(0, .box [.p false (.slice (.prod (.int .i64) (.prod (.int .i64) (.prod (.int .i64) (.int .u8))))) r11.1, .p false (.slice (.int .u8)) r11.2]), (1, .box [.p false (.slice (.prod (.int .i64) (.prod (.int .i64) (.prod (.int .i64) (.int .u8))))) r15, .p false (.slice (.int .u8)) r16, .p false (.slice (.prod (.int .i64) (.prod (.int .i64) (.prod (.int .i64) (.int .u8))))) r17, .sl 2]), (2, .arr 46 (.slice (.int .i64)) r18), (3, .box [.p false (.int .i64) r38.1, .p false (.int .i64) r38.2]), (4, .box [.p false (.int .i64) r42.1, .p false (.int .i64) r42.2]), (5, .arr 3 (.int .i64) ([x1, (IntKind.i64.wrap (Int.tmod (IntKind.u64.wrap x1) (IntKind.u64.wrap (IntKind.i64.wrap (r13 + (1 : Int)))))), r13, (0 : Int)] : List Int))] 6 0 [True, True, True, True, True, Pure Try.prog 15 [.agg [.p false (.slice (.prod (.int .i64) (.prod (.int .i64) (.prod (.int .i64) (.int .u8))))) r11.1, .p false (.slice (.int .u8)) r11.2], .p false (.slice (.prod (.int .i64) (.prod (.int .i64) (.prod (.int .i64) (.int .u8))))) r12, .p false (.int .i64) r14, .p false (.int .i64) (([x1, (IntKind.i64.wrap (Int.tmod (IntKind.u64.wrap x1) (IntKind.u64.wrap (IntKind.i64.wrap (r13 + (1 : Int)))))), r13, (0 : Int)] : List Int).getD v4.toNat (0 : Int)), .p false .bool x2] (.tup [.agg [.p false (.int .i64) r42.1, .p false (.int .i64) r42.2], .p false (.int .i64) r43]), True, True, True, True, True, True] (by kernel_rfl) (by kernel_rfl) ⟨trivial, trivial, trivial, trivial, trivial, (stanzaref13_Spot_ok false false r11.1 r11.2 r12 r14 (([x1, (IntKind.i64.wrap (Int.tmod (IntKind.u64.wrap x1) (IntKind.u64.wrap (IntKind.i64.wrap (r13 + (1 : Int)))))), r13, (0 : Int)] : List Int).getD v4.toNat (0 : Int)) x2 _ q16), trivial, trivial, trivial, trivial, trivial, trivial, trivial⟩ ?_
        refine to_then ?_
        refine W_seq ?_
        obtain ⟨v5, hp3, h⟩ := h_bind h
        refine W.mono (Q := (postN Try.f4.ntmps (fun (v5 : Bool) => mkSt [(3, .p false .bool x2), (9, .adr 0 0 2 0), (10, .p false (.slice (.prod (.int .i64) (.prod (.int .i64) (.prod (.int .i64) (.int .u8))))) r12), (11, .adr 1 0 4 0), (13, .p false (.int .i64) r14), (40, .sl 3), (41, .p false (.int .i64) (([x1, (IntKind.i64.wrap (Int.tmod (IntKind.u64.wrap x1) (IntKind.u64.wrap (IntKind.i64.wrap (r13 + (1 : Int)))))), r13, (0 : Int)] : List Int).length : Int)), (42, .p false (.int .i64) v4), (69, .p false .bool v5)] [(0, .box [.p false (.slice (.prod (.int .i64) (.prod (.int .i64) (.prod (.int .i64) (.int .u8))))) r11.1, .p false (.slice (.int .u8)) r11.2]), (1, .box [.p false (.slice (.prod (.int .i64) (.prod (.int .i64) (.prod (.int .i64) (.int .u8))))) r15, .p false (.slice (.int .u8)) r16, .p false (.slice (.prod (.int .i64) (.prod (.int .i64) (.prod (.int .i64) (.int .u8))))) r17, .sl 2]), (2, .arr 46 (.slice (.int .i64)) r18), (3, .arr 3 (.int .i64) ([x1, (IntKind.i64.wrap (Int.tmod (IntKind.u64.wrap x1) (IntKind.u64.wrap (IntKind.i64.wrap (r13 + (1 : Int)))))), r13, (0 : Int)] : List Int))] 4)) v5) ?_ (fun e σ' hq => ?_)
        · replace h := hp3
          clear hp3
          rcases Bool.eq_false_or_eq_true (!((r38.1 == r42.1) && (r38.2 == r42.2))) with hb15 | hb15
          · replace h := h_if hb15 h
            refine W_reg tbok ⟨[(3, true), (7, true)], []⟩ [] [0, 1, 2, 5] [(3, .p false .bool x2), (9, .adr 0 0 2 0), (10, .p false (.slice (.prod (.int .i64) (.prod (.int .i64) (.prod (.int .i64) (.int .u8))))) r12), (11, .adr 1 0 4 0), (13, .p false (.int .i64) r14), (40, .sl 3), (41, .p false (.int .i64) (([x1, (IntKind.i64.wrap (Int.tmod (IntKind.u64.wrap x1) (IntKind.u64.wrap (IntKind.i64.wrap (r13 + (1 : Int)))))), r13, (0 : Int)] : List Int).length : Int)), (42, .p false (.int .i64) v4), (69, .p false .bool true)] [(0, .box [.p false (.slice (.prod (.int .i64) (.prod (.int .i64) (.prod (.int .i64) (.int .u8))))) r11.1, .p false (.slice (.int .u8)) r11.2]), (1, .box [.p false (.slice (.prod (.int .i64) (.prod (.int .i64) (.prod (.int .i64) (.int .u8))))) r15, .p false (.slice (.int .u8)) r16, .p false (.slice (.prod (.int .i64) (.prod (.int .i64) (.prod (.int .i64) (.int .u8))))) r17, .sl 2]), (2, .arr 46 (.slice (.int .i64)) r18), (3, .arr 3 (.int .i64) ([x1, (IntKind.i64.wrap (Int.tmod (IntKind.u64.wrap x1) (IntKind.u64.wrap (IntKind.i64.wrap (r13 + (1 : Int)))))), r13, (0 : Int)] : List Int))] 4 0 [True, True, EqOk Try.prog 23 (.prod (.int .i64) (.int .i64)), True, (!((r38.1 == r42.1) && (r38.2 == r42.2))) = true, (!((r38.1 == r42.1) && (r38.2 == r42.2))) = true, (!((r38.1 == r42.1) && (r38.2 == r42.2))) = true, (!((r38.1 == r42.1) && (r38.2 == r42.2))) = true] (by kernel_rfl) (by kernel_rfl) ⟨trivial, trivial, eq23, trivial, hb15, hb15, hb15, hb15, trivial⟩ ?_
            obtain rfl := Option.some.inj h
            exact postN_to (goal_le (gs := []) (f := [0, 1, 2, 3]) (by kernel_rfl) (by kernel_rfl))
          · replace h := h_else hb15 h
            refine W_reg tbok ⟨[(3, false), (7, false)], []⟩ [] [0, 1, 2, 5] [(3, .p false .bool x2), (9, .adr 0 0 2 0), (10, .p false (.slice (.prod (.int .i64) (.prod (.int .i64) (.prod (.int .i64) (.int .u8))))) r12), (11, .adr 1 0 4 0), (13, .p false (.int .i64) r14), (40, .sl 3), (41, .p false (.int .i64) (([x1, (IntKind.i64.wrap (Int.tmod (IntKind.u64.wrap x1) (IntKind.u64.wrap (IntKind.i64.wrap (r13 + (1 : Int)))))), r13, (0 : Int)] : List Int).length : Int)), (42, .p false (.int .i64) v4), (69, .p false .bool (r39 != r43))] [(0, .box [.p false (.slice (.prod (.int .i64) (.prod (.int .i64) (.prod (.int .i64) (.int .u8))))) r11.1, .p false (.slice (.int .u8)) r11.2]), (1, .box [.p false (.slice (.prod (.int .i64) (.prod (.int .i64) (.prod (.int .i64) (.int .u8))))) r15, .p false (.slice (.int .u8)) r16, .p false (.slice (.prod (.int .i64) (.prod (.int .i64) (.prod (.int .i64) (.int .u8))))) r17, .sl 2]), (2, .arr 46 (.slice (.int .i64)) r18), (3, .arr 3 (.int .i64) ([x1, (IntKind.i64.wrap (Int.tmod (IntKind.u64.wrap x1) (IntKind.u64.wrap (IntKind.i64.wrap (r13 + (1 : Int)))))), r13, (0 : Int)] : List Int))] 4 0 [True, True, EqOk Try.prog 23 (.prod (.int .i64) (.int .i64)), True, (!((r38.1 == r42.1) && (r38.2 == r42.2))) = false ∧ True, (!((r38.1 == r42.1) && (r38.2 == r42.2))) = false ∧ True, (!((r38.1 == r42.1) && (r38.2 == r42.2))) = false ∧ True, (!((r38.1 == r42.1) && (r38.2 == r42.2))) = false] (by kernel_rfl) (by kernel_rfl) ⟨trivial, trivial, eq23, trivial, ⟨hb15, trivial⟩, ⟨hb15, trivial⟩, ⟨hb15, trivial⟩, hb15, trivial⟩ ?_
            obtain rfl := Option.some.inj h
            exact postN_to (goal_le (gs := []) (f := [0, 1, 2, 3]) (by kernel_rfl) (by kernel_rfl))
        · clear hp3
          obtain ⟨rfl, hle⟩ := hq
          refine use_to ?_ hle
          refine to_then ?_
          refine W_cond (b := v5) (β := false) (by kernel_rfl) (fun hb16 => ?_) (fun hb16 => ?_)
          · replace h := h_if hb16 h
            refine W_seq ?_
            refine W_reg tbok ⟨[], []⟩ [] [] [(8, .p false .bool false)] [] 0 0 [True] (by kernel_rfl) (by kernel_rfl) ⟨trivial, trivial⟩ ?_
            refine to_then ?_
            refine W_ret ?_
            obtain rfl := Option.some.inj h
            refine blockQ_ret ?_
            refine thenQ_ret ?_
            refine round_ret ?_
            refine postS_rr ?_
            exact postR_mk (Ret_intro [.bool] (by kernel_rfl))
          · replace h := h_else hb16 h
            refine W_skip_to ?_
            refine to_block ?_
            refine to_then ?_
            refine W_reg tbok ⟨[], []⟩ [] [0, 1, 2, 3] [(3, .p false .bool x2), (9, .adr 0 0 2 0), (10, .p false (.slice (.prod (.int .i64) (.prod (.int .i64) (.prod (.int .i64) (.int .u8))))) r12), (11, .adr 1 0 4 0), (13, .p false (.int .i64) r14), (40, .sl 3), (41, .p false (.int .i64) (([x1, (IntKind.i64.wrap (Int.tmod (IntKind.u64.wrap x1) (IntKind.u64.wrap (IntKind.i64.wrap (r13 + (1 : Int)))))), r13, (0 : Int)] : List Int).length : Int)), (42, .p false (.int .i64) (IntKind.i64.wrap (v4 + (1 : Int))))] [(0, .box [.p false (.slice (.prod (.int .i64) (.prod (.int .i64) (.prod (.int .i64) (.int .u8))))) r11.1, .p false (.slice (.int .u8)) r11.2]), (1, .box [.p false (.slice (.prod (.int .i64) (.prod (.int .i64) (.prod (.int .i64) (.int .u8))))) r15, .p false (.slice (.int .u8)) r16, .p false (.slice (.prod (.int .i64) (.prod (.int .i64) (.prod (.int .i64) (.int .u8))))) r17, .sl 2]), (2, .arr 46 (.slice (.int .i64)) r18), (3, .arr 3 (.int .i64) ([x1, (IntKind.i64.wrap (Int.tmod (IntKind.u64.wrap x1) (IntKind.u64.wrap (IntKind.i64.wrap (r13 + (1 : Int)))))), r13, (0 : Int)] : List Int))] 4 0 [True, True] (by kernel_rfl) (by kernel_rfl) ⟨trivial, trivial, trivial⟩ ?_
            obtain rfl := Option.some.inj h
            exact roundB (goal_le (gs := []) (f := [0, 1, 2, 3]) (by kernel_rfl) (by kernel_rfl))
      · replace h := h_else hb12 h
        refine W_exit_to ?_
        refine thenE ?_
        obtain rfl := Option.some.inj h
        refine roundE ?_
        refine postS_l ?_
        exact postX_to (goal_le (gs := []) (f := [1, 2]) (by kernel_rfl) (by kernel_rfl))
    · clear hp4
      rcases r44 with _ | r35
      · obtain ⟨rfl, hle⟩ := hq
        refine use_to ?_ hle
        refine blockE_eq ?_
        refine to_then ?_
        refine W_seq ?_
        obtain ⟨r46, q18, h⟩ := h_bind h
        refine W_reg tbok ⟨[], [(1, ⟨.p false (.int .i64) r46, [false], false, [true], [], []⟩)]⟩ [] [] [(8, .p false .bool (r46 == (max (r12.length : Int) (1 : Int))))] [] 0 0 [True, Pure Try.prog 13 [.fad true [.p false (.slice (.prod (.int .i64) (.prod (.int .i64) (.prod (.int .i64) (.int .u8))))) r15, .p false (.slice (.int .u8)) r16, .p false (.slice (.prod (.int .i64) (.prod (.int .i64) (.prod (.int .i64) (.int .u8))))) r17, .p true (.slice (.slice (.int .i64))) r18] 0] (.p false (.int .i64) r46), True, True, True, True, True] (by kernel_rfl) (by kernel_rfl) ⟨trivial, (place_Map_Rows_ok false false false true r15 r16 r17 r18 _ q18), trivial, trivial, trivial, trivial, trivial, trivial⟩ ?_
        refine to_then ?_
        refine W_ret ?_
        obtain rfl := Option.some.inj h
        exact Ret_intro [.bool] (by kernel_rfl)
      · obtain ⟨rfl, hr⟩ := hq
        refine blockQ_ret ?_
        refine thenQ_ret ?_
        obtain rfl := Option.some.inj h
        exact hr

end
end Go.Proofs.Ytdjjifeipeelhaa.T
