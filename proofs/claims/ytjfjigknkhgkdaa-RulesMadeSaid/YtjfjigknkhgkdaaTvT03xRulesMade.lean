/- Functions of the program as functions on data, and that the program's own come to them. -/
import Derived.Test.YtjfjigknkhgkdaaTvT03x0
import Derived.Test.YtjfjigknkhgkdaaTvT03xa
import Derived.Test.YtjfjigknkhgkdaaTvT03xd
namespace Go.Proofs.Ytjfjigknkhgkdaa.T
open Go Go.Tv Go.Proofs
noncomputable section
set_option maxRecDepth 100000
set_option maxHeartbeats 4000000
def lq_RulesMade_L1 (d4 : List Int) (r7 : (List (List UInt8)) × Int × Int × (List Int) × List (Int × Tree × Tree)) (r10 : Int) : (Int) → Option ((Int) ⊕ ((Unit) ⊕ (Bool))) := fun (v5 : Int) =>
  (if (decide (v5 < (r7.2.2.2.1.length : Int))) = true then (if 0 ≤ v5 ∧ v5 < (r7.2.2.2.1.length : Int) then (((if (decide (v5 < (d4.length : Int))) = true then (if 0 ≤ v5 ∧ v5 < (d4.length : Int) then (if ¬ r10 = 0 then some ((Int.tmod (IntKind.i64.wrap (d4.getD v5.toNat (0 : Int))) r10)) else none) else none)
  else some (v5))).bind fun (v6 : Int) => (if ((r7.2.2.2.1.getD v5.toNat (0 : Int)) != v6) = true then some (Sum.inr (Sum.inr false))
  else some (Sum.inl (IntKind.i64.wrap (v5 + (1 : Int)))))) else none)
  else some (Sum.inr (Sum.inl ())))
def lq_RulesMade_L2 (d5 : List (Int × (List Int) × List Int)) (r7 : (List (List UInt8)) × Int × Int × (List Int) × List (Int × Tree × Tree)) : (Int) → Option ((Int) ⊕ ((Unit) ⊕ (Bool))) := fun (v10 : Int) =>
  (if (decide (v10 < (r7.2.2.2.2.length : Int))) = true then (if 0 ≤ v10 ∧ v10 < (r7.2.2.2.2.length : Int) then (((if 0 ≤ v10 ∧ v10 < (d5.length : Int) then (if ¬ (3 : Int) = 0 then (if (((r7.2.2.2.2.getD v10.toNat ((0 : Int), ((Tree.node 0 0 []), (Tree.node 0 0 [])))).1) != (Int.tmod ((d5.getD v10.toNat ((0 : Int), (([] : List Int), ([] : List Int)))).1) (3 : Int))) = true then some (true)
  else (if 0 ≤ v10 ∧ v10 < (d5.length : Int) then (if (!(((((d5.getD v10.toNat ((0 : Int), (([] : List Int), ([] : List Int)))).2.1).length : Int) == (0 : Int)) == ((((r7.2.2.2.2.getD v10.toNat ((0 : Int), ((Tree.node 0 0 []), (Tree.node 0 0 [])))).2.1).op) == (0 : Int)))) = true then some (true)
  else (if 0 ≤ v10 ∧ v10 < (d5.length : Int) then some ((!(((((d5.getD v10.toNat ((0 : Int), (([] : List Int), ([] : List Int)))).2.2).length : Int) == (0 : Int)) == ((((r7.2.2.2.2.getD v10.toNat ((0 : Int), ((Tree.node 0 0 []), (Tree.node 0 0 [])))).2.2).op) == (0 : Int))))) else none)) else none)) else none) else none)).bind fun (v11 : Bool) => (if v11 = true then some (Sum.inr (Sum.inr false))
  else some (Sum.inl (IntKind.i64.wrap (v10 + (1 : Int)))))) else none)
  else some (Sum.inr (Sum.inl ())))
def lq_RulesMade (d1 d2 d3 : Int) (d4 : List Int) (d5 : List (Int × (List Int) × List Int)) : Option (Bool) :=
  ((lq_Awake).bind fun (r2 : Bool) =>
  (if (!r2) = true then some false
  else ((hq_Text d1 d2 d3 d4 d5).bind fun (r6 : List UInt8) =>
  ((rules_Parse r6).bind fun ((r7, r8) : ((List (List UInt8)) × Int × Int × (List Int) × List (Int × Tree × Tree)) × Int × Int) =>
  (if (r8.1 != (0 : Int)) = true then some false
  else ((hq_Plan_Count d1 d2 d3 d4 d5).bind fun (r10 : Int) =>
  (if 0 ≤ r10 then (((if ((r7.1.length : Int) != r10) = true then some (true)
  else (if ((r7.2.2.2.1.length : Int) != r10) = true then some (true)
  else (if ((r7.2.2.2.2.length : Int) != (min (d5.length : Int) (10 : Int))) = true then some (true)
  else (if (d2 != (0 : Int)) = true then (if (r7.2.1 != (bitsOf .and .u32 (IntKind.u32.wrap d2) (IntKind.u32.wrap ((IntKind.u32.wrap ((1 : Int) * 2 ^ (min r10.toNat IntKind.u32.bits))) - (1 : Int))))) = true then some (true)
  else some ((r7.2.2.1 != (bitsOf .and .u32 (IntKind.u32.wrap d3) (IntKind.u32.wrap ((IntKind.u32.wrap ((1 : Int) * 2 ^ (min r10.toNat IntKind.u32.bits))) - (1 : Int)))))))
  else some (false)))))).bind fun (v1 : Bool) => (if v1 = true then some false
  else ((iter (lq_RulesMade_L1 d4 r7 r10) (0 : Int)).bind fun (r12 : ((Unit) ⊕ (Bool))) => match r12 with
  | .inl _ => ((iter (lq_RulesMade_L2 d5 r7) (0 : Int)).bind fun (r14 : ((Unit) ⊕ (Bool))) => match r14 with
  | .inl _ => some true
  | .inr (r13) => some r13)
  | .inr (r11) => some r11))) else none)))))))
theorem lq_RulesMade_ok (β3 : Bool) (d1 d2 d3 : Int) (d4 : List Int) (d5 : List (Int × (List Int) × List Int)) (res : Bool) (h : lq_RulesMade d1 d2 d3 d4 d5 = some res) :
    Pure Try.prog 7 [.agg [.u8 d1, .u8 d2, .u8 d3, .p β3 (.slice (.int .u8)) d4, .p false (.slice (.prod (.int .u8) Y6)) d5]] (wrapR (encs false [⟨.bool, res⟩])) := by
  refine Pure.of_body tbok Try.func7 (by kernel_rfl) rfl (nl rfl) (fun Bw w0 => ?_) rfl
  unfold lq_RulesMade at h
  refine W_rs tbok ⟨[], []⟩ [] [0] [(1, .adr 0 0 5 0)] (ob84 d1 d2 d3 β3 d4 d5) 1 0 [True, True] (by kernel_rfl) ⟨tt, tt, tt⟩ ?_
  refine W_seq ?_
  obtain ⟨r2, q2, h⟩ := h_bind h
  refine W_rs tbok ⟨[], [(0, ⟨.bo r2, [], false, [], [], [], none⟩)]⟩ [] [0] [(1, .adr 0 0 5 0), (13, .bo (!r2))] (ob84 d1 d2 d3 β3 d4 d5) 1 0 [Pure Try.prog 10 [] (.bo r2), True] (by kernel_rfl) ⟨(lq_Awake_ok _ q2), tt, tt⟩ ?_
  refine W_cond (b := (!r2)) (β := false) (by kernel_rfl) (fun hb1 => ?_) (fun hb1 => ?_)
  · replace h := h_if hb1 h
    refine W_rs tbok ⟨[], []⟩ [] [] [(2, .bo false)] [] 0 0 [True] (by kernel_rfl) ⟨tt, tt⟩ ?_
    refine W_ret ?_
    refine thenQ_ret ?_
    obtain rfl := sI h
    exact Ret_intro [.bool] (by kernel_rfl)
  replace h := h_else hb1 h
  refine W_skip_to ?_
  refine to_then ?_
  obtain ⟨r6, q5, h⟩ := h_bind h
  obtain ⟨⟨r7, r8⟩, q6, h⟩ := h_bind h
  have u_1 := (hq_Text_ok β3 d1 d2 d3 d4 d5 _ q5)
  have u_2 := (rules_Parse_ok r6 _ q6)
  refine W_rs tbok ⟨[], [(1, ⟨.st r6, [false], false, [true], [], [], none⟩), (2, ⟨.tup [.agg [.p false (.slice .str) r7.1, .u32 r7.2.1, .u32 r7.2.2.1, .p false (.slice (.int .i64)) r7.2.2.2.1, .p false (.slice (.prod (.int .u8) Y1)) r7.2.2.2.2], .agg [.i64 r8.1, .i64 r8.2]], [false], false, [true], [], [], none⟩)]⟩ [] [0, 49, 57] [(1, .adr 0 0 5 0), (3, .adr 1 0 5 0), (4, .adr 2 0 2 0)] (ob87 d1 d2 d3 β3 d4 d5 r7.1 r7.2.1 r7.2.2.1 r7.2.2.2.1 r7.2.2.2.2 r8.1 r8.2) 3 0 (True :: (pO u_1) :: (pO u_2) :: (Ts 7 [])) (by kernel_rfl) ⟨tt, u_1, u_2, (tr 7 tt)⟩ ?_
  refine W_seq ?_
  refine W_rs tbok ⟨[], []⟩ [] [0, 1] [(1, .adr 0 0 5 0), (3, .adr 1 0 5 0), (22, .bo (r8.1 != (0 : Int)))] (ob88 d1 d2 d3 β3 d4 d5 r7.1 r7.2.1 r7.2.2.1 r7.2.2.2.1 r7.2.2.2.2) 2 0 (Ts 3 []) (by kernel_rfl) (tr 3 tt) ?_
  refine W_cond (b := (r8.1 != (0 : Int))) (β := false) (by kernel_rfl) (fun hb2 => ?_) (fun hb2 => ?_)
  · replace h := h_if hb2 h
    refine W_rs tbok ⟨[], []⟩ [] [] [(2, .bo false)] [] 0 0 [True] (by kernel_rfl) ⟨tt, tt⟩ ?_
    refine W_ret ?_
    refine thenQ_ret ?_
    obtain rfl := sI h
    exact Ret_intro [.bool] (by kernel_rfl)
  replace h := h_else hb2 h
  refine W_skip_to ?_
  refine to_then ?_
  obtain ⟨r10, q8, h⟩ := h_bind h
  have u_1 := (hq_Plan_Count_ok β3 false d1 d2 d3 d4 d5 _ q8)
  refine W_rs tbok ⟨[], [(1, ⟨.i64 r10, [false], false, [true], [], [], none⟩)]⟩ [] [0, 1] [(1, .adr 0 0 5 0), (3, .adr 1 0 5 0), (5, .i64 r10)] (ob88 d1 d2 d3 β3 d4 d5 r7.1 r7.2.1 r7.2.2.1 r7.2.2.2.1 r7.2.2.2.2) 2 0 [True, pO u_1, True] (by kernel_rfl) ⟨tt, u_1, tt, tt⟩ ?_
  refine W_seq ?_
  obtain ⟨c2, h⟩ := h_guard h
  refine W_r tbok ⟨[], []⟩ [] [0, 1] [(1, .adr 0 0 5 0), (3, .adr 1 0 5 0), (5, .i64 r10), (6, .u32 (IntKind.u32.wrap ((IntKind.u32.wrap ((1 : Int) * 2 ^ (min r10.toNat IntKind.u32.bits))) - (1 : Int))))] (ob88 d1 d2 d3 β3 d4 d5 r7.1 r7.2.1 r7.2.2.1 r7.2.2.2.1 r7.2.2.2.2) 2 0 [True, 0 ≤ r10, True, True] (by kernel_rfl) ⟨tt, c2, tt, tt, tt⟩ ?_
  refine to_then ?_
  refine W_seq ?_
  refine W_seq ?_
  obtain ⟨v1, hp1, h⟩ := h_bind h
  refine W.mono (Q := (postN Try.f7.ntmps (fun (v1 : Bool) => mkSt [(1, .adr 0 0 5 0), (3, .adr 1 0 5 0), (5, .i64 r10), (74, .bo v1)] (ob88 d1 d2 d3 β3 d4 d5 r7.1 r7.2.1 r7.2.2.1 r7.2.2.2.1 r7.2.2.2.2) 2)) v1) ?_ (fun e σ' hq => ?_)
  · replace h := hp1
    clear hp1
    rcases bb ((r7.1.length : Int) != r10) with hb13 | hb13
    · replace h := h_if hb13 h
      refine W_r tbok ⟨[(5, true), (11, true), (12, true), (21, true), (22, true), (46, true)], []⟩ [] [0, 1] [(1, .adr 0 0 5 0), (3, .adr 1 0 5 0), (5, .i64 r10), (74, .bo true)] (ob88 d1 d2 d3 β3 d4 d5 r7.1 r7.2.1 r7.2.2.1 r7.2.2.2.1 r7.2.2.2.2) 2 0 (Ts 6 ((((r7.1.length : Int) != r10) = true) :: (((r7.1.length : Int) != r10) = true) :: (((r7.1.length : Int) != r10) = true) :: (((r7.1.length : Int) != r10) = true) :: (((r7.1.length : Int) != r10) = true) :: (((r7.1.length : Int) != r10) = true) :: True :: (true = true) :: (true = true) :: (true = true) :: (true = true) :: (true = true) :: (true = true) :: (true = true) :: (true = true) :: (true = true) :: True :: (true = true) :: (true = true) :: (true = true) :: (true = true) :: (Ts 18 [true = true, true = true]))) (by kernel_rfl) (tr 6 ⟨hb13, hb13, hb13, hb13, hb13, hb13, tt, rfl, rfl, rfl, rfl, rfl, rfl, rfl, rfl, rfl, tt, rfl, rfl, rfl, rfl, (tr 18 ⟨rfl, rfl, tt⟩)⟩) ?_
      obtain rfl := sI h
      exact postN_to (gl [] [0, 1] (by kernel_rfl))
    replace h := h_else hb13 h
    rcases bb ((r7.2.2.2.1.length : Int) != r10) with hb14 | hb14
    · replace h := h_if hb14 h
      refine W_r tbok ⟨[(5, false), (11, false), (12, true), (21, true), (22, true), (46, true)], []⟩ [] [0, 1] [(1, .adr 0 0 5 0), (3, .adr 1 0 5 0), (5, .i64 r10), (74, .bo true)] (ob88 d1 d2 d3 β3 d4 d5 r7.1 r7.2.1 r7.2.2.1 r7.2.2.2.1 r7.2.2.2.2) 2 0 (Ts 6 ((((r7.1.length : Int) != r10) = false ∧ True) :: (((r7.1.length : Int) != r10) = false ∧ True) :: (((r7.1.length : Int) != r10) = false ∧ True) :: (((r7.1.length : Int) != r10) = false ∧ True) :: (((r7.1.length : Int) != r10) = false ∧ True) :: (((r7.1.length : Int) != r10) = false) :: True :: (((r7.2.2.2.1.length : Int) != r10) = true) :: (((r7.2.2.2.1.length : Int) != r10) = true) :: (((r7.2.2.2.1.length : Int) != r10) = true) :: (((r7.2.2.2.1.length : Int) != r10) = true) :: (((r7.2.2.2.1.length : Int) != r10) = true) :: (((r7.2.2.2.1.length : Int) != r10) = true) :: (((r7.2.2.2.1.length : Int) != r10) = true) :: (((r7.2.2.2.1.length : Int) != r10) = true) :: (((r7.2.2.2.1.length : Int) != r10) = true) :: True :: (true = true) :: (true = true) :: (true = true) :: (true = true) :: (Ts 18 [true = true, true = true]))) (by kernel_rfl) (tr 6 ⟨⟨hb13, tt⟩, ⟨hb13, tt⟩, ⟨hb13, tt⟩, ⟨hb13, tt⟩, ⟨hb13, tt⟩, hb13, tt, hb14, hb14, hb14, hb14, hb14, hb14, hb14, hb14, hb14, tt, rfl, rfl, rfl, rfl, (tr 18 ⟨rfl, rfl, tt⟩)⟩) ?_
      obtain rfl := sI h
      exact postN_to (gl [] [0, 1] (by kernel_rfl))
    replace h := h_else hb14 h
    rcases bb ((r7.2.2.2.2.length : Int) != (min (d5.length : Int) (10 : Int))) with hb15 | hb15
    · replace h := h_if hb15 h
      refine W_r tbok ⟨[(5, false), (11, false), (12, false), (21, false), (22, true), (46, true)], []⟩ [] [0, 1] [(1, .adr 0 0 5 0), (3, .adr 1 0 5 0), (5, .i64 r10), (74, .bo true)] (ob88 d1 d2 d3 β3 d4 d5 r7.1 r7.2.1 r7.2.2.1 r7.2.2.2.1 r7.2.2.2.2) 2 0 (Ts 6 ((((r7.1.length : Int) != r10) = false ∧ True) :: (((r7.1.length : Int) != r10) = false ∧ True) :: (((r7.1.length : Int) != r10) = false ∧ True) :: (((r7.1.length : Int) != r10) = false ∧ True) :: (((r7.1.length : Int) != r10) = false ∧ True) :: (((r7.1.length : Int) != r10) = false) :: True :: (((r7.2.2.2.1.length : Int) != r10) = false ∧ True) :: (((r7.2.2.2.1.length : Int) != r10) = false ∧ True) :: (((r7.2.2.2.1.length : Int) != r10) = false ∧ True) :: (((r7.2.2.2.1.length : Int) != r10) = false ∧ True) :: (((r7.2.2.2.1.length : Int) != r10) = false ∧ True) :: (((r7.2.2.2.1.length : Int) != r10) = false ∧ True) :: (((r7.2.2.2.1.length : Int) != r10) = false ∧ True) :: (((r7.2.2.2.1.length : Int) != r10) = false ∧ True) :: (((r7.2.2.2.1.length : Int) != r10) = false) :: True :: (((r7.2.2.2.2.length : Int) != (min (d5.length : Int) (10 : Int))) = true) :: (((r7.2.2.2.2.length : Int) != (min (d5.length : Int) (10 : Int))) = true) :: (((r7.2.2.2.2.length : Int) != (min (d5.length : Int) (10 : Int))) = true) :: (((r7.2.2.2.2.length : Int) != (min (d5.length : Int) (10 : Int))) = true) :: (Ts 18 [((r7.2.2.2.2.length : Int) != (min (d5.length : Int) (10 : Int))) = true, ((r7.2.2.2.2.length : Int) != (min (d5.length : Int) (10 : Int))) = true]))) (by kernel_rfl) (tr 6 ⟨⟨hb13, tt⟩, ⟨hb13, tt⟩, ⟨hb13, tt⟩, ⟨hb13, tt⟩, ⟨hb13, tt⟩, hb13, tt, ⟨hb14, tt⟩, ⟨hb14, tt⟩, ⟨hb14, tt⟩, ⟨hb14, tt⟩, ⟨hb14, tt⟩, ⟨hb14, tt⟩, ⟨hb14, tt⟩, ⟨hb14, tt⟩, hb14, tt, hb15, hb15, hb15, hb15, (tr 18 ⟨hb15, hb15, tt⟩)⟩) ?_
      obtain rfl := sI h
      exact postN_to (gl [] [0, 1] (by kernel_rfl))
    replace h := h_else hb15 h
    rcases bb (d2 != (0 : Int)) with hb16 | hb16
    · replace h := h_if hb16 h
      rcases bb (r7.2.1 != (bitsOf .and .u32 (IntKind.u32.wrap d2) (IntKind.u32.wrap ((IntKind.u32.wrap ((1 : Int) * 2 ^ (min r10.toNat IntKind.u32.bits))) - (1 : Int))))) with hb17 | hb17
      · replace h := h_if hb17 h
        refine W_r tbok ⟨[(5, false), (11, false), (12, false), (21, false), (22, false), (26, true), (35, true), (44, true), (45, true), (46, false)], []⟩ [] [0, 1] [(1, .adr 0 0 5 0), (3, .adr 1 0 5 0), (5, .i64 r10), (74, .bo true)] (ob88 d1 d2 d3 β3 d4 d5 r7.1 r7.2.1 r7.2.2.1 r7.2.2.2.1 r7.2.2.2.2) 2 0 (Ts 6 [((r7.1.length : Int) != r10) = false ∧ True, ((r7.1.length : Int) != r10) = false ∧ True, ((r7.1.length : Int) != r10) = false ∧ True, ((r7.1.length : Int) != r10) = false ∧ True, ((r7.1.length : Int) != r10) = false ∧ True, ((r7.1.length : Int) != r10) = false, True, ((r7.2.2.2.1.length : Int) != r10) = false ∧ True, ((r7.2.2.2.1.length : Int) != r10) = false ∧ True, ((r7.2.2.2.1.length : Int) != r10) = false ∧ True, ((r7.2.2.2.1.length : Int) != r10) = false ∧ True, ((r7.2.2.2.1.length : Int) != r10) = false ∧ True, ((r7.2.2.2.1.length : Int) != r10) = false ∧ True, ((r7.2.2.2.1.length : Int) != r10) = false ∧ True, ((r7.2.2.2.1.length : Int) != r10) = false ∧ True, ((r7.2.2.2.1.length : Int) != r10) = false, True, ((r7.2.2.2.2.length : Int) != (min (d5.length : Int) (10 : Int))) = false ∧ True, ((r7.2.2.2.2.length : Int) != (min (d5.length : Int) (10 : Int))) = false ∧ True, ((r7.2.2.2.2.length : Int) != (min (d5.length : Int) (10 : Int))) = false ∧ True, ((r7.2.2.2.2.length : Int) != (min (d5.length : Int) (10 : Int))) = false ∧ True, (d2 != (0 : Int)) = true ∧ True, (d2 != (0 : Int)) = true ∧ True, (d2 != (0 : Int)) = true ∧ True, (d2 != (0 : Int)) = true ∧ True, (d2 != (0 : Int)) = true ∧ True, (d2 != (0 : Int)) = true ∧ True, (d2 != (0 : Int)) = true ∧ True, (d2 != (0 : Int)) = true ∧ True, (d2 != (0 : Int)) = true ∧ True, (r7.2.1 != (bitsOf .and .u32 (IntKind.u32.wrap d2) (IntKind.u32.wrap ((IntKind.u32.wrap ((1 : Int) * 2 ^ (min r10.toNat IntKind.u32.bits))) - (1 : Int))))) = true, (r7.2.1 != (bitsOf .and .u32 (IntKind.u32.wrap d2) (IntKind.u32.wrap ((IntKind.u32.wrap ((1 : Int) * 2 ^ (min r10.toNat IntKind.u32.bits))) - (1 : Int))))) = true, (r7.2.1 != (bitsOf .and .u32 (IntKind.u32.wrap d2) (IntKind.u32.wrap ((IntKind.u32.wrap ((1 : Int) * 2 ^ (min r10.toNat IntKind.u32.bits))) - (1 : Int))))) = true, (r7.2.1 != (bitsOf .and .u32 (IntKind.u32.wrap d2) (IntKind.u32.wrap ((IntKind.u32.wrap ((1 : Int) * 2 ^ (min r10.toNat IntKind.u32.bits))) - (1 : Int))))) = true, (r7.2.1 != (bitsOf .and .u32 (IntKind.u32.wrap d2) (IntKind.u32.wrap ((IntKind.u32.wrap ((1 : Int) * 2 ^ (min r10.toNat IntKind.u32.bits))) - (1 : Int))))) = true, (r7.2.1 != (bitsOf .and .u32 (IntKind.u32.wrap d2) (IntKind.u32.wrap ((IntKind.u32.wrap ((1 : Int) * 2 ^ (min r10.toNat IntKind.u32.bits))) - (1 : Int))))) = true, (r7.2.1 != (bitsOf .and .u32 (IntKind.u32.wrap d2) (IntKind.u32.wrap ((IntKind.u32.wrap ((1 : Int) * 2 ^ (min r10.toNat IntKind.u32.bits))) - (1 : Int))))) = true, (r7.2.1 != (bitsOf .and .u32 (IntKind.u32.wrap d2) (IntKind.u32.wrap ((IntKind.u32.wrap ((1 : Int) * 2 ^ (min r10.toNat IntKind.u32.bits))) - (1 : Int))))) = true, (d2 != (0 : Int)) = true ∧ (r7.2.1 != (bitsOf .and .u32 (IntKind.u32.wrap d2) (IntKind.u32.wrap ((IntKind.u32.wrap ((1 : Int) * 2 ^ (min r10.toNat IntKind.u32.bits))) - (1 : Int))))) = true, ((r7.2.2.2.2.length : Int) != (min (d5.length : Int) (10 : Int))) = false ∧ (d2 != (0 : Int)) = true, ((r7.2.2.2.2.length : Int) != (min (d5.length : Int) (10 : Int))) = false]) (by kernel_rfl) (tr 6 ⟨⟨hb13, tt⟩, ⟨hb13, tt⟩, ⟨hb13, tt⟩, ⟨hb13, tt⟩, ⟨hb13, tt⟩, hb13, tt, ⟨hb14, tt⟩, ⟨hb14, tt⟩, ⟨hb14, tt⟩, ⟨hb14, tt⟩, ⟨hb14, tt⟩, ⟨hb14, tt⟩, ⟨hb14, tt⟩, ⟨hb14, tt⟩, hb14, tt, ⟨hb15, tt⟩, ⟨hb15, tt⟩, ⟨hb15, tt⟩, ⟨hb15, tt⟩, ⟨hb16, tt⟩, ⟨hb16, tt⟩, ⟨hb16, tt⟩, ⟨hb16, tt⟩, ⟨hb16, tt⟩, ⟨hb16, tt⟩, ⟨hb16, tt⟩, ⟨hb16, tt⟩, ⟨hb16, tt⟩, hb17, hb17, hb17, hb17, hb17, hb17, hb17, hb17, ⟨hb16, hb17⟩, ⟨hb15, hb16⟩, hb15, tt⟩) ?_
        obtain rfl := sI h
        exact postN_to (gl [] [0, 1] (by kernel_rfl))
      replace h := h_else hb17 h
      refine W_r tbok ⟨[(5, false), (11, false), (12, false), (21, false), (22, false), (26, true), (35, false), (44, false), (45, true), (46, false)], []⟩ [] [0, 1] [(1, .adr 0 0 5 0), (3, .adr 1 0 5 0), (5, .i64 r10), (74, .bo (r7.2.2.1 != (bitsOf .and .u32 (IntKind.u32.wrap d3) (IntKind.u32.wrap ((IntKind.u32.wrap ((1 : Int) * 2 ^ (min r10.toNat IntKind.u32.bits))) - (1 : Int))))))] (ob88 d1 d2 d3 β3 d4 d5 r7.1 r7.2.1 r7.2.2.1 r7.2.2.2.1 r7.2.2.2.2) 2 0 (Ts 6 [((r7.1.length : Int) != r10) = false ∧ True, ((r7.1.length : Int) != r10) = false ∧ True, ((r7.1.length : Int) != r10) = false ∧ True, ((r7.1.length : Int) != r10) = false ∧ True, ((r7.1.length : Int) != r10) = false ∧ True, ((r7.1.length : Int) != r10) = false, True, ((r7.2.2.2.1.length : Int) != r10) = false ∧ True, ((r7.2.2.2.1.length : Int) != r10) = false ∧ True, ((r7.2.2.2.1.length : Int) != r10) = false ∧ True, ((r7.2.2.2.1.length : Int) != r10) = false ∧ True, ((r7.2.2.2.1.length : Int) != r10) = false ∧ True, ((r7.2.2.2.1.length : Int) != r10) = false ∧ True, ((r7.2.2.2.1.length : Int) != r10) = false ∧ True, ((r7.2.2.2.1.length : Int) != r10) = false ∧ True, ((r7.2.2.2.1.length : Int) != r10) = false, True, ((r7.2.2.2.2.length : Int) != (min (d5.length : Int) (10 : Int))) = false ∧ True, ((r7.2.2.2.2.length : Int) != (min (d5.length : Int) (10 : Int))) = false ∧ True, ((r7.2.2.2.2.length : Int) != (min (d5.length : Int) (10 : Int))) = false ∧ True, ((r7.2.2.2.2.length : Int) != (min (d5.length : Int) (10 : Int))) = false ∧ True, (d2 != (0 : Int)) = true ∧ True, (d2 != (0 : Int)) = true ∧ True, (d2 != (0 : Int)) = true ∧ True, (d2 != (0 : Int)) = true ∧ True, (d2 != (0 : Int)) = true ∧ True, (d2 != (0 : Int)) = true ∧ True, (d2 != (0 : Int)) = true ∧ True, (d2 != (0 : Int)) = true ∧ True, (d2 != (0 : Int)) = true ∧ True, (r7.2.1 != (bitsOf .and .u32 (IntKind.u32.wrap d2) (IntKind.u32.wrap ((IntKind.u32.wrap ((1 : Int) * 2 ^ (min r10.toNat IntKind.u32.bits))) - (1 : Int))))) = false ∧ True, (r7.2.1 != (bitsOf .and .u32 (IntKind.u32.wrap d2) (IntKind.u32.wrap ((IntKind.u32.wrap ((1 : Int) * 2 ^ (min r10.toNat IntKind.u32.bits))) - (1 : Int))))) = false ∧ True, (r7.2.1 != (bitsOf .and .u32 (IntKind.u32.wrap d2) (IntKind.u32.wrap ((IntKind.u32.wrap ((1 : Int) * 2 ^ (min r10.toNat IntKind.u32.bits))) - (1 : Int))))) = false ∧ True, (r7.2.1 != (bitsOf .and .u32 (IntKind.u32.wrap d2) (IntKind.u32.wrap ((IntKind.u32.wrap ((1 : Int) * 2 ^ (min r10.toNat IntKind.u32.bits))) - (1 : Int))))) = false ∧ True, (r7.2.1 != (bitsOf .and .u32 (IntKind.u32.wrap d2) (IntKind.u32.wrap ((IntKind.u32.wrap ((1 : Int) * 2 ^ (min r10.toNat IntKind.u32.bits))) - (1 : Int))))) = false ∧ True, (r7.2.1 != (bitsOf .and .u32 (IntKind.u32.wrap d2) (IntKind.u32.wrap ((IntKind.u32.wrap ((1 : Int) * 2 ^ (min r10.toNat IntKind.u32.bits))) - (1 : Int))))) = false ∧ True, (r7.2.1 != (bitsOf .and .u32 (IntKind.u32.wrap d2) (IntKind.u32.wrap ((IntKind.u32.wrap ((1 : Int) * 2 ^ (min r10.toNat IntKind.u32.bits))) - (1 : Int))))) = false ∧ True, (r7.2.1 != (bitsOf .and .u32 (IntKind.u32.wrap d2) (IntKind.u32.wrap ((IntKind.u32.wrap ((1 : Int) * 2 ^ (min r10.toNat IntKind.u32.bits))) - (1 : Int))))) = false ∧ True, (d2 != (0 : Int)) = true ∧ (r7.2.1 != (bitsOf .and .u32 (IntKind.u32.wrap d2) (IntKind.u32.wrap ((IntKind.u32.wrap ((1 : Int) * 2 ^ (min r10.toNat IntKind.u32.bits))) - (1 : Int))))) = false, ((r7.2.2.2.2.length : Int) != (min (d5.length : Int) (10 : Int))) = false ∧ (d2 != (0 : Int)) = true, ((r7.2.2.2.2.length : Int) != (min (d5.length : Int) (10 : Int))) = false]) (by kernel_rfl) (tr 6 ⟨⟨hb13, tt⟩, ⟨hb13, tt⟩, ⟨hb13, tt⟩, ⟨hb13, tt⟩, ⟨hb13, tt⟩, hb13, tt, ⟨hb14, tt⟩, ⟨hb14, tt⟩, ⟨hb14, tt⟩, ⟨hb14, tt⟩, ⟨hb14, tt⟩, ⟨hb14, tt⟩, ⟨hb14, tt⟩, ⟨hb14, tt⟩, hb14, tt, ⟨hb15, tt⟩, ⟨hb15, tt⟩, ⟨hb15, tt⟩, ⟨hb15, tt⟩, ⟨hb16, tt⟩, ⟨hb16, tt⟩, ⟨hb16, tt⟩, ⟨hb16, tt⟩, ⟨hb16, tt⟩, ⟨hb16, tt⟩, ⟨hb16, tt⟩, ⟨hb16, tt⟩, ⟨hb16, tt⟩, ⟨hb17, tt⟩, ⟨hb17, tt⟩, ⟨hb17, tt⟩, ⟨hb17, tt⟩, ⟨hb17, tt⟩, ⟨hb17, tt⟩, ⟨hb17, tt⟩, ⟨hb17, tt⟩, ⟨hb16, hb17⟩, ⟨hb15, hb16⟩, hb15, tt⟩) ?_
      obtain rfl := sI h
      exact postN_to (gl [] [0, 1] (by kernel_rfl))
    replace h := h_else hb16 h
    refine W_r tbok ⟨[(5, false), (11, false), (12, false), (21, false), (22, false), (26, false), (45, false), (46, false)], []⟩ [] [0, 1] [(1, .adr 0 0 5 0), (3, .adr 1 0 5 0), (5, .i64 r10), (74, .bo false)] (ob88 d1 d2 d3 β3 d4 d5 r7.1 r7.2.1 r7.2.2.1 r7.2.2.2.1 r7.2.2.2.2) 2 0 (Ts 6 ((((r7.1.length : Int) != r10) = false ∧ True) :: (((r7.1.length : Int) != r10) = false ∧ True) :: (((r7.1.length : Int) != r10) = false ∧ True) :: (((r7.1.length : Int) != r10) = false ∧ True) :: (((r7.1.length : Int) != r10) = false ∧ True) :: (((r7.1.length : Int) != r10) = false) :: True :: (((r7.2.2.2.1.length : Int) != r10) = false ∧ True) :: (((r7.2.2.2.1.length : Int) != r10) = false ∧ True) :: (((r7.2.2.2.1.length : Int) != r10) = false ∧ True) :: (((r7.2.2.2.1.length : Int) != r10) = false ∧ True) :: (((r7.2.2.2.1.length : Int) != r10) = false ∧ True) :: (((r7.2.2.2.1.length : Int) != r10) = false ∧ True) :: (((r7.2.2.2.1.length : Int) != r10) = false ∧ True) :: (((r7.2.2.2.1.length : Int) != r10) = false ∧ True) :: (((r7.2.2.2.1.length : Int) != r10) = false) :: True :: (((r7.2.2.2.2.length : Int) != (min (d5.length : Int) (10 : Int))) = false ∧ True) :: (((r7.2.2.2.2.length : Int) != (min (d5.length : Int) (10 : Int))) = false ∧ True) :: (((r7.2.2.2.2.length : Int) != (min (d5.length : Int) (10 : Int))) = false ∧ True) :: (((r7.2.2.2.2.length : Int) != (min (d5.length : Int) (10 : Int))) = false ∧ True) :: ((d2 != (0 : Int)) = false) :: ((d2 != (0 : Int)) = false) :: ((d2 != (0 : Int)) = false) :: ((d2 != (0 : Int)) = false) :: ((d2 != (0 : Int)) = false) :: ((d2 != (0 : Int)) = false) :: ((d2 != (0 : Int)) = false) :: ((d2 != (0 : Int)) = false) :: ((d2 != (0 : Int)) = false) :: (Ts 8 [(d2 != (0 : Int)) = false, ((r7.2.2.2.2.length : Int) != (min (d5.length : Int) (10 : Int))) = false ∧ (d2 != (0 : Int)) = false, ((r7.2.2.2.2.length : Int) != (min (d5.length : Int) (10 : Int))) = false]))) (by kernel_rfl) (tr 6 ⟨⟨hb13, tt⟩, ⟨hb13, tt⟩, ⟨hb13, tt⟩, ⟨hb13, tt⟩, ⟨hb13, tt⟩, hb13, tt, ⟨hb14, tt⟩, ⟨hb14, tt⟩, ⟨hb14, tt⟩, ⟨hb14, tt⟩, ⟨hb14, tt⟩, ⟨hb14, tt⟩, ⟨hb14, tt⟩, ⟨hb14, tt⟩, hb14, tt, ⟨hb15, tt⟩, ⟨hb15, tt⟩, ⟨hb15, tt⟩, ⟨hb15, tt⟩, hb16, hb16, hb16, hb16, hb16, hb16, hb16, hb16, hb16, (tr 8 ⟨hb16, ⟨hb15, hb16⟩, hb15, tt⟩)⟩) ?_
    obtain rfl := sI h
    exact postN_to (gl [] [0, 1] (by kernel_rfl))
  clear hp1
  obtain ⟨rfl, hle⟩ := hq
  refine use_to ?_ hle
  refine to_then ?_
  refine W_cond (b := v1) (β := false) (by kernel_rfl) (fun hb18 => ?_) (fun hb18 => ?_)
  · replace h := h_if hb18 h
    refine W_rs tbok ⟨[], []⟩ [] [] [(2, .bo false)] [] 0 0 [True] (by kernel_rfl) ⟨tt, tt⟩ ?_
    refine W_ret ?_
    refine thenQ_ret ?_
    obtain rfl := sI h
    exact Ret_intro [.bool] (by kernel_rfl)
  replace h := h_else hb18 h
  refine W_skip_to ?_
  refine to_then ?_
  refine W_seq ?_
  refine W_rs tbok ⟨[], []⟩ [] [0, 1] [(1, .adr 0 0 5 0), (3, .adr 1 0 5 0), (5, .i64 r10), (76, .p false (.slice (.int .i64)) r7.2.2.2.1), (77, .i64 (r7.2.2.2.1.length : Int)), (78, .i64 (0 : Int))] (ob88 d1 d2 d3 β3 d4 d5 r7.1 r7.2.1 r7.2.2.1 r7.2.2.2.1 r7.2.2.2.2) 2 0 (Ts 4 []) (by kernel_rfl) (tr 4 tt) ?_
  refine W_block ?_
  obtain ⟨r12, hp5, h⟩ := h_bind h
  refine W.mono (Q := (postS (postX Try.f7.ntmps 0 (fun (_ : Unit) => mkSt [(1, .adr 0 0 5 0), (3, .adr 1 0 5 0)] (ob88 d1 d2 d3 β3 d4 d5 r7.1 r7.2.1 r7.2.2.1 r7.2.2.2.1 r7.2.2.2.2) 2)) (postR tb Try.f7.results.toList (fun (r11 : Bool) => [⟨.bool, r11⟩]))) r12) (W_iter (f := fun (v5 : Int) => mkSt [(1, .adr 0 0 5 0), (3, .adr 1 0 5 0), (5, .i64 r10), (76, .p false (.slice (.int .i64)) r7.2.2.2.1), (77, .i64 (r7.2.2.2.1.length : Int)), (78, .i64 v5)] (ob88 d1 d2 d3 β3 d4 d5 r7.1 r7.2.1 r7.2.2.1 r7.2.2.2.1 r7.2.2.2.2) 2) (Q := (postS (postX Try.f7.ntmps 0 (fun (_ : Unit) => mkSt [(1, .adr 0 0 5 0), (3, .adr 1 0 5 0)] (ob88 d1 d2 d3 β3 d4 d5 r7.1 r7.2.1 r7.2.2.1 r7.2.2.2.1 r7.2.2.2.2) 2)) (postR tb Try.f7.results.toList (fun (r11 : Bool) => [⟨.bool, r11⟩])))) hp5 (gl [] [0, 1] (by kernel_rfl)) (fun v5 o ho => ?_)) (fun e σ' hq => ?_)
  · replace h := ho
    clear ho hp5
    unfold lq_RulesMade_L1 at h
    refine W_rs tbok ⟨[], []⟩ [] [0, 1] [(1, .adr 0 0 5 0), (3, .adr 1 0 5 0), (5, .i64 r10), (76, .p false (.slice (.int .i64)) r7.2.2.2.1), (77, .i64 (r7.2.2.2.1.length : Int)), (78, .i64 v5), (79, .bo (decide (v5 < (r7.2.2.2.1.length : Int))))] (ob88 d1 d2 d3 β3 d4 d5 r7.1 r7.2.1 r7.2.2.1 r7.2.2.2.1 r7.2.2.2.2) 2 0 [True] (by kernel_rfl) ⟨tt, tt⟩ ?_
    refine W_seq ?_
    refine W_cond (b := (decide (v5 < (r7.2.2.2.1.length : Int)))) (β := false) (by kernel_rfl) (fun hb27 => ?_) (fun hb27 => ?_)
    · replace h := h_if hb27 h
      refine W_skip_to ?_
      refine to_then ?_
      refine W_seq ?_
      refine W_block ?_
      refine W_seq ?_
      obtain ⟨c24, h⟩ := h_guard h
      refine W_r tbok ⟨[], []⟩ [] [0, 1] [(1, .adr 0 0 5 0), (3, .adr 1 0 5 0), (5, .i64 r10), (7, .i64 v5), (8, .i64 (r7.2.2.2.1.getD v5.toNat (0 : Int))), (76, .p false (.slice (.int .i64)) r7.2.2.2.1), (77, .i64 (r7.2.2.2.1.length : Int)), (78, .i64 v5)] (ob88 d1 d2 d3 β3 d4 d5 r7.1 r7.2.1 r7.2.2.1 r7.2.2.2.1 r7.2.2.2.2) 2 0 (True :: (0 ≤ v5 ∧ v5 < (r7.2.2.2.1.length : Int)) :: (Ts 3 [])) (by kernel_rfl) ⟨tt, c24, (tr 3 tt)⟩ ?_
      refine to_then ?_
      refine W_rs tbok ⟨[], []⟩ [] [0, 1] [(1, .adr 0 0 5 0), (3, .adr 1 0 5 0), (5, .i64 r10), (7, .i64 v5), (8, .i64 (r7.2.2.2.1.getD v5.toNat (0 : Int))), (9, .i64 v5), (76, .p false (.slice (.int .i64)) r7.2.2.2.1), (77, .i64 (r7.2.2.2.1.length : Int)), (78, .i64 v5)] (ob88 d1 d2 d3 β3 d4 d5 r7.1 r7.2.1 r7.2.2.1 r7.2.2.2.1 r7.2.2.2.2) 2 0 [True, True] (by kernel_rfl) ⟨tt, tt, tt⟩ ?_
      refine W_seq ?_
      refine W_rs tbok ⟨[], []⟩ [] [0, 1] [(1, .adr 0 0 5 0), (3, .adr 1 0 5 0), (5, .i64 r10), (7, .i64 v5), (8, .i64 (r7.2.2.2.1.getD v5.toNat (0 : Int))), (9, .i64 v5), (76, .p false (.slice (.int .i64)) r7.2.2.2.1), (77, .i64 (r7.2.2.2.1.length : Int)), (78, .i64 v5), (88, .bo (decide (v5 < (d4.length : Int))))] (ob88 d1 d2 d3 β3 d4 d5 r7.1 r7.2.1 r7.2.2.1 r7.2.2.2.1 r7.2.2.2.2) 2 0 (Ts 5 []) (by kernel_rfl) (tr 5 tt) ?_
      obtain ⟨v6, hp4, h⟩ := h_bind h
      refine W.mono (Q := (postN Try.f7.ntmps (fun (v6 : Int) => mkSt [(1, .adr 0 0 5 0), (3, .adr 1 0 5 0), (5, .i64 r10), (8, .i64 (r7.2.2.2.1.getD v5.toNat (0 : Int))), (9, .i64 v6), (76, .p false (.slice (.int .i64)) r7.2.2.2.1), (77, .i64 (r7.2.2.2.1.length : Int)), (78, .i64 v5)] (ob88 d1 d2 d3 β3 d4 d5 r7.1 r7.2.1 r7.2.2.1 r7.2.2.2.1 r7.2.2.2.2) 2)) v6) ?_ (fun e σ' hq => ?_)
      · replace h := hp4
        clear hp4
        refine W_cond (b := (decide (v5 < (d4.length : Int)))) (β := false) (by kernel_rfl) (fun hb29 => ?_) (fun hb29 => ?_)
        · replace h := h_if hb29 h
          obtain ⟨c31, h⟩ := h_guard h
          obtain ⟨c32, h⟩ := h_guard h
          refine W_r tbok ⟨[], []⟩ [] [0, 1] [(1, .adr 0 0 5 0), (3, .adr 1 0 5 0), (5, .i64 r10), (8, .i64 (r7.2.2.2.1.getD v5.toNat (0 : Int))), (9, .i64 (Int.tmod (IntKind.i64.wrap (d4.getD v5.toNat (0 : Int))) r10)), (76, .p false (.slice (.int .i64)) r7.2.2.2.1), (77, .i64 (r7.2.2.2.1.length : Int)), (78, .i64 v5)] (ob88 d1 d2 d3 β3 d4 d5 r7.1 r7.2.1 r7.2.2.1 r7.2.2.2.1 r7.2.2.2.2) 2 0 (Ts 3 ((0 ≤ v5 ∧ v5 < (d4.length : Int)) :: (Ts 3 [¬ r10 = 0, True]))) (by kernel_rfl) (tr 3 ⟨c31, (tr 3 ⟨c32, tt, tt⟩)⟩) ?_
          obtain rfl := sI h
          exact postN_to (gl [] [0, 1] (by kernel_rfl))
        replace h := h_else hb29 h
        refine W_skip_to ?_
        obtain rfl := sI h
        exact postN_to (gl [] [0, 1] (by kernel_rfl))
      clear hp4
      obtain ⟨rfl, hle⟩ := hq
      refine use_to ?_ hle
      refine to_then ?_
      refine W_rs tbok ⟨[], []⟩ [] [0, 1] [(1, .adr 0 0 5 0), (3, .adr 1 0 5 0), (5, .i64 r10), (76, .p false (.slice (.int .i64)) r7.2.2.2.1), (77, .i64 (r7.2.2.2.1.length : Int)), (78, .i64 v5), (99, .bo ((r7.2.2.2.1.getD v5.toNat (0 : Int)) != v6))] (ob88 d1 d2 d3 β3 d4 d5 r7.1 r7.2.1 r7.2.2.1 r7.2.2.2.1 r7.2.2.2.2) 2 0 (Ts 3 []) (by kernel_rfl) (tr 3 tt) ?_
      refine W_cond (b := ((r7.2.2.2.1.getD v5.toNat (0 : Int)) != v6)) (β := false) (by kernel_rfl) (fun hb30 => ?_) (fun hb30 => ?_)
      · replace h := h_if hb30 h
        refine W_rs tbok ⟨[], []⟩ [] [] [(2, .bo false)] [] 0 0 [True] (by kernel_rfl) ⟨tt, tt⟩ ?_
        refine W_ret ?_
        obtain rfl := sI h
        refine blockQ_ret ?_
        refine thenQ_ret ?_
        refine round_ret ?_
        refine postS_rr ?_
        exact postR_mk (Ret_intro [.bool] (by kernel_rfl))
      replace h := h_else hb30 h
      refine W_skip_to ?_
      refine to_block ?_
      refine to_then ?_
      refine W_r tbok ⟨[], []⟩ [] [0, 1] [(1, .adr 0 0 5 0), (3, .adr 1 0 5 0), (5, .i64 r10), (76, .p false (.slice (.int .i64)) r7.2.2.2.1), (77, .i64 (r7.2.2.2.1.length : Int)), (78, .i64 (IntKind.i64.wrap (v5 + (1 : Int))))] (ob88 d1 d2 d3 β3 d4 d5 r7.1 r7.2.1 r7.2.2.1 r7.2.2.2.1 r7.2.2.2.2) 2 0 [True, True] (by kernel_rfl) ⟨tt, tt, tt⟩ ?_
      obtain rfl := sI h
      exact roundB (gl [] [0, 1] (by kernel_rfl))
    replace h := h_else hb27 h
    refine W_exit_to ?_
    refine thenE ?_
    obtain rfl := sI h
    refine roundE ?_
    refine postS_l ?_
    exact postX_to (gl [] [0, 1] (by kernel_rfl))
  clear hp5
  rcases r12 with _ | r11
  · obtain ⟨rfl, hle⟩ := hq
    refine use_to ?_ hle
    refine blockE_eq ?_
    refine to_then ?_
    refine W_seq ?_
    refine W_rs tbok ⟨[], []⟩ [] [0] [(1, .adr 0 0 5 0), (102, .p false (.slice (.prod (.int .u8) Y1)) r7.2.2.2.2), (103, .i64 (r7.2.2.2.2.length : Int)), (104, .i64 (0 : Int))] (ob84 d1 d2 d3 β3 d4 d5) 1 0 (Ts 4 []) (by kernel_rfl) (tr 4 tt) ?_
    refine W_block ?_
    obtain ⟨r14, hp9, h⟩ := h_bind h
    refine W.mono (Q := (postS (postX Try.f7.ntmps 2 (fun (_ : Unit) => mkSt [] [] 0)) (postR tb Try.f7.results.toList (fun (r13 : Bool) => [⟨.bool, r13⟩]))) r14) (W_iter (f := fun (v10 : Int) => mkSt [(1, .adr 0 0 5 0), (102, .p false (.slice (.prod (.int .u8) Y1)) r7.2.2.2.2), (103, .i64 (r7.2.2.2.2.length : Int)), (104, .i64 v10)] (ob84 d1 d2 d3 β3 d4 d5) 1) (Q := (postS (postX Try.f7.ntmps 2 (fun (_ : Unit) => mkSt [] [] 0)) (postR tb Try.f7.results.toList (fun (r13 : Bool) => [⟨.bool, r13⟩])))) hp9 (gl [] [0] (by kernel_rfl)) (fun v10 o ho => ?_)) (fun e σ' hq => ?_)
    · replace h := ho
      clear ho hp9
      unfold lq_RulesMade_L2 at h
      refine W_rs tbok ⟨[], []⟩ [] [0] [(1, .adr 0 0 5 0), (102, .p false (.slice (.prod (.int .u8) Y1)) r7.2.2.2.2), (103, .i64 (r7.2.2.2.2.length : Int)), (104, .i64 v10), (105, .bo (decide (v10 < (r7.2.2.2.2.length : Int))))] (ob84 d1 d2 d3 β3 d4 d5) 1 0 [True] (by kernel_rfl) ⟨tt, tt⟩ ?_
      refine W_seq ?_
      refine W_cond (b := (decide (v10 < (r7.2.2.2.2.length : Int)))) (β := false) (by kernel_rfl) (fun hb47 => ?_) (fun hb47 => ?_)
      · replace h := h_if hb47 h
        refine W_skip_to ?_
        refine to_then ?_
        refine W_seq ?_
        refine W_block ?_
        refine W_seq ?_
        obtain ⟨c62, h⟩ := h_guard h
        refine W_r tbok ⟨[], []⟩ [] [0, 25] [(1, .adr 0 0 5 0), (10, .i64 v10), (11, .adr 1 0 7 0), (102, .p false (.slice (.prod (.int .u8) Y1)) r7.2.2.2.2), (103, .i64 (r7.2.2.2.2.length : Int)), (104, .i64 v10)] (ob89 d1 d2 d3 β3 d4 d5 ((r7.2.2.2.2.getD v10.toNat ((0 : Int), ((Tree.node 0 0 []), (Tree.node 0 0 [])))).1) (((r7.2.2.2.2.getD v10.toNat ((0 : Int), ((Tree.node 0 0 []), (Tree.node 0 0 [])))).2.1).op) (((r7.2.2.2.2.getD v10.toNat ((0 : Int), ((Tree.node 0 0 []), (Tree.node 0 0 [])))).2.1).set) (((r7.2.2.2.2.getD v10.toNat ((0 : Int), ((Tree.node 0 0 []), (Tree.node 0 0 [])))).2.1).kids) (((r7.2.2.2.2.getD v10.toNat ((0 : Int), ((Tree.node 0 0 []), (Tree.node 0 0 [])))).2.2).op) (((r7.2.2.2.2.getD v10.toNat ((0 : Int), ((Tree.node 0 0 []), (Tree.node 0 0 [])))).2.2).set) (((r7.2.2.2.2.getD v10.toNat ((0 : Int), ((Tree.node 0 0 []), (Tree.node 0 0 [])))).2.2).kids)) 2 0 (True :: (0 ≤ v10 ∧ v10 < (r7.2.2.2.2.length : Int)) :: (Ts 4 [])) (by kernel_rfl) ⟨tt, c62, (tr 4 tt)⟩ ?_
        refine to_then ?_
        refine W_seq ?_
        obtain ⟨v11, hp8, h⟩ := h_bind h
        refine W.mono (Q := (postN Try.f7.ntmps (fun (v11 : Bool) => mkSt [(1, .adr 0 0 5 0), (102, .p false (.slice (.prod (.int .u8) Y1)) r7.2.2.2.2), (103, .i64 (r7.2.2.2.2.length : Int)), (104, .i64 v10), (148, .bo v11)] (ob84 d1 d2 d3 β3 d4 d5) 1)) v11) ?_ (fun e σ' hq => ?_)
        · replace h := hp8
          clear hp8
          obtain ⟨c71, h⟩ := h_guard h
          obtain ⟨c72, h⟩ := h_guard h
          rcases bb (((r7.2.2.2.2.getD v10.toNat ((0 : Int), ((Tree.node 0 0 []), (Tree.node 0 0 [])))).1) != (Int.tmod ((d5.getD v10.toNat ((0 : Int), (([] : List Int), ([] : List Int)))).1) (3 : Int))) with hb52 | hb52
          · replace h := h_if hb52 h
            refine W_regD tbok mixed ⟨[(10, true), (24, true), (25, true), (39, true)], []⟩ [] [0] [(1, .adr 0 0 5 0), (102, .p false (.slice (.prod (.int .u8) Y1)) r7.2.2.2.2), (103, .i64 (r7.2.2.2.2.length : Int)), (104, .i64 v10), (148, .bo true)] (ob84 d1 d2 d3 β3 d4 d5) 1 0 (Ts 5 [0 ≤ v10 ∧ v10 < (d5.length : Int), True, True, ¬ (3 : Int) = 0, True, True, (((r7.2.2.2.2.getD v10.toNat ((0 : Int), ((Tree.node 0 0 []), (Tree.node 0 0 [])))).1) != (Int.tmod ((d5.getD v10.toNat ((0 : Int), (([] : List Int), ([] : List Int)))).1) (3 : Int))) = true, (((r7.2.2.2.2.getD v10.toNat ((0 : Int), ((Tree.node 0 0 []), (Tree.node 0 0 [])))).1) != (Int.tmod ((d5.getD v10.toNat ((0 : Int), (([] : List Int), ([] : List Int)))).1) (3 : Int))) = true, (((r7.2.2.2.2.getD v10.toNat ((0 : Int), ((Tree.node 0 0 []), (Tree.node 0 0 [])))).1) != (Int.tmod ((d5.getD v10.toNat ((0 : Int), (([] : List Int), ([] : List Int)))).1) (3 : Int))) = true, (((r7.2.2.2.2.getD v10.toNat ((0 : Int), ((Tree.node 0 0 []), (Tree.node 0 0 [])))).1) != (Int.tmod ((d5.getD v10.toNat ((0 : Int), (([] : List Int), ([] : List Int)))).1) (3 : Int))) = true, (((r7.2.2.2.2.getD v10.toNat ((0 : Int), ((Tree.node 0 0 []), (Tree.node 0 0 [])))).1) != (Int.tmod ((d5.getD v10.toNat ((0 : Int), (([] : List Int), ([] : List Int)))).1) (3 : Int))) = true, (((r7.2.2.2.2.getD v10.toNat ((0 : Int), ((Tree.node 0 0 []), (Tree.node 0 0 [])))).1) != (Int.tmod ((d5.getD v10.toNat ((0 : Int), (([] : List Int), ([] : List Int)))).1) (3 : Int))) = true, (((r7.2.2.2.2.getD v10.toNat ((0 : Int), ((Tree.node 0 0 []), (Tree.node 0 0 [])))).1) != (Int.tmod ((d5.getD v10.toNat ((0 : Int), (([] : List Int), ([] : List Int)))).1) (3 : Int))) = true, (((r7.2.2.2.2.getD v10.toNat ((0 : Int), ((Tree.node 0 0 []), (Tree.node 0 0 [])))).1) != (Int.tmod ((d5.getD v10.toNat ((0 : Int), (([] : List Int), ([] : List Int)))).1) (3 : Int))) = true, (((r7.2.2.2.2.getD v10.toNat ((0 : Int), ((Tree.node 0 0 []), (Tree.node 0 0 [])))).1) != (Int.tmod ((d5.getD v10.toNat ((0 : Int), (([] : List Int), ([] : List Int)))).1) (3 : Int))) = true, (((r7.2.2.2.2.getD v10.toNat ((0 : Int), ((Tree.node 0 0 []), (Tree.node 0 0 [])))).1) != (Int.tmod ((d5.getD v10.toNat ((0 : Int), (([] : List Int), ([] : List Int)))).1) (3 : Int))) = true, (((r7.2.2.2.2.getD v10.toNat ((0 : Int), ((Tree.node 0 0 []), (Tree.node 0 0 [])))).1) != (Int.tmod ((d5.getD v10.toNat ((0 : Int), (([] : List Int), ([] : List Int)))).1) (3 : Int))) = true, (((r7.2.2.2.2.getD v10.toNat ((0 : Int), ((Tree.node 0 0 []), (Tree.node 0 0 [])))).1) != (Int.tmod ((d5.getD v10.toNat ((0 : Int), (([] : List Int), ([] : List Int)))).1) (3 : Int))) = true, (((r7.2.2.2.2.getD v10.toNat ((0 : Int), ((Tree.node 0 0 []), (Tree.node 0 0 [])))).1) != (Int.tmod ((d5.getD v10.toNat ((0 : Int), (([] : List Int), ([] : List Int)))).1) (3 : Int))) = true, (((r7.2.2.2.2.getD v10.toNat ((0 : Int), ((Tree.node 0 0 []), (Tree.node 0 0 [])))).1) != (Int.tmod ((d5.getD v10.toNat ((0 : Int), (([] : List Int), ([] : List Int)))).1) (3 : Int))) = true, True, true = true, true = true, true = true, true = true, true = true, true = true, true = true, true = true, true = true, true = true, true = true, true = true, true = true, true = true]) (by kernel_rfl) (by kernel_rfl) (tr 5 ⟨c71, tt, tt, c72, tt, tt, hb52, hb52, hb52, hb52, hb52, hb52, hb52, hb52, hb52, hb52, hb52, hb52, hb52, hb52, tt, rfl, rfl, rfl, rfl, rfl, rfl, rfl, rfl, rfl, rfl, rfl, rfl, rfl, rfl, tt⟩) ?_
            obtain rfl := sI h
            exact postN_to (gl [] [0] (by kernel_rfl))
          replace h := h_else hb52 h
          obtain ⟨c73, h⟩ := h_guard h
          rcases bb (!(((((d5.getD v10.toNat ((0 : Int), (([] : List Int), ([] : List Int)))).2.1).length : Int) == (0 : Int)) == ((((r7.2.2.2.2.getD v10.toNat ((0 : Int), ((Tree.node 0 0 []), (Tree.node 0 0 [])))).2.1).op) == (0 : Int)))) with hb53 | hb53
          · replace h := h_if hb53 h
            refine W_regD tbok mixed ⟨[(10, false), (24, false), (25, true), (39, true)], []⟩ [] [0] [(1, .adr 0 0 5 0), (102, .p false (.slice (.prod (.int .u8) Y1)) r7.2.2.2.2), (103, .i64 (r7.2.2.2.2.length : Int)), (104, .i64 v10), (148, .bo true)] (ob84 d1 d2 d3 β3 d4 d5) 1 0 (Ts 5 [0 ≤ v10 ∧ v10 < (d5.length : Int), True, True, ¬ (3 : Int) = 0, True, True, (((r7.2.2.2.2.getD v10.toNat ((0 : Int), ((Tree.node 0 0 []), (Tree.node 0 0 [])))).1) != (Int.tmod ((d5.getD v10.toNat ((0 : Int), (([] : List Int), ([] : List Int)))).1) (3 : Int))) = false ∧ True, (((r7.2.2.2.2.getD v10.toNat ((0 : Int), ((Tree.node 0 0 []), (Tree.node 0 0 [])))).1) != (Int.tmod ((d5.getD v10.toNat ((0 : Int), (([] : List Int), ([] : List Int)))).1) (3 : Int))) = false ∧ True, (((r7.2.2.2.2.getD v10.toNat ((0 : Int), ((Tree.node 0 0 []), (Tree.node 0 0 [])))).1) != (Int.tmod ((d5.getD v10.toNat ((0 : Int), (([] : List Int), ([] : List Int)))).1) (3 : Int))) = false ∧ True, (((r7.2.2.2.2.getD v10.toNat ((0 : Int), ((Tree.node 0 0 []), (Tree.node 0 0 [])))).1) != (Int.tmod ((d5.getD v10.toNat ((0 : Int), (([] : List Int), ([] : List Int)))).1) (3 : Int))) = false ∧ 0 ≤ v10 ∧ v10 < (d5.length : Int), (((r7.2.2.2.2.getD v10.toNat ((0 : Int), ((Tree.node 0 0 []), (Tree.node 0 0 [])))).1) != (Int.tmod ((d5.getD v10.toNat ((0 : Int), (([] : List Int), ([] : List Int)))).1) (3 : Int))) = false ∧ True, (((r7.2.2.2.2.getD v10.toNat ((0 : Int), ((Tree.node 0 0 []), (Tree.node 0 0 [])))).1) != (Int.tmod ((d5.getD v10.toNat ((0 : Int), (([] : List Int), ([] : List Int)))).1) (3 : Int))) = false ∧ True, (((r7.2.2.2.2.getD v10.toNat ((0 : Int), ((Tree.node 0 0 []), (Tree.node 0 0 [])))).1) != (Int.tmod ((d5.getD v10.toNat ((0 : Int), (([] : List Int), ([] : List Int)))).1) (3 : Int))) = false ∧ True, (((r7.2.2.2.2.getD v10.toNat ((0 : Int), ((Tree.node 0 0 []), (Tree.node 0 0 [])))).1) != (Int.tmod ((d5.getD v10.toNat ((0 : Int), (([] : List Int), ([] : List Int)))).1) (3 : Int))) = false ∧ True, (((r7.2.2.2.2.getD v10.toNat ((0 : Int), ((Tree.node 0 0 []), (Tree.node 0 0 [])))).1) != (Int.tmod ((d5.getD v10.toNat ((0 : Int), (([] : List Int), ([] : List Int)))).1) (3 : Int))) = false ∧ True, (((r7.2.2.2.2.getD v10.toNat ((0 : Int), ((Tree.node 0 0 []), (Tree.node 0 0 [])))).1) != (Int.tmod ((d5.getD v10.toNat ((0 : Int), (([] : List Int), ([] : List Int)))).1) (3 : Int))) = false ∧ True, (((r7.2.2.2.2.getD v10.toNat ((0 : Int), ((Tree.node 0 0 []), (Tree.node 0 0 [])))).1) != (Int.tmod ((d5.getD v10.toNat ((0 : Int), (([] : List Int), ([] : List Int)))).1) (3 : Int))) = false ∧ True, (((r7.2.2.2.2.getD v10.toNat ((0 : Int), ((Tree.node 0 0 []), (Tree.node 0 0 [])))).1) != (Int.tmod ((d5.getD v10.toNat ((0 : Int), (([] : List Int), ([] : List Int)))).1) (3 : Int))) = false ∧ True, (((r7.2.2.2.2.getD v10.toNat ((0 : Int), ((Tree.node 0 0 []), (Tree.node 0 0 [])))).1) != (Int.tmod ((d5.getD v10.toNat ((0 : Int), (([] : List Int), ([] : List Int)))).1) (3 : Int))) = false ∧ True, (((r7.2.2.2.2.getD v10.toNat ((0 : Int), ((Tree.node 0 0 []), (Tree.node 0 0 [])))).1) != (Int.tmod ((d5.getD v10.toNat ((0 : Int), (([] : List Int), ([] : List Int)))).1) (3 : Int))) = false, True, (!(((((d5.getD v10.toNat ((0 : Int), (([] : List Int), ([] : List Int)))).2.1).length : Int) == (0 : Int)) == ((((r7.2.2.2.2.getD v10.toNat ((0 : Int), ((Tree.node 0 0 []), (Tree.node 0 0 [])))).2.1).op) == (0 : Int)))) = true, (!(((((d5.getD v10.toNat ((0 : Int), (([] : List Int), ([] : List Int)))).2.1).length : Int) == (0 : Int)) == ((((r7.2.2.2.2.getD v10.toNat ((0 : Int), ((Tree.node 0 0 []), (Tree.node 0 0 [])))).2.1).op) == (0 : Int)))) = true, (!(((((d5.getD v10.toNat ((0 : Int), (([] : List Int), ([] : List Int)))).2.1).length : Int) == (0 : Int)) == ((((r7.2.2.2.2.getD v10.toNat ((0 : Int), ((Tree.node 0 0 []), (Tree.node 0 0 [])))).2.1).op) == (0 : Int)))) = true, (!(((((d5.getD v10.toNat ((0 : Int), (([] : List Int), ([] : List Int)))).2.1).length : Int) == (0 : Int)) == ((((r7.2.2.2.2.getD v10.toNat ((0 : Int), ((Tree.node 0 0 []), (Tree.node 0 0 [])))).2.1).op) == (0 : Int)))) = true, (!(((((d5.getD v10.toNat ((0 : Int), (([] : List Int), ([] : List Int)))).2.1).length : Int) == (0 : Int)) == ((((r7.2.2.2.2.getD v10.toNat ((0 : Int), ((Tree.node 0 0 []), (Tree.node 0 0 [])))).2.1).op) == (0 : Int)))) = true, (!(((((d5.getD v10.toNat ((0 : Int), (([] : List Int), ([] : List Int)))).2.1).length : Int) == (0 : Int)) == ((((r7.2.2.2.2.getD v10.toNat ((0 : Int), ((Tree.node 0 0 []), (Tree.node 0 0 [])))).2.1).op) == (0 : Int)))) = true, (!(((((d5.getD v10.toNat ((0 : Int), (([] : List Int), ([] : List Int)))).2.1).length : Int) == (0 : Int)) == ((((r7.2.2.2.2.getD v10.toNat ((0 : Int), ((Tree.node 0 0 []), (Tree.node 0 0 [])))).2.1).op) == (0 : Int)))) = true, (!(((((d5.getD v10.toNat ((0 : Int), (([] : List Int), ([] : List Int)))).2.1).length : Int) == (0 : Int)) == ((((r7.2.2.2.2.getD v10.toNat ((0 : Int), ((Tree.node 0 0 []), (Tree.node 0 0 [])))).2.1).op) == (0 : Int)))) = true, (!(((((d5.getD v10.toNat ((0 : Int), (([] : List Int), ([] : List Int)))).2.1).length : Int) == (0 : Int)) == ((((r7.2.2.2.2.getD v10.toNat ((0 : Int), ((Tree.node 0 0 []), (Tree.node 0 0 [])))).2.1).op) == (0 : Int)))) = true, (!(((((d5.getD v10.toNat ((0 : Int), (([] : List Int), ([] : List Int)))).2.1).length : Int) == (0 : Int)) == ((((r7.2.2.2.2.getD v10.toNat ((0 : Int), ((Tree.node 0 0 []), (Tree.node 0 0 [])))).2.1).op) == (0 : Int)))) = true, (!(((((d5.getD v10.toNat ((0 : Int), (([] : List Int), ([] : List Int)))).2.1).length : Int) == (0 : Int)) == ((((r7.2.2.2.2.getD v10.toNat ((0 : Int), ((Tree.node 0 0 []), (Tree.node 0 0 [])))).2.1).op) == (0 : Int)))) = true, (!(((((d5.getD v10.toNat ((0 : Int), (([] : List Int), ([] : List Int)))).2.1).length : Int) == (0 : Int)) == ((((r7.2.2.2.2.getD v10.toNat ((0 : Int), ((Tree.node 0 0 []), (Tree.node 0 0 [])))).2.1).op) == (0 : Int)))) = true, (!(((((d5.getD v10.toNat ((0 : Int), (([] : List Int), ([] : List Int)))).2.1).length : Int) == (0 : Int)) == ((((r7.2.2.2.2.getD v10.toNat ((0 : Int), ((Tree.node 0 0 []), (Tree.node 0 0 [])))).2.1).op) == (0 : Int)))) = true, (!(((((d5.getD v10.toNat ((0 : Int), (([] : List Int), ([] : List Int)))).2.1).length : Int) == (0 : Int)) == ((((r7.2.2.2.2.getD v10.toNat ((0 : Int), ((Tree.node 0 0 []), (Tree.node 0 0 [])))).2.1).op) == (0 : Int)))) = true]) (by kernel_rfl) (by kernel_rfl) (tr 5 ⟨c71, tt, tt, c72, tt, tt, ⟨hb52, tt⟩, ⟨hb52, tt⟩, ⟨hb52, tt⟩, ⟨hb52, c73⟩, ⟨hb52, tt⟩, ⟨hb52, tt⟩, ⟨hb52, tt⟩, ⟨hb52, tt⟩, ⟨hb52, tt⟩, ⟨hb52, tt⟩, ⟨hb52, tt⟩, ⟨hb52, tt⟩, ⟨hb52, tt⟩, hb52, tt, hb53, hb53, hb53, hb53, hb53, hb53, hb53, hb53, hb53, hb53, hb53, hb53, hb53, hb53, tt⟩) ?_
            obtain rfl := sI h
            exact postN_to (gl [] [0] (by kernel_rfl))
          replace h := h_else hb53 h
          obtain ⟨c74, h⟩ := h_guard h
          refine W_regD tbok mixed ⟨[(10, false), (24, false), (25, false), (39, false)], []⟩ [] [0] [(1, .adr 0 0 5 0), (102, .p false (.slice (.prod (.int .u8) Y1)) r7.2.2.2.2), (103, .i64 (r7.2.2.2.2.length : Int)), (104, .i64 v10), (148, .bo (!(((((d5.getD v10.toNat ((0 : Int), (([] : List Int), ([] : List Int)))).2.2).length : Int) == (0 : Int)) == ((((r7.2.2.2.2.getD v10.toNat ((0 : Int), ((Tree.node 0 0 []), (Tree.node 0 0 [])))).2.2).op) == (0 : Int)))))] (ob84 d1 d2 d3 β3 d4 d5) 1 0 (Ts 5 [0 ≤ v10 ∧ v10 < (d5.length : Int), True, True, ¬ (3 : Int) = 0, True, True, (((r7.2.2.2.2.getD v10.toNat ((0 : Int), ((Tree.node 0 0 []), (Tree.node 0 0 [])))).1) != (Int.tmod ((d5.getD v10.toNat ((0 : Int), (([] : List Int), ([] : List Int)))).1) (3 : Int))) = false ∧ True, (((r7.2.2.2.2.getD v10.toNat ((0 : Int), ((Tree.node 0 0 []), (Tree.node 0 0 [])))).1) != (Int.tmod ((d5.getD v10.toNat ((0 : Int), (([] : List Int), ([] : List Int)))).1) (3 : Int))) = false ∧ True, (((r7.2.2.2.2.getD v10.toNat ((0 : Int), ((Tree.node 0 0 []), (Tree.node 0 0 [])))).1) != (Int.tmod ((d5.getD v10.toNat ((0 : Int), (([] : List Int), ([] : List Int)))).1) (3 : Int))) = false ∧ True, (((r7.2.2.2.2.getD v10.toNat ((0 : Int), ((Tree.node 0 0 []), (Tree.node 0 0 [])))).1) != (Int.tmod ((d5.getD v10.toNat ((0 : Int), (([] : List Int), ([] : List Int)))).1) (3 : Int))) = false ∧ 0 ≤ v10 ∧ v10 < (d5.length : Int), (((r7.2.2.2.2.getD v10.toNat ((0 : Int), ((Tree.node 0 0 []), (Tree.node 0 0 [])))).1) != (Int.tmod ((d5.getD v10.toNat ((0 : Int), (([] : List Int), ([] : List Int)))).1) (3 : Int))) = false ∧ True, (((r7.2.2.2.2.getD v10.toNat ((0 : Int), ((Tree.node 0 0 []), (Tree.node 0 0 [])))).1) != (Int.tmod ((d5.getD v10.toNat ((0 : Int), (([] : List Int), ([] : List Int)))).1) (3 : Int))) = false ∧ True, (((r7.2.2.2.2.getD v10.toNat ((0 : Int), ((Tree.node 0 0 []), (Tree.node 0 0 [])))).1) != (Int.tmod ((d5.getD v10.toNat ((0 : Int), (([] : List Int), ([] : List Int)))).1) (3 : Int))) = false ∧ True, (((r7.2.2.2.2.getD v10.toNat ((0 : Int), ((Tree.node 0 0 []), (Tree.node 0 0 [])))).1) != (Int.tmod ((d5.getD v10.toNat ((0 : Int), (([] : List Int), ([] : List Int)))).1) (3 : Int))) = false ∧ True, (((r7.2.2.2.2.getD v10.toNat ((0 : Int), ((Tree.node 0 0 []), (Tree.node 0 0 [])))).1) != (Int.tmod ((d5.getD v10.toNat ((0 : Int), (([] : List Int), ([] : List Int)))).1) (3 : Int))) = false ∧ True, (((r7.2.2.2.2.getD v10.toNat ((0 : Int), ((Tree.node 0 0 []), (Tree.node 0 0 [])))).1) != (Int.tmod ((d5.getD v10.toNat ((0 : Int), (([] : List Int), ([] : List Int)))).1) (3 : Int))) = false ∧ True, (((r7.2.2.2.2.getD v10.toNat ((0 : Int), ((Tree.node 0 0 []), (Tree.node 0 0 [])))).1) != (Int.tmod ((d5.getD v10.toNat ((0 : Int), (([] : List Int), ([] : List Int)))).1) (3 : Int))) = false ∧ True, (((r7.2.2.2.2.getD v10.toNat ((0 : Int), ((Tree.node 0 0 []), (Tree.node 0 0 [])))).1) != (Int.tmod ((d5.getD v10.toNat ((0 : Int), (([] : List Int), ([] : List Int)))).1) (3 : Int))) = false ∧ True, (((r7.2.2.2.2.getD v10.toNat ((0 : Int), ((Tree.node 0 0 []), (Tree.node 0 0 [])))).1) != (Int.tmod ((d5.getD v10.toNat ((0 : Int), (([] : List Int), ([] : List Int)))).1) (3 : Int))) = false ∧ True, (((r7.2.2.2.2.getD v10.toNat ((0 : Int), ((Tree.node 0 0 []), (Tree.node 0 0 [])))).1) != (Int.tmod ((d5.getD v10.toNat ((0 : Int), (([] : List Int), ([] : List Int)))).1) (3 : Int))) = false, True, (!(((((d5.getD v10.toNat ((0 : Int), (([] : List Int), ([] : List Int)))).2.1).length : Int) == (0 : Int)) == ((((r7.2.2.2.2.getD v10.toNat ((0 : Int), ((Tree.node 0 0 []), (Tree.node 0 0 [])))).2.1).op) == (0 : Int)))) = false ∧ True, (!(((((d5.getD v10.toNat ((0 : Int), (([] : List Int), ([] : List Int)))).2.1).length : Int) == (0 : Int)) == ((((r7.2.2.2.2.getD v10.toNat ((0 : Int), ((Tree.node 0 0 []), (Tree.node 0 0 [])))).2.1).op) == (0 : Int)))) = false ∧ True, (!(((((d5.getD v10.toNat ((0 : Int), (([] : List Int), ([] : List Int)))).2.1).length : Int) == (0 : Int)) == ((((r7.2.2.2.2.getD v10.toNat ((0 : Int), ((Tree.node 0 0 []), (Tree.node 0 0 [])))).2.1).op) == (0 : Int)))) = false ∧ True, (!(((((d5.getD v10.toNat ((0 : Int), (([] : List Int), ([] : List Int)))).2.1).length : Int) == (0 : Int)) == ((((r7.2.2.2.2.getD v10.toNat ((0 : Int), ((Tree.node 0 0 []), (Tree.node 0 0 [])))).2.1).op) == (0 : Int)))) = false ∧ 0 ≤ v10 ∧ v10 < (d5.length : Int), (!(((((d5.getD v10.toNat ((0 : Int), (([] : List Int), ([] : List Int)))).2.1).length : Int) == (0 : Int)) == ((((r7.2.2.2.2.getD v10.toNat ((0 : Int), ((Tree.node 0 0 []), (Tree.node 0 0 [])))).2.1).op) == (0 : Int)))) = false ∧ True, (!(((((d5.getD v10.toNat ((0 : Int), (([] : List Int), ([] : List Int)))).2.1).length : Int) == (0 : Int)) == ((((r7.2.2.2.2.getD v10.toNat ((0 : Int), ((Tree.node 0 0 []), (Tree.node 0 0 [])))).2.1).op) == (0 : Int)))) = false ∧ True, (!(((((d5.getD v10.toNat ((0 : Int), (([] : List Int), ([] : List Int)))).2.1).length : Int) == (0 : Int)) == ((((r7.2.2.2.2.getD v10.toNat ((0 : Int), ((Tree.node 0 0 []), (Tree.node 0 0 [])))).2.1).op) == (0 : Int)))) = false ∧ True, (!(((((d5.getD v10.toNat ((0 : Int), (([] : List Int), ([] : List Int)))).2.1).length : Int) == (0 : Int)) == ((((r7.2.2.2.2.getD v10.toNat ((0 : Int), ((Tree.node 0 0 []), (Tree.node 0 0 [])))).2.1).op) == (0 : Int)))) = false ∧ True, (!(((((d5.getD v10.toNat ((0 : Int), (([] : List Int), ([] : List Int)))).2.1).length : Int) == (0 : Int)) == ((((r7.2.2.2.2.getD v10.toNat ((0 : Int), ((Tree.node 0 0 []), (Tree.node 0 0 [])))).2.1).op) == (0 : Int)))) = false ∧ True, (!(((((d5.getD v10.toNat ((0 : Int), (([] : List Int), ([] : List Int)))).2.1).length : Int) == (0 : Int)) == ((((r7.2.2.2.2.getD v10.toNat ((0 : Int), ((Tree.node 0 0 []), (Tree.node 0 0 [])))).2.1).op) == (0 : Int)))) = false ∧ True, (!(((((d5.getD v10.toNat ((0 : Int), (([] : List Int), ([] : List Int)))).2.1).length : Int) == (0 : Int)) == ((((r7.2.2.2.2.getD v10.toNat ((0 : Int), ((Tree.node 0 0 []), (Tree.node 0 0 [])))).2.1).op) == (0 : Int)))) = false ∧ True, (!(((((d5.getD v10.toNat ((0 : Int), (([] : List Int), ([] : List Int)))).2.1).length : Int) == (0 : Int)) == ((((r7.2.2.2.2.getD v10.toNat ((0 : Int), ((Tree.node 0 0 []), (Tree.node 0 0 [])))).2.1).op) == (0 : Int)))) = false ∧ True, (!(((((d5.getD v10.toNat ((0 : Int), (([] : List Int), ([] : List Int)))).2.1).length : Int) == (0 : Int)) == ((((r7.2.2.2.2.getD v10.toNat ((0 : Int), ((Tree.node 0 0 []), (Tree.node 0 0 [])))).2.1).op) == (0 : Int)))) = false ∧ True, (!(((((d5.getD v10.toNat ((0 : Int), (([] : List Int), ([] : List Int)))).2.1).length : Int) == (0 : Int)) == ((((r7.2.2.2.2.getD v10.toNat ((0 : Int), ((Tree.node 0 0 []), (Tree.node 0 0 [])))).2.1).op) == (0 : Int)))) = false]) (by kernel_rfl) (by kernel_rfl) (tr 5 ⟨c71, tt, tt, c72, tt, tt, ⟨hb52, tt⟩, ⟨hb52, tt⟩, ⟨hb52, tt⟩, ⟨hb52, c73⟩, ⟨hb52, tt⟩, ⟨hb52, tt⟩, ⟨hb52, tt⟩, ⟨hb52, tt⟩, ⟨hb52, tt⟩, ⟨hb52, tt⟩, ⟨hb52, tt⟩, ⟨hb52, tt⟩, ⟨hb52, tt⟩, hb52, tt, ⟨hb53, tt⟩, ⟨hb53, tt⟩, ⟨hb53, tt⟩, ⟨hb53, c74⟩, ⟨hb53, tt⟩, ⟨hb53, tt⟩, ⟨hb53, tt⟩, ⟨hb53, tt⟩, ⟨hb53, tt⟩, ⟨hb53, tt⟩, ⟨hb53, tt⟩, ⟨hb53, tt⟩, ⟨hb53, tt⟩, hb53, tt⟩) ?_
          obtain rfl := sI h
          exact postN_to (gl [] [0] (by kernel_rfl))
        clear hp8
        obtain ⟨rfl, hle⟩ := hq
        refine use_to ?_ hle
        refine to_then ?_
        refine W_cond (b := v11) (β := false) (by kernel_rfl) (fun hb54 => ?_) (fun hb54 => ?_)
        · replace h := h_if hb54 h
          refine W_rs tbok ⟨[], []⟩ [] [] [(2, .bo false)] [] 0 0 [True] (by kernel_rfl) ⟨tt, tt⟩ ?_
          refine W_ret ?_
          obtain rfl := sI h
          refine blockQ_ret ?_
          refine thenQ_ret ?_
          refine round_ret ?_
          refine postS_rr ?_
          exact postR_mk (Ret_intro [.bool] (by kernel_rfl))
        replace h := h_else hb54 h
        refine W_skip_to ?_
        refine to_block ?_
        refine to_then ?_
        refine W_r tbok ⟨[], []⟩ [] [0] [(1, .adr 0 0 5 0), (102, .p false (.slice (.prod (.int .u8) Y1)) r7.2.2.2.2), (103, .i64 (r7.2.2.2.2.length : Int)), (104, .i64 (IntKind.i64.wrap (v10 + (1 : Int))))] (ob84 d1 d2 d3 β3 d4 d5) 1 0 [True, True] (by kernel_rfl) ⟨tt, tt, tt⟩ ?_
        obtain rfl := sI h
        exact roundB (gl [] [0] (by kernel_rfl))
      replace h := h_else hb47 h
      refine W_exit_to ?_
      refine thenE ?_
      obtain rfl := sI h
      refine roundE ?_
      refine postS_l ?_
      exact postX_to (gl [] [] (by kernel_rfl))
    clear hp9
    rcases r14 with _ | r13
    · obtain ⟨rfl, hle⟩ := hq
      refine use_to ?_ hle
      refine blockE_eq ?_
      refine to_then ?_
      refine W_rs tbok ⟨[], []⟩ [] [] [(2, .bo true)] [] 0 0 [True] (by kernel_rfl) ⟨tt, tt⟩ ?_
      refine W_ret ?_
      obtain rfl := sI h
      exact Ret_intro [.bool] (by kernel_rfl)
    obtain ⟨rfl, hr⟩ := hq
    refine blockQ_ret ?_
    refine thenQ_ret ?_
    obtain rfl := sI h
    exact hr
  obtain ⟨rfl, hr⟩ := hq
  refine blockQ_ret ?_
  refine thenQ_ret ?_
  obtain rfl := sI h
  exact hr
end
end Go.Proofs.Ytjfjigknkhgkdaa.T
