/- Functions of the program as functions on data, and that the program's own come to them. -/
import Derived.Test.YtjfjigknkhgkdaaTvT03x0
import Derived.Test.YtjfjigknkhgkdaaTvT03xa
import Derived.Test.YtjfjigknkhgkdaaTvT03xb
import Derived.Test.YtjfjigknkhgkdaaTvT03xd
namespace Go.Proofs.Ytjfjigknkhgkdaa.T
open Go Go.Tv Go.Proofs
noncomputable section
set_option maxRecDepth 100000
set_option maxHeartbeats 4000000
def lq_RulesSpaced_L1 (i1 : Int) (r4 : List UInt8) : ((List UInt8) × Int) → Option (((List UInt8) × Int) ⊕ (List UInt8)) := fun ((v7, v8) : (List UInt8) × Int) =>
  (if (decide (v8 < (r4.length : Int))) = true then (if 0 ≤ v8 ∧ v8 ≤ (IntKind.i64.wrap (v8 + (1 : Int))) ∧ (IntKind.i64.wrap (v8 + (1 : Int))) ≤ (r4.length : Int) then (if v7.length + ((r4.take (IntKind.i64.wrap (v8 + (1 : Int))).toNat).drop v8.toNat).length ≤ 9223372036854775807 then (((if 0 ≤ v8 ∧ v8 < (r4.length : Int) then (if (((r4.getD v8.toNat 0).toNat : Int) == (32 : Int)) = true then some (true)
  else (if 0 ≤ v8 ∧ v8 < (r4.length : Int) then (if (((r4.getD v8.toNat 0).toNat : Int) == (59 : Int)) = true then some (true)
  else (if 0 ≤ v8 ∧ v8 < (r4.length : Int) then some ((((r4.getD v8.toNat 0).toNat : Int) == (40 : Int))) else none)) else none)) else none)).bind fun (v10 : Bool) => (((if v10 = true then (if (v7 ++ ((r4.take (IntKind.i64.wrap (v8 + (1 : Int))).toNat).drop v8.toNat)).length + (([([32, 32] : List UInt8), ([10, 35, 32, 107, 101, 101, 112, 32, 65, 32, 47, 32, 65, 59, 32, 40, 10] : List UInt8), ([9, 13, 10] : List UInt8), ([32, 35, 10] : List UInt8)] : List (List UInt8)).getD ((Int.tmod i1 (4 : Int)).toNat) ([] : List UInt8)).length ≤ 9223372036854775807 then some (((v7 ++ ((r4.take (IntKind.i64.wrap (v8 + (1 : Int))).toNat).drop v8.toNat)) ++ (([([32, 32] : List UInt8), ([10, 35, 32, 107, 101, 101, 112, 32, 65, 32, 47, 32, 65, 59, 32, 40, 10] : List UInt8), ([9, 13, 10] : List UInt8), ([32, 35, 10] : List UInt8)] : List (List UInt8)).getD ((Int.tmod i1 (4 : Int)).toNat) ([] : List UInt8)))) else none)
  else some ((v7 ++ ((r4.take (IntKind.i64.wrap (v8 + (1 : Int))).toNat).drop v8.toNat))))).bind fun (v11 : List UInt8) => some (Sum.inl (v11, (IntKind.i64.wrap (v8 + (1 : Int))))))) else none) else none)
  else some (Sum.inr v7))
def lq_RulesSpaced (d1 d2 d3 : Int) (d4 : List Int) (d5 : List (Int × (List Int) × List Int)) (i1 : Int) : Option (Bool) :=
  ((lq_Awake).bind fun (r2 : Bool) =>
  (if (!r2) = true then some false
  else ((hq_Text d1 d2 d3 d4 d5).bind fun (r4 : List UInt8) =>
  (if ¬ (4 : Int) = 0 then (if 0 ≤ (Int.tmod i1 (4 : Int)) ∧ (Int.tmod i1 (4 : Int)) < (([([32, 32] : List UInt8), ([10, 35, 32, 107, 101, 101, 112, 32, 65, 32, 47, 32, 65, 59, 32, 40, 10] : List UInt8), ([9, 13, 10] : List UInt8), ([32, 35, 10] : List UInt8)] : List (List UInt8)).length : Int) then (if (Int.tmod i1 (4 : Int)).toNat < ([([32, 32] : List UInt8), ([10, 35, 32, 107, 101, 101, 112, 32, 65, 32, 47, 32, 65, 59, 32, 40, 10] : List UInt8), ([9, 13, 10] : List UInt8), ([32, 35, 10] : List UInt8)] : List (List UInt8)).length then ((iter (lq_RulesSpaced_L1 i1 r4) (([] : List UInt8), (0 : Int))).bind fun (v9 : List UInt8) => (if (decide ((v9.length : Int) > (4096 : Int))) = true then some true
  else ((rules_Parse r4).bind fun ((r7, r8) : ((List (List UInt8)) × Int × Int × (List Int) × List (Int × Tree × Tree)) × Int × Int) =>
  ((rules_Parse v9).bind fun ((r11, r12) : ((List (List UInt8)) × Int × Int × (List Int) × List (Int × Tree × Tree)) × Int × Int) =>
  (((if (r8.1 == r12.1) = true then ((rr_SameRules r7.1 r7.2.1 r7.2.2.1 r7.2.2.2.1 r7.2.2.2.2 r11.1 r11.2.1 r11.2.2.1 r11.2.2.2.1 r11.2.2.2.2).bind fun (r15 : Bool) =>
  some (r15))
  else some (false))).bind fun (v12 : Bool) => some v12))))) else none) else none) else none))))
theorem lq_RulesSpaced_ok (β3 : Bool) (d1 d2 d3 : Int) (d4 : List Int) (d5 : List (Int × (List Int) × List Int)) (i1 : Int) (res : Bool) (h : lq_RulesSpaced d1 d2 d3 d4 d5 i1 = some res) :
    Pure Try.prog 6 [.agg [.u8 d1, .u8 d2, .u8 d3, .p β3 (.slice (.int .u8)) d4, .p false (.slice (.prod (.int .u8) Y6)) d5], .u8 i1] (wrapR (encs false [⟨.bool, res⟩])) := by
  refine Pure.of_body tbok Try.func6 (by kernel_rfl) rfl (nl rfl) (fun Bw w0 => ?_) rfl
  unfold lq_RulesSpaced at h
  refine W_rs tbok ⟨[], []⟩ [] [0] [(1, .u8 i1), (2, .adr 0 0 5 0)] (ob84 d1 d2 d3 β3 d4 d5) 1 0 [True, True] (by kernel_rfl) ⟨tt, tt, tt⟩ ?_
  refine W_seq ?_
  obtain ⟨r2, q2, h⟩ := h_bind h
  refine W_rs tbok ⟨[], [(0, ⟨.bo r2, [], false, [], [], [], none⟩)]⟩ [] [0] [(1, .u8 i1), (2, .adr 0 0 5 0), (14, .bo (!r2))] (ob84 d1 d2 d3 β3 d4 d5) 1 0 [Pure Try.prog 10 [] (.bo r2), True] (by kernel_rfl) ⟨(lq_Awake_ok _ q2), tt, tt⟩ ?_
  refine W_cond (b := (!r2)) (β := false) (by kernel_rfl) (fun hb1 => ?_) (fun hb1 => ?_)
  · replace h := h_if hb1 h
    refine W_rs tbok ⟨[], []⟩ [] [] [(4, .bo false)] [] 0 0 [True] (by kernel_rfl) ⟨tt, tt⟩ ?_
    refine W_ret ?_
    refine thenQ_ret ?_
    obtain rfl := sI h
    exact Ret_intro [.bool] (by kernel_rfl)
  replace h := h_else hb1 h
  refine W_skip_to ?_
  refine to_then ?_
  obtain ⟨r4, q4, h⟩ := h_bind h
  have u_1 := (hq_Text_ok β3 d1 d2 d3 d4 d5 _ q4)
  refine W_rs tbok ⟨[], [(1, ⟨.st r4, [false], false, [true], [], [], none⟩)]⟩ [] [] [(1, .u8 i1), (5, .st r4)] [] 0 0 [True, pO u_1, True] (by kernel_rfl) ⟨tt, u_1, tt, tt⟩ ?_
  refine W_seq ?_
  obtain ⟨c4, h⟩ := h_guard h
  obtain ⟨c5, h⟩ := h_guard h
  obtain ⟨c6, h⟩ := h_guard h
  refine W_r tbok ⟨[], []⟩ [] [] [(5, .st r4), (6, .st (([([32, 32] : List UInt8), ([10, 35, 32, 107, 101, 101, 112, 32, 65, 32, 47, 32, 65, 59, 32, 40, 10] : List UInt8), ([9, 13, 10] : List UInt8), ([32, 35, 10] : List UInt8)] : List (List UInt8)).getD ((Int.tmod i1 (4 : Int)).toNat) ([] : List UInt8)))] [] 0 0 [True, True, ¬ (4 : Int) = 0, 0 ≤ (Int.tmod i1 (4 : Int)) ∧ (Int.tmod i1 (4 : Int)) < (([([32, 32] : List UInt8), ([10, 35, 32, 107, 101, 101, 112, 32, 65, 32, 47, 32, 65, 59, 32, 40, 10] : List UInt8), ([9, 13, 10] : List UInt8), ([32, 35, 10] : List UInt8)] : List (List UInt8)).length : Int), (Int.tmod i1 (4 : Int)).toNat < ([([32, 32] : List UInt8), ([10, 35, 32, 107, 101, 101, 112, 32, 65, 32, 47, 32, 65, 59, 32, 40, 10] : List UInt8), ([9, 13, 10] : List UInt8), ([32, 35, 10] : List UInt8)] : List (List UInt8)).length, True] (by kernel_rfl) ⟨tt, tt, c4, c5, c6, tt, tt⟩ ?_
  refine to_then ?_
  refine W_rs tbok ⟨[], []⟩ [] [] [(5, .st r4), (6, .st (([([32, 32] : List UInt8), ([10, 35, 32, 107, 101, 101, 112, 32, 65, 32, 47, 32, 65, 59, 32, 40, 10] : List UInt8), ([9, 13, 10] : List UInt8), ([32, 35, 10] : List UInt8)] : List (List UInt8)).getD ((Int.tmod i1 (4 : Int)).toNat) ([] : List UInt8))), (7, .st ([] : List UInt8))] [] 0 0 [True] (by kernel_rfl) ⟨tt, tt⟩ ?_
  refine W_seq ?_
  refine W_rs tbok ⟨[], []⟩ [] [] [(5, .st r4), (6, .st (([([32, 32] : List UInt8), ([10, 35, 32, 107, 101, 101, 112, 32, 65, 32, 47, 32, 65, 59, 32, 40, 10] : List UInt8), ([9, 13, 10] : List UInt8), ([32, 35, 10] : List UInt8)] : List (List UInt8)).getD ((Int.tmod i1 (4 : Int)).toNat) ([] : List UInt8))), (7, .st ([] : List UInt8)), (23, .i64 (r4.length : Int)), (24, .i64 (0 : Int))] [] 0 0 (Ts 3 []) (by kernel_rfl) (tr 3 tt) ?_
  refine W_block ?_
  obtain ⟨v9, hp7, h⟩ := h_bind h
  refine W.mono (Q := (postX Try.f6.ntmps 0 (fun (v9 : List UInt8) => mkSt [(5, .st r4), (7, .st v9)] [] 0)) v9) (W_iter (f := fun ((v7, v8) : (List UInt8) × Int) => mkSt [(5, .st r4), (6, .st (([([32, 32] : List UInt8), ([10, 35, 32, 107, 101, 101, 112, 32, 65, 32, 47, 32, 65, 59, 32, 40, 10] : List UInt8), ([9, 13, 10] : List UInt8), ([32, 35, 10] : List UInt8)] : List (List UInt8)).getD ((Int.tmod i1 (4 : Int)).toNat) ([] : List UInt8))), (7, .st v7), (23, .i64 (r4.length : Int)), (24, .i64 v8)] [] 0) (Q := (postX Try.f6.ntmps 0 (fun (v9 : List UInt8) => mkSt [(5, .st r4), (7, .st v9)] [] 0))) hp7 (gl [] [] (by kernel_rfl)) (fun y o ho => ?_)) (fun e σ' hq => ?_)
  · obtain ⟨v7, v8⟩ := y
    replace h := ho
    clear ho hp7
    unfold lq_RulesSpaced_L1 at h
    refine W_rs tbok ⟨[], []⟩ [] [] [(5, .st r4), (6, .st (([([32, 32] : List UInt8), ([10, 35, 32, 107, 101, 101, 112, 32, 65, 32, 47, 32, 65, 59, 32, 40, 10] : List UInt8), ([9, 13, 10] : List UInt8), ([32, 35, 10] : List UInt8)] : List (List UInt8)).getD ((Int.tmod i1 (4 : Int)).toNat) ([] : List UInt8))), (7, .st v7), (23, .i64 (r4.length : Int)), (24, .i64 v8), (25, .bo (decide (v8 < (r4.length : Int))))] [] 0 0 [True] (by kernel_rfl) ⟨tt, tt⟩ ?_
    refine W_seq ?_
    refine W_cond (b := (decide (v8 < (r4.length : Int)))) (β := false) (by kernel_rfl) (fun hb20 => ?_) (fun hb20 => ?_)
    · replace h := h_if hb20 h
      refine W_skip_to ?_
      refine to_then ?_
      refine W_seq ?_
      refine W_block ?_
      refine W_rs tbok ⟨[], []⟩ [] [] [(5, .st r4), (6, .st (([([32, 32] : List UInt8), ([10, 35, 32, 107, 101, 101, 112, 32, 65, 32, 47, 32, 65, 59, 32, 40, 10] : List UInt8), ([9, 13, 10] : List UInt8), ([32, 35, 10] : List UInt8)] : List (List UInt8)).getD ((Int.tmod i1 (4 : Int)).toNat) ([] : List UInt8))), (7, .st v7), (8, .i64 v8), (23, .i64 (r4.length : Int)), (24, .i64 v8)] [] 0 0 [True, True] (by kernel_rfl) ⟨tt, tt, tt⟩ ?_
      refine W_seq ?_
      obtain ⟨c43, h⟩ := h_guard h
      obtain ⟨c44, h⟩ := h_guard h
      refine W_r tbok ⟨[], []⟩ [] [] [(5, .st r4), (6, .st (([([32, 32] : List UInt8), ([10, 35, 32, 107, 101, 101, 112, 32, 65, 32, 47, 32, 65, 59, 32, 40, 10] : List UInt8), ([9, 13, 10] : List UInt8), ([32, 35, 10] : List UInt8)] : List (List UInt8)).getD ((Int.tmod i1 (4 : Int)).toNat) ([] : List UInt8))), (7, .st (v7 ++ ((r4.take (IntKind.i64.wrap (v8 + (1 : Int))).toNat).drop v8.toNat))), (8, .i64 v8), (23, .i64 (r4.length : Int)), (24, .i64 v8)] [] 0 0 (Ts 5 [0 ≤ v8 ∧ v8 ≤ (IntKind.i64.wrap (v8 + (1 : Int))) ∧ (IntKind.i64.wrap (v8 + (1 : Int))) ≤ (r4.length : Int), v7.length + ((r4.take (IntKind.i64.wrap (v8 + (1 : Int))).toNat).drop v8.toNat).length ≤ 9223372036854775807, True]) (by kernel_rfl) (tr 5 ⟨c43, c44, tt, tt⟩) ?_
      refine to_then ?_
      refine W_seq ?_
      obtain ⟨v10, hp5, h⟩ := h_bind h
      refine W.mono (Q := (postN Try.f6.ntmps (fun (v10 : Bool) => mkSt [(5, .st r4), (6, .st (([([32, 32] : List UInt8), ([10, 35, 32, 107, 101, 101, 112, 32, 65, 32, 47, 32, 65, 59, 32, 40, 10] : List UInt8), ([9, 13, 10] : List UInt8), ([32, 35, 10] : List UInt8)] : List (List UInt8)).getD ((Int.tmod i1 (4 : Int)).toNat) ([] : List UInt8))), (7, .st (v7 ++ ((r4.take (IntKind.i64.wrap (v8 + (1 : Int))).toNat).drop v8.toNat))), (23, .i64 (r4.length : Int)), (24, .i64 v8), (49, .bo v10)] [] 0)) v10) ?_ (fun e σ' hq => ?_)
      · replace h := hp5
        clear hp5
        obtain ⟨c51, h⟩ := h_guard h
        rcases bb (((r4.getD v8.toNat 0).toNat : Int) == (32 : Int)) with hb25 | hb25
        · replace h := h_if hb25 h
          refine W_r tbok ⟨[(4, true), (9, true), (10, true), (15, true)], []⟩ [] [] [(5, .st r4), (6, .st (([([32, 32] : List UInt8), ([10, 35, 32, 107, 101, 101, 112, 32, 65, 32, 47, 32, 65, 59, 32, 40, 10] : List UInt8), ([9, 13, 10] : List UInt8), ([32, 35, 10] : List UInt8)] : List (List UInt8)).getD ((Int.tmod i1 (4 : Int)).toNat) ([] : List UInt8))), (7, .st (v7 ++ ((r4.take (IntKind.i64.wrap (v8 + (1 : Int))).toNat).drop v8.toNat))), (23, .i64 (r4.length : Int)), (24, .i64 v8), (49, .bo true)] [] 0 0 [True, True, 0 ≤ v8 ∧ v8 < (r4.length : Int), True, True, (((r4.getD v8.toNat 0).toNat : Int) == (32 : Int)) = true, (((r4.getD v8.toNat 0).toNat : Int) == (32 : Int)) = true, (((r4.getD v8.toNat 0).toNat : Int) == (32 : Int)) = true, (((r4.getD v8.toNat 0).toNat : Int) == (32 : Int)) = true, (((r4.getD v8.toNat 0).toNat : Int) == (32 : Int)) = true, True, true = true, true = true, true = true, true = true, true = true] (by kernel_rfl) ⟨tt, tt, c51, tt, tt, hb25, hb25, hb25, hb25, hb25, tt, rfl, rfl, rfl, rfl, rfl, tt⟩ ?_
          obtain rfl := sI h
          exact postN_to (gl [] [] (by kernel_rfl))
        replace h := h_else hb25 h
        obtain ⟨c52, h⟩ := h_guard h
        rcases bb (((r4.getD v8.toNat 0).toNat : Int) == (59 : Int)) with hb26 | hb26
        · replace h := h_if hb26 h
          refine W_r tbok ⟨[(4, false), (9, false), (10, true), (15, true)], []⟩ [] [] [(5, .st r4), (6, .st (([([32, 32] : List UInt8), ([10, 35, 32, 107, 101, 101, 112, 32, 65, 32, 47, 32, 65, 59, 32, 40, 10] : List UInt8), ([9, 13, 10] : List UInt8), ([32, 35, 10] : List UInt8)] : List (List UInt8)).getD ((Int.tmod i1 (4 : Int)).toNat) ([] : List UInt8))), (7, .st (v7 ++ ((r4.take (IntKind.i64.wrap (v8 + (1 : Int))).toNat).drop v8.toNat))), (23, .i64 (r4.length : Int)), (24, .i64 v8), (49, .bo true)] [] 0 0 [True, True, 0 ≤ v8 ∧ v8 < (r4.length : Int), True, True, (((r4.getD v8.toNat 0).toNat : Int) == (32 : Int)) = false ∧ True, (((r4.getD v8.toNat 0).toNat : Int) == (32 : Int)) = false ∧ True, (((r4.getD v8.toNat 0).toNat : Int) == (32 : Int)) = false ∧ 0 ≤ v8 ∧ v8 < (r4.length : Int), (((r4.getD v8.toNat 0).toNat : Int) == (32 : Int)) = false ∧ True, (((r4.getD v8.toNat 0).toNat : Int) == (32 : Int)) = false, True, (((r4.getD v8.toNat 0).toNat : Int) == (59 : Int)) = true, (((r4.getD v8.toNat 0).toNat : Int) == (59 : Int)) = true, (((r4.getD v8.toNat 0).toNat : Int) == (59 : Int)) = true, (((r4.getD v8.toNat 0).toNat : Int) == (59 : Int)) = true, (((r4.getD v8.toNat 0).toNat : Int) == (59 : Int)) = true] (by kernel_rfl) ⟨tt, tt, c51, tt, tt, ⟨hb25, tt⟩, ⟨hb25, tt⟩, ⟨hb25, c52⟩, ⟨hb25, tt⟩, hb25, tt, hb26, hb26, hb26, hb26, hb26, tt⟩ ?_
          obtain rfl := sI h
          exact postN_to (gl [] [] (by kernel_rfl))
        replace h := h_else hb26 h
        obtain ⟨c53, h⟩ := h_guard h
        refine W_r tbok ⟨[(4, false), (9, false), (10, false), (15, false)], []⟩ [] [] [(5, .st r4), (6, .st (([([32, 32] : List UInt8), ([10, 35, 32, 107, 101, 101, 112, 32, 65, 32, 47, 32, 65, 59, 32, 40, 10] : List UInt8), ([9, 13, 10] : List UInt8), ([32, 35, 10] : List UInt8)] : List (List UInt8)).getD ((Int.tmod i1 (4 : Int)).toNat) ([] : List UInt8))), (7, .st (v7 ++ ((r4.take (IntKind.i64.wrap (v8 + (1 : Int))).toNat).drop v8.toNat))), (23, .i64 (r4.length : Int)), (24, .i64 v8), (49, .bo (((r4.getD v8.toNat 0).toNat : Int) == (40 : Int)))] [] 0 0 [True, True, 0 ≤ v8 ∧ v8 < (r4.length : Int), True, True, (((r4.getD v8.toNat 0).toNat : Int) == (32 : Int)) = false ∧ True, (((r4.getD v8.toNat 0).toNat : Int) == (32 : Int)) = false ∧ True, (((r4.getD v8.toNat 0).toNat : Int) == (32 : Int)) = false ∧ 0 ≤ v8 ∧ v8 < (r4.length : Int), (((r4.getD v8.toNat 0).toNat : Int) == (32 : Int)) = false ∧ True, (((r4.getD v8.toNat 0).toNat : Int) == (32 : Int)) = false, True, (((r4.getD v8.toNat 0).toNat : Int) == (59 : Int)) = false ∧ True, (((r4.getD v8.toNat 0).toNat : Int) == (59 : Int)) = false ∧ True, (((r4.getD v8.toNat 0).toNat : Int) == (59 : Int)) = false ∧ 0 ≤ v8 ∧ v8 < (r4.length : Int), (((r4.getD v8.toNat 0).toNat : Int) == (59 : Int)) = false ∧ True, (((r4.getD v8.toNat 0).toNat : Int) == (59 : Int)) = false] (by kernel_rfl) ⟨tt, tt, c51, tt, tt, ⟨hb25, tt⟩, ⟨hb25, tt⟩, ⟨hb25, c52⟩, ⟨hb25, tt⟩, hb25, tt, ⟨hb26, tt⟩, ⟨hb26, tt⟩, ⟨hb26, c53⟩, ⟨hb26, tt⟩, hb26, tt⟩ ?_
        obtain rfl := sI h
        exact postN_to (gl [] [] (by kernel_rfl))
      clear hp5
      obtain ⟨rfl, hle⟩ := hq
      refine use_to ?_ hle
      refine to_then ?_
      obtain ⟨v11, hp6, h⟩ := h_bind h
      refine W.mono (Q := (postN Try.f6.ntmps (fun (v11 : List UInt8) => mkSt [(5, .st r4), (6, .st (([([32, 32] : List UInt8), ([10, 35, 32, 107, 101, 101, 112, 32, 65, 32, 47, 32, 65, 59, 32, 40, 10] : List UInt8), ([9, 13, 10] : List UInt8), ([32, 35, 10] : List UInt8)] : List (List UInt8)).getD ((Int.tmod i1 (4 : Int)).toNat) ([] : List UInt8))), (7, .st v11), (23, .i64 (r4.length : Int)), (24, .i64 v8)] [] 0)) v11) ?_ (fun e σ' hq => ?_)
      · replace h := hp6
        clear hp6
        refine W_cond (b := v10) (β := false) (by kernel_rfl) (fun hb28 => ?_) (fun hb28 => ?_)
        · replace h := h_if hb28 h
          obtain ⟨c57, h⟩ := h_guard h
          refine W_r tbok ⟨[], []⟩ [] [] [(5, .st r4), (6, .st (([([32, 32] : List UInt8), ([10, 35, 32, 107, 101, 101, 112, 32, 65, 32, 47, 32, 65, 59, 32, 40, 10] : List UInt8), ([9, 13, 10] : List UInt8), ([32, 35, 10] : List UInt8)] : List (List UInt8)).getD ((Int.tmod i1 (4 : Int)).toNat) ([] : List UInt8))), (7, .st ((v7 ++ ((r4.take (IntKind.i64.wrap (v8 + (1 : Int))).toNat).drop v8.toNat)) ++ (([([32, 32] : List UInt8), ([10, 35, 32, 107, 101, 101, 112, 32, 65, 32, 47, 32, 65, 59, 32, 40, 10] : List UInt8), ([9, 13, 10] : List UInt8), ([32, 35, 10] : List UInt8)] : List (List UInt8)).getD ((Int.tmod i1 (4 : Int)).toNat) ([] : List UInt8)))), (23, .i64 (r4.length : Int)), (24, .i64 v8)] [] 0 0 [True, True, (v7 ++ ((r4.take (IntKind.i64.wrap (v8 + (1 : Int))).toNat).drop v8.toNat)).length + (([([32, 32] : List UInt8), ([10, 35, 32, 107, 101, 101, 112, 32, 65, 32, 47, 32, 65, 59, 32, 40, 10] : List UInt8), ([9, 13, 10] : List UInt8), ([32, 35, 10] : List UInt8)] : List (List UInt8)).getD ((Int.tmod i1 (4 : Int)).toNat) ([] : List UInt8)).length ≤ 9223372036854775807, True] (by kernel_rfl) ⟨tt, tt, c57, tt, tt⟩ ?_
          obtain rfl := sI h
          exact postN_to (gl [] [] (by kernel_rfl))
        replace h := h_else hb28 h
        refine W_skip_to ?_
        obtain rfl := sI h
        exact postN_to (gl [] [] (by kernel_rfl))
      clear hp6
      obtain ⟨rfl, hle⟩ := hq
      refine use_to ?_ hle
      refine to_block ?_
      refine to_then ?_
      refine W_r tbok ⟨[], []⟩ [] [] [(5, .st r4), (6, .st (([([32, 32] : List UInt8), ([10, 35, 32, 107, 101, 101, 112, 32, 65, 32, 47, 32, 65, 59, 32, 40, 10] : List UInt8), ([9, 13, 10] : List UInt8), ([32, 35, 10] : List UInt8)] : List (List UInt8)).getD ((Int.tmod i1 (4 : Int)).toNat) ([] : List UInt8))), (7, .st v11), (23, .i64 (r4.length : Int)), (24, .i64 (IntKind.i64.wrap (v8 + (1 : Int))))] [] 0 0 [True, True] (by kernel_rfl) ⟨tt, tt, tt⟩ ?_
      obtain rfl := sI h
      exact roundB (gl [] [] (by kernel_rfl))
    replace h := h_else hb20 h
    refine W_exit_to ?_
    refine thenE ?_
    obtain rfl := sI h
    refine roundE ?_
    exact postX_to (gl [] [] (by kernel_rfl))
  clear hp7
  obtain ⟨rfl, hle⟩ := hq
  refine use_to ?_ hle
  refine blockE_eq ?_
  refine to_then ?_
  refine W_seq ?_
  refine W_rs tbok ⟨[], []⟩ [] [] [(5, .st r4), (7, .st v9), (56, .bo (decide ((v9.length : Int) > (4096 : Int))))] [] 0 0 (Ts 3 []) (by kernel_rfl) (tr 3 tt) ?_
  refine W_cond (b := (decide ((v9.length : Int) > (4096 : Int)))) (β := false) (by kernel_rfl) (fun hb29 => ?_) (fun hb29 => ?_)
  · replace h := h_if hb29 h
    refine W_rs tbok ⟨[], []⟩ [] [] [(4, .bo true)] [] 0 0 [True] (by kernel_rfl) ⟨tt, tt⟩ ?_
    refine W_ret ?_
    refine thenQ_ret ?_
    obtain rfl := sI h
    exact Ret_intro [.bool] (by kernel_rfl)
  replace h := h_else hb29 h
  refine W_skip_to ?_
  refine to_then ?_
  obtain ⟨⟨r7, r8⟩, q6, h⟩ := h_bind h
  have u_1 := (rules_Parse_ok r4 _ q6)
  refine W_rs tbok ⟨[], [(1, ⟨.tup [.agg [.p false (.slice .str) r7.1, .u32 r7.2.1, .u32 r7.2.2.1, .p false (.slice (.int .i64)) r7.2.2.2.1, .p false (.slice (.prod (.int .u8) Y1)) r7.2.2.2.2], .agg [.i64 r8.1, .i64 r8.2]], [false], false, [true], [], [], none⟩)]⟩ [] [40, 48] [(7, .st v9), (9, .adr 0 0 5 0), (10, .adr 1 0 2 0)] (ob39 r7.1 r7.2.1 r7.2.2.1 r7.2.2.2.1 r7.2.2.2.2 r8.1 r8.2) 2 0 (True :: (pO u_1) :: (Ts 7 [])) (by kernel_rfl) ⟨tt, u_1, (tr 7 tt)⟩ ?_
  obtain ⟨⟨r11, r12⟩, q8, h⟩ := h_bind h
  have u_1 := (rules_Parse_ok v9 _ q8)
  refine W_rs tbok ⟨[], [(1, ⟨.tup [.agg [.p false (.slice .str) r11.1, .u32 r11.2.1, .u32 r11.2.2.1, .p false (.slice (.int .i64)) r11.2.2.2.1, .p false (.slice (.prod (.int .u8) Y1)) r11.2.2.2.2], .agg [.i64 r12.1, .i64 r12.2]], [false], false, [true], [], [], none⟩)]⟩ [] [0, 1, 42, 50] [(9, .adr 0 0 5 0), (10, .adr 1 0 2 0), (11, .adr 2 0 5 0), (12, .adr 3 0 2 0)] (ob86 r7.1 r7.2.1 r7.2.2.1 r7.2.2.2.1 r7.2.2.2.2 r8.1 r8.2 r11.1 r11.2.1 r11.2.2.1 r11.2.2.2.1 r11.2.2.2.2 r12.1 r12.2) 4 0 (True :: (pO u_1) :: (Ts 7 [])) (by kernel_rfl) ⟨tt, u_1, (tr 7 tt)⟩ ?_
  refine W_seq ?_
  obtain ⟨v12, hp8, h⟩ := h_bind h
  refine W.mono (Q := (postN Try.f6.ntmps (fun (v12 : Bool) => mkSt [(4, .bo v12)] [] 0)) v12) ?_ (fun e σ' hq => ?_)
  · replace h := hp8
    clear hp8
    rcases bb (r8.1 == r12.1) with hb32 | hb32
    · replace h := h_if hb32 h
      obtain ⟨r15, q11, h⟩ := h_bind h
      have u_1 := (rr_SameRules_ok false false false false false false r7.1 r7.2.1 r7.2.2.1 r7.2.2.2.1 r7.2.2.2.2 r11.1 r11.2.1 r11.2.2.1 r11.2.2.2.1 r11.2.2.2.2 _ q11)
      refine W_r tbok ⟨[(5, true), (9, true)], [(8, ⟨.bo r15, [false, false], false, [true, true], [], [], none⟩)]⟩ [] [] [(4, .bo r15)] [] 0 0 (Ts 6 [(r8.1 == r12.1) = true ∧ True, (r8.1 == r12.1) = true ∧ True, (r8.1 == r12.1) = true ∧ pO u_1, (r8.1 == r12.1) = true, True]) (by kernel_rfl) (tr 6 ⟨⟨hb32, tt⟩, ⟨hb32, tt⟩, ⟨hb32, u_1⟩, hb32, tt, tt⟩) ?_
      obtain rfl := sI h
      exact postN_to (gl [] [] (by kernel_rfl))
    replace h := h_else hb32 h
    refine W_r tbok ⟨[(5, false), (9, false)], []⟩ [] [] [(4, .bo false)] [] 0 0 (Ts 6 [(r8.1 == r12.1) = false, (r8.1 == r12.1) = false, (r8.1 == r12.1) = false, (r8.1 == r12.1) = false, True]) (by kernel_rfl) (tr 6 ⟨hb32, hb32, hb32, hb32, tt, tt⟩) ?_
    obtain rfl := sI h
    exact postN_to (gl [] [] (by kernel_rfl))
  clear hp8
  obtain ⟨rfl, hle⟩ := hq
  refine use_to ?_ hle
  refine to_then ?_
  refine W_ret ?_
  obtain rfl := sI h
  exact Ret_intro [.bool] (by kernel_rfl)
end
end Go.Proofs.Ytjfjigknkhgkdaa.T
