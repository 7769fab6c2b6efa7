/- Functions of the program as functions on data, and that the program's own come to them. -/
import Derived.Test.YtcdmdcfpjeomfaaTvT07x0
import Derived.Test.YtcdmdcfpjeomfaaTvT07xa
import Derived.Test.YtcdmdcfpjeomfaaTvT07xa1
import Derived.Test.YtcdmdcfpjeomfaaTvT07xb
namespace Go.Proofs.Ytcdmdcfpjeomfaa.T
open Go Go.Tv Go.Proofs
noncomputable section

/-- a loop of 'stanza/stanzalaw07.PatsLimits': one round -/
def stanzalaw07_PatsLimits_L1 (i1 : Int) : ((List UInt8) × Int × Int) → Option (((List UInt8) × Int × Int) ⊕ ((List UInt8) × Int)) := fun ((v20, v21, v22) : (List UInt8) × Int × Int) =>
  (if (decide (v22 < (IntKind.i64.wrap ((256 : Int) + (IntKind.i64.wrap (Int.tmod i1 (2 : Int))))))) = true then (if ¬ (26 : Int) = 0 then (if ¬ (26 : Int) = 0 then (if ([49] : List UInt8).length + (bytesOf ([(IntKind.u8.wrap (IntKind.i64.wrap ((97 : Int) + (Int.tmod v22 (26 : Int))))), (IntKind.u8.wrap (IntKind.i64.wrap ((97 : Int) + (IntKind.i64.wrap (Int.tdiv v22 (26 : Int))))))] : List Int)).length ≤ 9223372036854775807 then (if (([49] : List UInt8) ++ (bytesOf ([(IntKind.u8.wrap (IntKind.i64.wrap ((97 : Int) + (Int.tmod v22 (26 : Int))))), (IntKind.u8.wrap (IntKind.i64.wrap ((97 : Int) + (IntKind.i64.wrap (Int.tdiv v22 (26 : Int))))))] : List Int))).length + ([32] : List UInt8).length ≤ 9223372036854775807 then (if v20.length + ((([49] : List UInt8) ++ (bytesOf ([(IntKind.u8.wrap (IntKind.i64.wrap ((97 : Int) + (Int.tmod v22 (26 : Int))))), (IntKind.u8.wrap (IntKind.i64.wrap ((97 : Int) + (IntKind.i64.wrap (Int.tdiv v22 (26 : Int))))))] : List Int))) ++ ([32] : List UInt8)).length ≤ 9223372036854775807 then some (Sum.inl ((v20 ++ ((([49] : List UInt8) ++ (bytesOf ([(IntKind.u8.wrap (IntKind.i64.wrap ((97 : Int) + (Int.tmod v22 (26 : Int))))), (IntKind.u8.wrap (IntKind.i64.wrap ((97 : Int) + (IntKind.i64.wrap (Int.tdiv v22 (26 : Int))))))] : List Int))) ++ ([32] : List UInt8))), (v20.length : Int), (IntKind.i64.wrap (v22 + (1 : Int))))) else none) else none) else none) else none) else none)
  else some (Sum.inr (v20, v21)))

/-- a loop of 'stanza/stanzalaw07.PatsLimits': one round -/
def stanzalaw07_PatsLimits_L2 (i1 : Int) : ((List UInt8) × Int) → Option (((List UInt8) × Int) ⊕ (List UInt8)) := fun ((v27, v28) : (List UInt8) × Int) =>
  (if (decide (v28 < (IntKind.i64.wrap ((24 : Int) + (IntKind.i64.wrap (Int.tmod i1 (2 : Int))))))) = true then (if v27.length + ([120] : List UInt8).length ≤ 9223372036854775807 then some (Sum.inl ((v27 ++ ([120] : List UInt8)), (IntKind.i64.wrap (v28 + (1 : Int))))) else none)
  else some (Sum.inr v27))

/-- 'stanza/stanzalaw07.PatsLimits' -/
def stanzalaw07_PatsLimits (d1 : Int) (i1 : Int) : Option (Bool) :=
  ((stanzalaw07_Awake).bind fun (r2 : Bool) =>
  (if (!r2) = true then some false
  else (if ¬ (2 : Int) = 0 then (if ¬ (2 : Int) = 0 then (((if ((Int.tmod d1 (2 : Int)) == (0 : Int)) = true then ((iter (stanzalaw07_PatsLimits_L1 i1) (([] : List UInt8), (0 : Int), (0 : Int))).bind fun ((v23, v24) : (List UInt8) × Int) => some ((v23, v24, (24 : Int))))
  else ((iter (stanzalaw07_PatsLimits_L2 i1) (([97, 98, 32] : List UInt8), (0 : Int))).bind fun (v29 : List UInt8) => some ((v29, (3 : Int), (30 : Int)))))).bind fun ((v14, v15, v16) : (List UInt8) × Int × Int) => ((pats_Parse v14).bind fun ((r8, r9) : ((List ((List Int) × List Int)) × List ((List Int) × List Int)) × Int × Int) =>
  (if ((IntKind.i64.wrap (Int.tmod i1 (2 : Int))) == (1 : Int)) = true then (((if ((r9.1 == v16) && (r9.2 == v15)) = true then some (((r8.1.length : Int) == (0 : Int)))
  else some (false))).bind fun (v30 : Bool) => some v30)
  else (((if (r9.1 == (0 : Int)) = true then ((stanzalaw07_told v14).bind fun (r12 : Bool) =>
  some (r12))
  else some (false))).bind fun (v31 : Bool) => some v31)))) else none) else none)))

set_option maxRecDepth 100000 in
set_option maxHeartbeats 4000000 in
theorem stanzalaw07_PatsLimits_ok (d1 : Int) (i1 : Int) (res : Bool) (h : stanzalaw07_PatsLimits d1 i1 = some res) :
    Pure Try.prog 6 [.p false (.int .u8) d1, .p false (.int .u8) i1] (wrapR (encs false [⟨.bool, res⟩])) := by
  refine Pure.of_body tbok Try.func6 (by kernel_rfl) rfl (Nat.le_of_ble_eq_true rfl) (fun Bw w0 => ?_) rfl
  unfold stanzalaw07_PatsLimits at h
  refine W_seq ?_
  refine W_reg tbok ⟨[], []⟩ [] [] [(0, .p false (.int .u8) d1), (1, .p false (.int .u8) i1)] [] 0 0 [True] (by kernel_rfl) (by kernel_rfl) ⟨trivial, trivial⟩ ?_
  refine to_then ?_
  refine W_seq ?_
  refine W_seq ?_
  obtain ⟨r2, q2, h⟩ := h_bind h
  refine W_reg tbok ⟨[], [(0, ⟨.p false .bool r2, [], false, [], [], []⟩)]⟩ [] [] [(0, .p false (.int .u8) d1), (1, .p false (.int .u8) i1), (13, .p false .bool (!r2))] [] 0 0 [Pure Try.prog 8 [] (.p false .bool r2), True] (by kernel_rfl) (by kernel_rfl) ⟨(stanzalaw07_Awake_ok _ q2), trivial, trivial⟩ ?_
  refine to_then ?_
  refine W_cond (b := (!r2)) (β := false) (by kernel_rfl) (fun hb1 => ?_) (fun hb1 => ?_)
  · replace h := h_if hb1 h
    refine W_seq ?_
    refine W_reg tbok ⟨[], []⟩ [] [] [(4, .p false .bool false)] [] 0 0 [True] (by kernel_rfl) (by kernel_rfl) ⟨trivial, trivial⟩ ?_
    refine to_then ?_
    refine W_ret ?_
    refine thenQ_ret ?_
    obtain rfl := Option.some.inj h
    exact Ret_intro [.bool] (by kernel_rfl)
  · replace h := h_else hb1 h
    refine W_skip_to ?_
    refine to_then ?_
    refine W_seq ?_
    obtain ⟨c2, h⟩ := h_guard h
    refine W_reg tbok ⟨[], []⟩ [] [] [(0, .p false (.int .u8) d1), (5, .p false (.int .i64) (IntKind.i64.wrap (Int.tmod i1 (2 : Int))))] [] 0 0 [True, ¬ (2 : Int) = 0, True, True] (by kernel_rfl) (by kernel_rfl) ⟨trivial, c2, trivial, trivial, trivial⟩ ?_
    refine to_then ?_
    refine W_seq ?_
    refine W_reg tbok ⟨[], []⟩ [] [] [(0, .p false (.int .u8) d1), (5, .p false (.int .i64) (IntKind.i64.wrap (Int.tmod i1 (2 : Int)))), (6, .p false .str ([] : List UInt8)), (7, .p false (.int .i64) (0 : Int)), (8, .p false (.int .i64) (24 : Int))] [] 0 0 [True, True, True] (by kernel_rfl) (by kernel_rfl) ⟨trivial, trivial, trivial, trivial⟩ ?_
    refine to_then ?_
    refine W_seq ?_
    refine W_seq ?_
    obtain ⟨c4, h⟩ := h_guard h
    refine W_reg tbok ⟨[], []⟩ [] [] [(5, .p false (.int .i64) (IntKind.i64.wrap (Int.tmod i1 (2 : Int)))), (6, .p false .str ([] : List UInt8)), (7, .p false (.int .i64) (0 : Int)), (8, .p false (.int .i64) (24 : Int)), (19, .p false .bool ((Int.tmod d1 (2 : Int)) == (0 : Int)))] [] 0 0 [True, ¬ (2 : Int) = 0, True] (by kernel_rfl) (by kernel_rfl) ⟨trivial, c4, trivial, trivial⟩ ?_
    refine to_then ?_
    obtain ⟨r5, hp5, h⟩ := h_bind h
    refine W.mono (Q := (postN Try.f6.ntmps (fun ((v14, v15, v16) : (List UInt8) × Int × Int) => mkSt [(5, .p false (.int .i64) (IntKind.i64.wrap (Int.tmod i1 (2 : Int)))), (6, .p false .str v14), (7, .p false (.int .i64) v15), (8, .p false (.int .i64) v16)] [] 0)) r5) ?_ (fun e σ' hq => ?_)
    · replace h := hp5
      clear hp5
      refine W_cond (b := ((Int.tmod d1 (2 : Int)) == (0 : Int))) (β := false) (by kernel_rfl) (fun hb9 => ?_) (fun hb9 => ?_)
      · replace h := h_if hb9 h
        refine W_seq ?_
        refine W_reg tbok ⟨[], []⟩ [] [] [(5, .p false (.int .i64) (IntKind.i64.wrap (Int.tmod i1 (2 : Int)))), (6, .p false .str ([] : List UInt8)), (7, .p false (.int .i64) (0 : Int)), (8, .p false (.int .i64) (24 : Int)), (21, .p false (.int .i64) (IntKind.i64.wrap ((256 : Int) + (IntKind.i64.wrap (Int.tmod i1 (2 : Int)))))), (22, .p false (.int .i64) (0 : Int))] [] 0 0 [True, True, True] (by kernel_rfl) (by kernel_rfl) ⟨trivial, trivial, trivial, trivial⟩ ?_
        refine to_then ?_
        refine W_block ?_
        obtain ⟨r4, hp3, h⟩ := h_bind h
        refine W.mono (Q := (postX Try.f6.ntmps 0 (fun ((v23, v24) : (List UInt8) × Int) => mkSt [(5, .p false (.int .i64) (IntKind.i64.wrap (Int.tmod i1 (2 : Int)))), (6, .p false .str v23), (7, .p false (.int .i64) v24), (8, .p false (.int .i64) (24 : Int))] [] 0)) r4) (W_iter (f := fun ((v20, v21, v22) : (List UInt8) × Int × Int) => mkSt [(5, .p false (.int .i64) (IntKind.i64.wrap (Int.tmod i1 (2 : Int)))), (6, .p false .str v20), (7, .p false (.int .i64) v21), (8, .p false (.int .i64) (24 : Int)), (21, .p false (.int .i64) (IntKind.i64.wrap ((256 : Int) + (IntKind.i64.wrap (Int.tmod i1 (2 : Int)))))), (22, .p false (.int .i64) v22)] [] 0) (Q := (postX Try.f6.ntmps 0 (fun ((v23, v24) : (List UInt8) × Int) => mkSt [(5, .p false (.int .i64) (IntKind.i64.wrap (Int.tmod i1 (2 : Int)))), (6, .p false .str v23), (7, .p false (.int .i64) v24), (8, .p false (.int .i64) (24 : Int))] [] 0))) hp3 (goal_le (gs := []) (f := []) (by kernel_rfl) (by kernel_rfl)) (fun y o ho => ?_)) (fun e σ' hq => ?_)
        · obtain ⟨v20, v21, v22⟩ := y
          replace h := ho
          clear ho hp3
          unfold stanzalaw07_PatsLimits_L1 at h
          refine W_seq ?_
          refine W_reg tbok ⟨[], []⟩ [] [] [(5, .p false (.int .i64) (IntKind.i64.wrap (Int.tmod i1 (2 : Int)))), (6, .p false .str v20), (7, .p false (.int .i64) v21), (8, .p false (.int .i64) (24 : Int)), (21, .p false (.int .i64) (IntKind.i64.wrap ((256 : Int) + (IntKind.i64.wrap (Int.tmod i1 (2 : Int)))))), (22, .p false (.int .i64) v22), (23, .p false .bool (decide (v22 < (IntKind.i64.wrap ((256 : Int) + (IntKind.i64.wrap (Int.tmod i1 (2 : Int))))))))] [] 0 0 [True] (by kernel_rfl) (by kernel_rfl) ⟨trivial, trivial⟩ ?_
          refine to_then ?_
          refine W_seq ?_
          refine W_cond (b := (decide (v22 < (IntKind.i64.wrap ((256 : Int) + (IntKind.i64.wrap (Int.tmod i1 (2 : Int)))))))) (β := false) (by kernel_rfl) (fun hb12 => ?_) (fun hb12 => ?_)
          · replace h := h_if hb12 h
            refine W_skip_to ?_
            refine to_then ?_
            refine W_seq ?_
            refine W_block ?_
            refine W_seq ?_
            refine W_reg tbok ⟨[], []⟩ [] [] [(5, .p false (.int .i64) (IntKind.i64.wrap (Int.tmod i1 (2 : Int)))), (6, .p false .str v20), (8, .p false (.int .i64) (24 : Int)), (9, .p false (.int .i64) v22), (21, .p false (.int .i64) (IntKind.i64.wrap ((256 : Int) + (IntKind.i64.wrap (Int.tmod i1 (2 : Int)))))), (22, .p false (.int .i64) v22)] [] 0 0 [True, True] (by kernel_rfl) (by kernel_rfl) ⟨trivial, trivial, trivial⟩ ?_
            refine to_then ?_
            refine W_seq ?_
            refine W_reg tbok ⟨[], []⟩ [] [] [(5, .p false (.int .i64) (IntKind.i64.wrap (Int.tmod i1 (2 : Int)))), (6, .p false .str v20), (7, .p false (.int .i64) (v20.length : Int)), (8, .p false (.int .i64) (24 : Int)), (9, .p false (.int .i64) v22), (21, .p false (.int .i64) (IntKind.i64.wrap ((256 : Int) + (IntKind.i64.wrap (Int.tmod i1 (2 : Int)))))), (22, .p false (.int .i64) v22)] [] 0 0 [True, True, True] (by kernel_rfl) (by kernel_rfl) ⟨trivial, trivial, trivial, trivial⟩ ?_
            refine to_then ?_
            obtain ⟨c66, h⟩ := h_guard h
            obtain ⟨c67, h⟩ := h_guard h
            obtain ⟨c68, h⟩ := h_guard h
            obtain ⟨c69, h⟩ := h_guard h
            obtain ⟨c70, h⟩ := h_guard h
            refine W_reg tbok ⟨[], []⟩ [] [] [(5, .p false (.int .i64) (IntKind.i64.wrap (Int.tmod i1 (2 : Int)))), (6, .p false .str (v20 ++ ((([49] : List UInt8) ++ (bytesOf ([(IntKind.u8.wrap (IntKind.i64.wrap ((97 : Int) + (Int.tmod v22 (26 : Int))))), (IntKind.u8.wrap (IntKind.i64.wrap ((97 : Int) + (IntKind.i64.wrap (Int.tdiv v22 (26 : Int))))))] : List Int))) ++ ([32] : List UInt8)))), (7, .p false (.int .i64) (v20.length : Int)), (8, .p false (.int .i64) (24 : Int)), (21, .p false (.int .i64) (IntKind.i64.wrap ((256 : Int) + (IntKind.i64.wrap (Int.tmod i1 (2 : Int)))))), (22, .p false (.int .i64) v22)] [] 0 0 [True, True, ¬ (26 : Int) = 0, True, True, True, ¬ (26 : Int) = 0, True, True, True, True, ([49] : List UInt8).length + (bytesOf ([(IntKind.u8.wrap (IntKind.i64.wrap ((97 : Int) + (Int.tmod v22 (26 : Int))))), (IntKind.u8.wrap (IntKind.i64.wrap ((97 : Int) + (IntKind.i64.wrap (Int.tdiv v22 (26 : Int))))))] : List Int)).length ≤ 9223372036854775807, (([49] : List UInt8) ++ (bytesOf ([(IntKind.u8.wrap (IntKind.i64.wrap ((97 : Int) + (Int.tmod v22 (26 : Int))))), (IntKind.u8.wrap (IntKind.i64.wrap ((97 : Int) + (IntKind.i64.wrap (Int.tdiv v22 (26 : Int))))))] : List Int))).length + ([32] : List UInt8).length ≤ 9223372036854775807, v20.length + ((([49] : List UInt8) ++ (bytesOf ([(IntKind.u8.wrap (IntKind.i64.wrap ((97 : Int) + (Int.tmod v22 (26 : Int))))), (IntKind.u8.wrap (IntKind.i64.wrap ((97 : Int) + (IntKind.i64.wrap (Int.tdiv v22 (26 : Int))))))] : List Int))) ++ ([32] : List UInt8)).length ≤ 9223372036854775807, True] (by kernel_rfl) (by kernel_rfl) ⟨trivial, trivial, c66, trivial, trivial, trivial, c67, trivial, trivial, trivial, trivial, c68, c69, c70, trivial, trivial⟩ ?_
            refine to_block ?_
            refine to_then ?_
            refine W_reg tbok ⟨[], []⟩ [] [] [(5, .p false (.int .i64) (IntKind.i64.wrap (Int.tmod i1 (2 : Int)))), (6, .p false .str (v20 ++ ((([49] : List UInt8) ++ (bytesOf ([(IntKind.u8.wrap (IntKind.i64.wrap ((97 : Int) + (Int.tmod v22 (26 : Int))))), (IntKind.u8.wrap (IntKind.i64.wrap ((97 : Int) + (IntKind.i64.wrap (Int.tdiv v22 (26 : Int))))))] : List Int))) ++ ([32] : List UInt8)))), (7, .p false (.int .i64) (v20.length : Int)), (8, .p false (.int .i64) (24 : Int)), (21, .p false (.int .i64) (IntKind.i64.wrap ((256 : Int) + (IntKind.i64.wrap (Int.tmod i1 (2 : Int)))))), (22, .p false (.int .i64) (IntKind.i64.wrap (v22 + (1 : Int))))] [] 0 0 [True, True] (by kernel_rfl) (by kernel_rfl) ⟨trivial, trivial, trivial⟩ ?_
            obtain rfl := Option.some.inj h
            exact roundB (goal_le (gs := []) (f := []) (by kernel_rfl) (by kernel_rfl))
          · replace h := h_else hb12 h
            refine W_exit_to ?_
            refine thenE ?_
            obtain rfl := Option.some.inj h
            refine roundE ?_
            exact postX_to (goal_le (gs := []) (f := []) (by kernel_rfl) (by kernel_rfl))
        · clear hp3
          obtain ⟨v23, v24⟩ := r4
          obtain ⟨rfl, hle⟩ := hq
          refine use_to ?_ hle
          refine blockE_eq ?_
          obtain rfl := Option.some.inj h
          exact postN_to (goal_le (gs := []) (f := []) (by kernel_rfl) (by kernel_rfl))
      · replace h := h_else hb9 h
        refine W_seq ?_
        refine W_reg tbok ⟨[], []⟩ [] [] [(5, .p false (.int .i64) (IntKind.i64.wrap (Int.tmod i1 (2 : Int)))), (6, .p false .str ([97, 98, 32] : List UInt8)), (7, .p false (.int .i64) (3 : Int)), (8, .p false (.int .i64) (30 : Int))] [] 0 0 [True, True, True] (by kernel_rfl) (by kernel_rfl) ⟨trivial, trivial, trivial, trivial⟩ ?_
        refine to_then ?_
        refine W_seq ?_
        refine W_reg tbok ⟨[], []⟩ [] [] [(5, .p false (.int .i64) (IntKind.i64.wrap (Int.tmod i1 (2 : Int)))), (6, .p false .str ([97, 98, 32] : List UInt8)), (7, .p false (.int .i64) (3 : Int)), (8, .p false (.int .i64) (30 : Int)), (43, .p false (.int .i64) (IntKind.i64.wrap ((24 : Int) + (IntKind.i64.wrap (Int.tmod i1 (2 : Int)))))), (44, .p false (.int .i64) (0 : Int))] [] 0 0 [True, True, True] (by kernel_rfl) (by kernel_rfl) ⟨trivial, trivial, trivial, trivial⟩ ?_
        refine to_then ?_
        refine W_block ?_
        obtain ⟨v29, hp4, h⟩ := h_bind h
        refine W.mono (Q := (postX Try.f6.ntmps 2 (fun (v29 : List UInt8) => mkSt [(5, .p false (.int .i64) (IntKind.i64.wrap (Int.tmod i1 (2 : Int)))), (6, .p false .str v29), (7, .p false (.int .i64) (3 : Int)), (8, .p false (.int .i64) (30 : Int))] [] 0)) v29) (W_iter (f := fun ((v27, v28) : (List UInt8) × Int) => mkSt [(5, .p false (.int .i64) (IntKind.i64.wrap (Int.tmod i1 (2 : Int)))), (6, .p false .str v27), (7, .p false (.int .i64) (3 : Int)), (8, .p false (.int .i64) (30 : Int)), (43, .p false (.int .i64) (IntKind.i64.wrap ((24 : Int) + (IntKind.i64.wrap (Int.tmod i1 (2 : Int)))))), (44, .p false (.int .i64) v28)] [] 0) (Q := (postX Try.f6.ntmps 2 (fun (v29 : List UInt8) => mkSt [(5, .p false (.int .i64) (IntKind.i64.wrap (Int.tmod i1 (2 : Int)))), (6, .p false .str v29), (7, .p false (.int .i64) (3 : Int)), (8, .p false (.int .i64) (30 : Int))] [] 0))) hp4 (goal_le (gs := []) (f := []) (by kernel_rfl) (by kernel_rfl)) (fun y o ho => ?_)) (fun e σ' hq => ?_)
        · obtain ⟨v27, v28⟩ := y
          replace h := ho
          clear ho hp4
          unfold stanzalaw07_PatsLimits_L2 at h
          refine W_seq ?_
          refine W_reg tbok ⟨[], []⟩ [] [] [(5, .p false (.int .i64) (IntKind.i64.wrap (Int.tmod i1 (2 : Int)))), (6, .p false .str v27), (7, .p false (.int .i64) (3 : Int)), (8, .p false (.int .i64) (30 : Int)), (43, .p false (.int .i64) (IntKind.i64.wrap ((24 : Int) + (IntKind.i64.wrap (Int.tmod i1 (2 : Int)))))), (44, .p false (.int .i64) v28), (45, .p false .bool (decide (v28 < (IntKind.i64.wrap ((24 : Int) + (IntKind.i64.wrap (Int.tmod i1 (2 : Int))))))))] [] 0 0 [True] (by kernel_rfl) (by kernel_rfl) ⟨trivial, trivial⟩ ?_
          refine to_then ?_
          refine W_seq ?_
          refine W_cond (b := (decide (v28 < (IntKind.i64.wrap ((24 : Int) + (IntKind.i64.wrap (Int.tmod i1 (2 : Int)))))))) (β := false) (by kernel_rfl) (fun hb15 => ?_) (fun hb15 => ?_)
          · replace h := h_if hb15 h
            refine W_skip_to ?_
            refine to_then ?_
            refine W_seq ?_
            refine W_block ?_
            obtain ⟨c76, h⟩ := h_guard h
            refine W_reg tbok ⟨[], []⟩ [] [] [(5, .p false (.int .i64) (IntKind.i64.wrap (Int.tmod i1 (2 : Int)))), (6, .p false .str (v27 ++ ([120] : List UInt8))), (7, .p false (.int .i64) (3 : Int)), (8, .p false (.int .i64) (30 : Int)), (43, .p false (.int .i64) (IntKind.i64.wrap ((24 : Int) + (IntKind.i64.wrap (Int.tmod i1 (2 : Int)))))), (44, .p false (.int .i64) v28)] [] 0 0 [True, v27.length + ([120] : List UInt8).length ≤ 9223372036854775807, True] (by kernel_rfl) (by kernel_rfl) ⟨trivial, c76, trivial, trivial⟩ ?_
            refine to_block ?_
            refine to_then ?_
            refine W_reg tbok ⟨[], []⟩ [] [] [(5, .p false (.int .i64) (IntKind.i64.wrap (Int.tmod i1 (2 : Int)))), (6, .p false .str (v27 ++ ([120] : List UInt8))), (7, .p false (.int .i64) (3 : Int)), (8, .p false (.int .i64) (30 : Int)), (43, .p false (.int .i64) (IntKind.i64.wrap ((24 : Int) + (IntKind.i64.wrap (Int.tmod i1 (2 : Int)))))), (44, .p false (.int .i64) (IntKind.i64.wrap (v28 + (1 : Int))))] [] 0 0 [True, True] (by kernel_rfl) (by kernel_rfl) ⟨trivial, trivial, trivial⟩ ?_
            obtain rfl := Option.some.inj h
            exact roundB (goal_le (gs := []) (f := []) (by kernel_rfl) (by kernel_rfl))
          · replace h := h_else hb15 h
            refine W_exit_to ?_
            refine thenE ?_
            obtain rfl := Option.some.inj h
            refine roundE ?_
            exact postX_to (goal_le (gs := []) (f := []) (by kernel_rfl) (by kernel_rfl))
        · clear hp4
          obtain ⟨rfl, hle⟩ := hq
          refine use_to ?_ hle
          refine blockE_eq ?_
          obtain rfl := Option.some.inj h
          exact postN_to (goal_le (gs := []) (f := []) (by kernel_rfl) (by kernel_rfl))
    · clear hp5
      obtain ⟨v14, v15, v16⟩ := r5
      obtain ⟨rfl, hle⟩ := hq
      refine use_to ?_ hle
      refine to_then ?_
      refine W_seq ?_
      obtain ⟨⟨r8, r9⟩, q4, h⟩ := h_bind h
      refine W_reg tbok ⟨[], [(1, ⟨.tup [.agg [.p false (.slice (.prod (.slice (.int .i32)) (.slice (.int .u8)))) r8.1, .p false (.slice (.prod (.slice (.int .i32)) (.slice (.int .u8)))) r8.2], .agg [.p false (.int .i64) r9.1, .p false (.int .i64) r9.2]], [false], false, [true], [], []⟩)]⟩ [] [40, 48] [(5, .p false (.int .i64) (IntKind.i64.wrap (Int.tmod i1 (2 : Int)))), (6, .p false .str v14), (7, .p false (.int .i64) v15), (8, .p false (.int .i64) v16), (10, .adr 0 0 2 0), (11, .adr 1 0 2 0)] [(0, .box [.p false (.slice (.prod (.slice (.int .i32)) (.slice (.int .u8)))) r8.1, .p false (.slice (.prod (.slice (.int .i32)) (.slice (.int .u8)))) r8.2]), (1, .box [.p false (.int .i64) r9.1, .p false (.int .i64) r9.2])] 2 0 [True, Pure Try.prog 10 [.p false .str v14] (.tup [.agg [.p false (.slice (.prod (.slice (.int .i32)) (.slice (.int .u8)))) r8.1, .p false (.slice (.prod (.slice (.int .i32)) (.slice (.int .u8)))) r8.2], .agg [.p false (.int .i64) r9.1, .p false (.int .i64) r9.2]]), True, True, True, True, True, True, True] (by kernel_rfl) (by kernel_rfl) ⟨trivial, (pats_Parse_ok v14 _ q4), trivial, trivial, trivial, trivial, trivial, trivial, trivial, trivial⟩ ?_
      refine to_then ?_
      refine W_seq ?_
      refine W_seq ?_
      refine W_reg tbok ⟨[], []⟩ [] [0, 1] [(6, .p false .str v14), (7, .p false (.int .i64) v15), (8, .p false (.int .i64) v16), (10, .adr 0 0 2 0), (11, .adr 1 0 2 0), (55, .p false .bool ((IntKind.i64.wrap (Int.tmod i1 (2 : Int))) == (1 : Int)))] [(0, .box [.p false (.slice (.prod (.slice (.int .i32)) (.slice (.int .u8)))) r8.1, .p false (.slice (.prod (.slice (.int .i32)) (.slice (.int .u8)))) r8.2]), (1, .box [.p false (.int .i64) r9.1, .p false (.int .i64) r9.2])] 2 0 [True, True] (by kernel_rfl) (by kernel_rfl) ⟨trivial, trivial, trivial⟩ ?_
      refine to_then ?_
      refine W_cond (b := ((IntKind.i64.wrap (Int.tmod i1 (2 : Int))) == (1 : Int))) (β := false) (by kernel_rfl) (fun hb16 => ?_) (fun hb16 => ?_)
      · replace h := h_if hb16 h
        refine W_seq ?_
        obtain ⟨v30, hp6, h⟩ := h_bind h
        refine W.mono (Q := (postN Try.f6.ntmps (fun (v30 : Bool) => mkSt [(4, .p false .bool v30)] [] 0)) v30) ?_ (fun e σ' hq => ?_)
        · replace h := hp6
          clear hp6
          rcases Bool.eq_false_or_eq_true ((r9.1 == v16) && (r9.2 == v15)) with hb19 | hb19
          · replace h := h_if hb19 h
            refine W_reg tbok ⟨[(5, true), (10, true)], []⟩ [] [] [(4, .p false .bool ((r8.1.length : Int) == (0 : Int)))] [] 0 0 [True, True, True, True, EqOk Try.prog 31 (.prod (.int .i64) (.int .i64)), True, ((r9.1 == v16) && (r9.2 == v15)) = true ∧ True, ((r9.1 == v16) && (r9.2 == v15)) = true ∧ True, ((r9.1 == v16) && (r9.2 == v15)) = true ∧ True, ((r9.1 == v16) && (r9.2 == v15)) = true ∧ True, ((r9.1 == v16) && (r9.2 == v15)) = true, True] (by kernel_rfl) (by kernel_rfl) ⟨trivial, trivial, trivial, trivial, eq31, trivial, ⟨hb19, trivial⟩, ⟨hb19, trivial⟩, ⟨hb19, trivial⟩, ⟨hb19, trivial⟩, hb19, trivial, trivial⟩ ?_
            obtain rfl := Option.some.inj h
            exact postN_to (goal_le (gs := []) (f := []) (by kernel_rfl) (by kernel_rfl))
          · replace h := h_else hb19 h
            refine W_reg tbok ⟨[(5, false), (10, false)], []⟩ [] [] [(4, .p false .bool false)] [] 0 0 [True, True, True, True, EqOk Try.prog 31 (.prod (.int .i64) (.int .i64)), True, ((r9.1 == v16) && (r9.2 == v15)) = false, ((r9.1 == v16) && (r9.2 == v15)) = false, ((r9.1 == v16) && (r9.2 == v15)) = false, ((r9.1 == v16) && (r9.2 == v15)) = false, ((r9.1 == v16) && (r9.2 == v15)) = false, True] (by kernel_rfl) (by kernel_rfl) ⟨trivial, trivial, trivial, trivial, eq31, trivial, hb19, hb19, hb19, hb19, hb19, trivial, trivial⟩ ?_
            obtain rfl := Option.some.inj h
            exact postN_to (goal_le (gs := []) (f := []) (by kernel_rfl) (by kernel_rfl))
        · clear hp6
          obtain ⟨rfl, hle⟩ := hq
          refine use_to ?_ hle
          refine to_then ?_
          refine W_ret ?_
          refine thenQ_ret ?_
          obtain rfl := Option.some.inj h
          exact Ret_intro [.bool] (by kernel_rfl)
      · replace h := h_else hb16 h
        refine W_skip_to ?_
        refine to_then ?_
        refine W_seq ?_
        obtain ⟨v31, hp7, h⟩ := h_bind h
        refine W.mono (Q := (postN Try.f6.ntmps (fun (v31 : Bool) => mkSt [(4, .p false .bool v31)] [] 0)) v31) ?_ (fun e σ' hq => ?_)
        · replace h := hp7
          clear hp7
          rcases Bool.eq_false_or_eq_true (r9.1 == (0 : Int)) with hb22 | hb22
          · replace h := h_if hb22 h
            obtain ⟨r12, q7, h⟩ := h_bind h
            refine W_reg tbok ⟨[(3, true), (6, true)], [(5, ⟨.p false .bool r12, [false], false, [true], [], []⟩)]⟩ [] [] [(4, .p false .bool r12)] [] 0 0 [True, True, True, True, (r9.1 == (0 : Int)) = true ∧ True, (r9.1 == (0 : Int)) = true ∧ Pure Try.prog 9 [.p false .str v14] (.p false .bool r12), (r9.1 == (0 : Int)) = true, True] (by kernel_rfl) (by kernel_rfl) ⟨trivial, trivial, trivial, trivial, ⟨hb22, trivial⟩, ⟨hb22, (stanzalaw07_told_ok v14 _ q7)⟩, hb22, trivial, trivial⟩ ?_
            obtain rfl := Option.some.inj h
            exact postN_to (goal_le (gs := []) (f := []) (by kernel_rfl) (by kernel_rfl))
          · replace h := h_else hb22 h
            refine W_reg tbok ⟨[(3, false), (6, false)], []⟩ [] [] [(4, .p false .bool false)] [] 0 0 [True, True, True, True, (r9.1 == (0 : Int)) = false, (r9.1 == (0 : Int)) = false, (r9.1 == (0 : Int)) = false, True] (by kernel_rfl) (by kernel_rfl) ⟨trivial, trivial, trivial, trivial, hb22, hb22, hb22, trivial, trivial⟩ ?_
            obtain rfl := Option.some.inj h
            exact postN_to (goal_le (gs := []) (f := []) (by kernel_rfl) (by kernel_rfl))
        · clear hp7
          obtain ⟨rfl, hle⟩ := hq
          refine use_to ?_ hle
          refine to_then ?_
          refine W_ret ?_
          obtain rfl := Option.some.inj h
          exact Ret_intro [.bool] (by kernel_rfl)

end
end Go.Proofs.Ytcdmdcfpjeomfaa.T
