/- Functions of the program as functions on data, and that the program's own come to them. -/
import Derived.Test.YtjfjigknkhgkdaaTvT03x0
import Derived.Test.YtjfjigknkhgkdaaTvT03xa
import Derived.Test.YtjfjigknkhgkdaaTvT03xc
namespace Go.Proofs.Ytjfjigknkhgkdaa.T
open Go Go.Tv Go.Proofs
noncomputable section

/-- a loop of 'stanza/stanzalaw03.RulesLimits': one round -/
def stanzalaw03_RulesLimits_L1 (i1 : Int) : ((List UInt8) × Int × Int) → Option (((List UInt8) × Int × Int) ⊕ ((List UInt8) × Int)) := fun ((v44, v45, v46) : (List UInt8) × Int × Int) =>
  (if (decide (v46 < (IntKind.i64.wrap ((24 : Int) + (IntKind.i64.wrap (Int.tmod i1 (2 : Int))))))) = true then (if ([32, 99] : List UInt8).length + (bytesOf ([(IntKind.u8.wrap (IntKind.i64.wrap ((97 : Int) + v46)))] : List Int)).length ≤ 9223372036854775807 then (if v44.length + (([32, 99] : List UInt8) ++ (bytesOf ([(IntKind.u8.wrap (IntKind.i64.wrap ((97 : Int) + v46)))] : List Int))).length ≤ 9223372036854775807 then some (Sum.inl ((v44 ++ (([32, 99] : List UInt8) ++ (bytesOf ([(IntKind.u8.wrap (IntKind.i64.wrap ((97 : Int) + v46)))] : List Int)))), (IntKind.i64.wrap ((v44.length : Int) + (1 : Int))), (IntKind.i64.wrap (v46 + (1 : Int))))) else none) else none)
  else some (Sum.inr (v44, v45)))

/-- a loop of 'stanza/stanzalaw03.RulesLimits': one round -/
def stanzalaw03_RulesLimits_L2 (i1 : Int) : ((List UInt8) × Int × Int) → Option (((List UInt8) × Int × Int) ⊕ ((List UInt8) × Int)) := fun ((v52, v53, v54) : (List UInt8) × Int × Int) =>
  (if (decide (v54 < (IntKind.i64.wrap ((24 : Int) + (IntKind.i64.wrap (Int.tmod i1 (2 : Int))))))) = true then (if v52.length + ([107, 101, 101, 112, 32, 65, 32, 47, 32, 65, 59] : List UInt8).length ≤ 9223372036854775807 then some (Sum.inl ((v52 ++ ([107, 101, 101, 112, 32, 65, 32, 47, 32, 65, 59] : List UInt8)), (v52.length : Int), (IntKind.i64.wrap (v54 + (1 : Int))))) else none)
  else some (Sum.inr (v52, v53)))

/-- a loop of 'stanza/stanzalaw03.RulesLimits': one round -/
def stanzalaw03_RulesLimits_L3 (i1 : Int) : ((List UInt8) × Int × Int) → Option (((List UInt8) × Int × Int) ⊕ ((List UInt8) × Int)) := fun ((v60, v61, v62) : (List UInt8) × Int × Int) =>
  (if (decide (v62 < (IntKind.i64.wrap ((200 : Int) + (IntKind.i64.wrap (Int.tmod i1 (2 : Int))))))) = true then (if v60.length + ([65, 32] : List UInt8).length ≤ 9223372036854775807 then some (Sum.inl ((v60 ++ ([65, 32] : List UInt8)), (v60.length : Int), (IntKind.i64.wrap (v62 + (1 : Int))))) else none)
  else some (Sum.inr (v60, v61)))

/-- a loop of 'stanza/stanzalaw03.RulesLimits': one round -/
def stanzalaw03_RulesLimits_L4 (i1 : Int) : ((List UInt8) × Int × Int) → Option (((List UInt8) × Int × Int) ⊕ ((List UInt8) × Int)) := fun ((v68, v69, v70) : (List UInt8) × Int × Int) =>
  (if (decide (v70 < (IntKind.i64.wrap ((16 : Int) + (IntKind.i64.wrap (Int.tmod i1 (2 : Int))))))) = true then (if v68.length + ([40] : List UInt8).length ≤ 9223372036854775807 then some (Sum.inl ((v68 ++ ([40] : List UInt8)), (v68.length : Int), (IntKind.i64.wrap (v70 + (1 : Int))))) else none)
  else some (Sum.inr (v68, v69)))

/-- a loop of 'stanza/stanzalaw03.RulesLimits': one round -/
def stanzalaw03_RulesLimits_L5 (i1 : Int) : ((List UInt8) × Int) → Option (((List UInt8) × Int) ⊕ (List UInt8)) := fun ((v75, v76) : (List UInt8) × Int) =>
  (if (decide (v76 < (IntKind.i64.wrap ((16 : Int) + (IntKind.i64.wrap (Int.tmod i1 (2 : Int))))))) = true then (if v75.length + ([41] : List UInt8).length ≤ 9223372036854775807 then some (Sum.inl ((v75 ++ ([41] : List UInt8)), (IntKind.i64.wrap (v76 + (1 : Int))))) else none)
  else some (Sum.inr v75))

/-- 'stanza/stanzalaw03.RulesLimits' -/
def stanzalaw03_RulesLimits (d1 : Int) (i1 : Int) : Option (Bool) :=
  ((stanzalaw03_Awake).bind fun (r2 : Bool) =>
  (if (!r2) = true then some false
  else (if ¬ (2 : Int) = 0 then (if ¬ (4 : Int) = 0 then (((if ((Int.tmod d1 (4 : Int)) == (0 : Int)) = true then ((iter (stanzalaw03_RulesLimits_L1 i1) (([99, 108, 97, 115, 115] : List UInt8), (0 : Int), (0 : Int))).bind fun ((v47, v48) : (List UInt8) × Int) => (if v47.length + ([59] : List UInt8).length ≤ 9223372036854775807 then some (((v47 ++ ([59] : List UInt8)), (24 : Int), v48)) else none))
  else (if ((Int.tmod d1 (4 : Int)) == (1 : Int)) = true then (if ([99, 108, 97, 115, 115] : List UInt8).length + ([32, 65, 59] : List UInt8).length ≤ 9223372036854775807 then ((iter (stanzalaw03_RulesLimits_L2 i1) ((([99, 108, 97, 115, 115] : List UInt8) ++ ([32, 65, 59] : List UInt8)), (0 : Int), (0 : Int))).bind fun ((v55, v56) : (List UInt8) × Int) => some ((v55, (24 : Int), v56))) else none)
  else (if ((Int.tmod d1 (4 : Int)) == (2 : Int)) = true then (if ([99, 108, 97, 115, 115] : List UInt8).length + ([32, 65, 59, 32, 109, 97, 121, 32] : List UInt8).length ≤ 9223372036854775807 then ((iter (stanzalaw03_RulesLimits_L3 i1) ((([99, 108, 97, 115, 115] : List UInt8) ++ ([32, 65, 59, 32, 109, 97, 121, 32] : List UInt8)), (0 : Int), (0 : Int))).bind fun ((v63, v64) : (List UInt8) × Int) => (if v63.length + ([47, 59] : List UInt8).length ≤ 9223372036854775807 then some (((v63 ++ ([47, 59] : List UInt8)), (26 : Int), v64)) else none)) else none)
  else (if ([99, 108, 97, 115, 115] : List UInt8).length + ([32, 65, 59, 32, 109, 97, 121, 32] : List UInt8).length ≤ 9223372036854775807 then ((iter (stanzalaw03_RulesLimits_L4 i1) ((([99, 108, 97, 115, 115] : List UInt8) ++ ([32, 65, 59, 32, 109, 97, 121, 32] : List UInt8)), (0 : Int), (0 : Int))).bind fun ((v71, v72) : (List UInt8) × Int) => (if v71.length + ([65] : List UInt8).length ≤ 9223372036854775807 then ((iter (stanzalaw03_RulesLimits_L5 i1) ((v71 ++ ([65] : List UInt8)), (0 : Int))).bind fun (v77 : List UInt8) => (if v77.length + ([47, 59] : List UInt8).length ≤ 9223372036854775807 then some (((v77 ++ ([47, 59] : List UInt8)), (25 : Int), v72)) else none)) else none)) else none))))).bind fun ((v38, v39, v40) : (List UInt8) × Int × Int) => ((rules_Parse v38).bind fun ((r14, r15) : ((List (List UInt8)) × Int × Int × (List Int) × List (Int × Tree × Tree)) × Int × Int) =>
  (if ((IntKind.i64.wrap (Int.tmod i1 (2 : Int))) == (1 : Int)) = true then (((if ((r15.1 == v39) && (r15.2 == v40)) = true then some (((r14.1.length : Int) == (0 : Int)))
  else some (false))).bind fun (v78 : Bool) => some v78)
  else (((if (r15.1 == (0 : Int)) = true then ((stanzalaw03_told v38).bind fun (r18 : Bool) =>
  some (r18))
  else some (false))).bind fun (v79 : Bool) => some v79)))) else none) else none)))

set_option maxRecDepth 100000 in
set_option maxHeartbeats 4000000 in
theorem stanzalaw03_RulesLimits_ok (d1 : Int) (i1 : Int) (res : Bool) (h : stanzalaw03_RulesLimits d1 i1 = some res) :
    Pure Try.prog 8 [.u8 d1, .u8 i1] (wrapR (encs false [⟨.bool, res⟩])) := by
  refine Pure.of_body tbok Try.func8 (by kernel_rfl) rfl (Nat.le_of_ble_eq_true rfl) (fun Bw w0 => ?_) rfl
  unfold stanzalaw03_RulesLimits at h
  refine W_seq ?_
  refine W_reg tbok ⟨[], []⟩ [] [] [(0, .u8 d1), (1, .u8 i1)] [] 0 0 [True] (by kernel_rfl) (by kernel_rfl) ⟨trivial, trivial⟩ ?_
  refine to_then ?_
  refine W_seq ?_
  refine W_seq ?_
  obtain ⟨r2, q2, h⟩ := h_bind h
  refine W_reg tbok ⟨[], [(0, ⟨.bo r2, [], false, [], [], [], none⟩)]⟩ [] [] [(0, .u8 d1), (1, .u8 i1), (13, .bo (!r2))] [] 0 0 [Pure Try.prog 10 [] (.bo r2), True] (by kernel_rfl) (by kernel_rfl) ⟨(stanzalaw03_Awake_ok _ q2), trivial, trivial⟩ ?_
  refine to_then ?_
  refine W_cond (b := (!r2)) (β := false) (by kernel_rfl) (fun hb1 => ?_) (fun hb1 => ?_)
  · replace h := h_if hb1 h
    refine W_seq ?_
    refine W_reg tbok ⟨[], []⟩ [] [] [(4, .bo false)] [] 0 0 [True] (by kernel_rfl) (by kernel_rfl) ⟨trivial, trivial⟩ ?_
    refine to_then ?_
    refine W_ret ?_
    refine thenQ_ret ?_
    obtain rfl := Option.some.inj h
    exact Ret_intro [.bool] (by kernel_rfl)
  · replace h := h_else hb1 h
    refine W_skip_to ?_
    refine to_then ?_
    refine W_seq ?_
    obtain ⟨c2, h⟩ := h_guard h
    refine W_reg tbok ⟨[], []⟩ [] [] [(0, .u8 d1), (5, .i64 (IntKind.i64.wrap (Int.tmod i1 (2 : Int))))] [] 0 0 [True, ¬ (2 : Int) = 0, True, True] (by kernel_rfl) (by kernel_rfl) ⟨trivial, c2, trivial, trivial, trivial⟩ ?_
    refine to_then ?_
    refine W_seq ?_
    refine W_reg tbok ⟨[], []⟩ [] [] [(0, .u8 d1), (5, .i64 (IntKind.i64.wrap (Int.tmod i1 (2 : Int)))), (6, .st ([99, 108, 97, 115, 115] : List UInt8)), (7, .i64 (24 : Int))] [] 0 0 [True, True] (by kernel_rfl) (by kernel_rfl) ⟨trivial, trivial, trivial⟩ ?_
    refine to_then ?_
    refine W_seq ?_
    refine W_reg tbok ⟨[], []⟩ [] [] [(0, .u8 d1), (5, .i64 (IntKind.i64.wrap (Int.tmod i1 (2 : Int)))), (6, .st ([99, 108, 97, 115, 115] : List UInt8)), (7, .i64 (24 : Int)), (8, .i64 (0 : Int))] [] 0 0 [True] (by kernel_rfl) (by kernel_rfl) ⟨trivial, trivial⟩ ?_
    refine to_then ?_
    refine W_seq ?_
    refine W_seq ?_
    obtain ⟨c4, h⟩ := h_guard h
    refine W_reg tbok ⟨[], []⟩ [] [] [(5, .i64 (IntKind.i64.wrap (Int.tmod i1 (2 : Int)))), (6, .st ([99, 108, 97, 115, 115] : List UInt8)), (7, .i64 (24 : Int)), (8, .i64 (0 : Int)), (18, .u8 (Int.tmod d1 (4 : Int)))] [] 0 0 [True, ¬ (4 : Int) = 0] (by kernel_rfl) (by kernel_rfl) ⟨trivial, c4, trivial⟩ ?_
    refine to_then ?_
    refine W_block ?_
    refine W_seq ?_
    refine W_reg tbok ⟨[], []⟩ [] [] [(5, .i64 (IntKind.i64.wrap (Int.tmod i1 (2 : Int)))), (6, .st ([99, 108, 97, 115, 115] : List UInt8)), (7, .i64 (24 : Int)), (8, .i64 (0 : Int)), (18, .u8 (Int.tmod d1 (4 : Int))), (41, .bo ((Int.tmod d1 (4 : Int)) == (0 : Int)))] [] 0 0 [True, True] (by kernel_rfl) (by kernel_rfl) ⟨trivial, trivial, trivial⟩ ?_
    refine to_then ?_
    obtain ⟨r11, hp11, h⟩ := h_bind h
    refine W.mono (Q := (postN Try.f8.ntmps (fun ((v38, v39, v40) : (List UInt8) × Int × Int) => mkSt [(5, .i64 (IntKind.i64.wrap (Int.tmod i1 (2 : Int)))), (6, .st v38), (7, .i64 v39), (8, .i64 v40)] [] 0)) r11) ?_ (fun e σ' hq => ?_)
    · replace h := hp11
      clear hp11
      refine W_cond (b := ((Int.tmod d1 (4 : Int)) == (0 : Int))) (β := false) (by kernel_rfl) (fun hb20 => ?_) (fun hb20 => ?_)
      · replace h := h_if hb20 h
        refine W_seq ?_
        refine W_seq ?_
        refine W_reg tbok ⟨[], []⟩ [] [] [(5, .i64 (IntKind.i64.wrap (Int.tmod i1 (2 : Int)))), (6, .st ([99, 108, 97, 115, 115] : List UInt8)), (7, .i64 (24 : Int)), (8, .i64 (0 : Int)), (44, .i64 (IntKind.i64.wrap ((24 : Int) + (IntKind.i64.wrap (Int.tmod i1 (2 : Int)))))), (45, .i64 (0 : Int))] [] 0 0 [True, True, True] (by kernel_rfl) (by kernel_rfl) ⟨trivial, trivial, trivial, trivial⟩ ?_
        refine to_then ?_
        refine W_block ?_
        obtain ⟨r7, hp6, h⟩ := h_bind h
        refine W.mono (Q := (postX Try.f8.ntmps 5 (fun ((v47, v48) : (List UInt8) × Int) => mkSt [(5, .i64 (IntKind.i64.wrap (Int.tmod i1 (2 : Int)))), (6, .st v47), (7, .i64 (24 : Int)), (8, .i64 v48)] [] 0)) r7) (W_iter (f := fun ((v44, v45, v46) : (List UInt8) × Int × Int) => mkSt [(5, .i64 (IntKind.i64.wrap (Int.tmod i1 (2 : Int)))), (6, .st v44), (7, .i64 (24 : Int)), (8, .i64 v45), (44, .i64 (IntKind.i64.wrap ((24 : Int) + (IntKind.i64.wrap (Int.tmod i1 (2 : Int)))))), (45, .i64 v46)] [] 0) (Q := (postX Try.f8.ntmps 5 (fun ((v47, v48) : (List UInt8) × Int) => mkSt [(5, .i64 (IntKind.i64.wrap (Int.tmod i1 (2 : Int)))), (6, .st v47), (7, .i64 (24 : Int)), (8, .i64 v48)] [] 0))) hp6 (goal_le (gs := []) (f := []) (by kernel_rfl) (by kernel_rfl)) (fun y o ho => ?_)) (fun e σ' hq => ?_)
        · obtain ⟨v44, v45, v46⟩ := y
          replace h := ho
          clear ho hp6
          unfold stanzalaw03_RulesLimits_L1 at h
          refine W_seq ?_
          refine W_reg tbok ⟨[], []⟩ [] [] [(5, .i64 (IntKind.i64.wrap (Int.tmod i1 (2 : Int)))), (6, .st v44), (7, .i64 (24 : Int)), (8, .i64 v45), (44, .i64 (IntKind.i64.wrap ((24 : Int) + (IntKind.i64.wrap (Int.tmod i1 (2 : Int)))))), (45, .i64 v46), (46, .bo (decide (v46 < (IntKind.i64.wrap ((24 : Int) + (IntKind.i64.wrap (Int.tmod i1 (2 : Int))))))))] [] 0 0 [True] (by kernel_rfl) (by kernel_rfl) ⟨trivial, trivial⟩ ?_
          refine to_then ?_
          refine W_seq ?_
          refine W_cond (b := (decide (v46 < (IntKind.i64.wrap ((24 : Int) + (IntKind.i64.wrap (Int.tmod i1 (2 : Int)))))))) (β := false) (by kernel_rfl) (fun hb23 => ?_) (fun hb23 => ?_)
          · replace h := h_if hb23 h
            refine W_skip_to ?_
            refine to_then ?_
            refine W_seq ?_
            refine W_block ?_
            refine W_seq ?_
            refine W_reg tbok ⟨[], []⟩ [] [] [(5, .i64 (IntKind.i64.wrap (Int.tmod i1 (2 : Int)))), (6, .st v44), (7, .i64 (24 : Int)), (9, .i64 v46), (44, .i64 (IntKind.i64.wrap ((24 : Int) + (IntKind.i64.wrap (Int.tmod i1 (2 : Int)))))), (45, .i64 v46)] [] 0 0 [True, True] (by kernel_rfl) (by kernel_rfl) ⟨trivial, trivial, trivial⟩ ?_
            refine to_then ?_
            refine W_seq ?_
            refine W_reg tbok ⟨[], []⟩ [] [] [(5, .i64 (IntKind.i64.wrap (Int.tmod i1 (2 : Int)))), (6, .st v44), (7, .i64 (24 : Int)), (8, .i64 (IntKind.i64.wrap ((v44.length : Int) + (1 : Int)))), (9, .i64 v46), (44, .i64 (IntKind.i64.wrap ((24 : Int) + (IntKind.i64.wrap (Int.tmod i1 (2 : Int)))))), (45, .i64 v46)] [] 0 0 [True, True, True, True] (by kernel_rfl) (by kernel_rfl) ⟨trivial, trivial, trivial, trivial, trivial⟩ ?_
            refine to_then ?_
            obtain ⟨c65, h⟩ := h_guard h
            obtain ⟨c66, h⟩ := h_guard h
            refine W_reg tbok ⟨[], []⟩ [] [] [(5, .i64 (IntKind.i64.wrap (Int.tmod i1 (2 : Int)))), (6, .st (v44 ++ (([32, 99] : List UInt8) ++ (bytesOf ([(IntKind.u8.wrap (IntKind.i64.wrap ((97 : Int) + v46)))] : List Int))))), (7, .i64 (24 : Int)), (8, .i64 (IntKind.i64.wrap ((v44.length : Int) + (1 : Int)))), (44, .i64 (IntKind.i64.wrap ((24 : Int) + (IntKind.i64.wrap (Int.tmod i1 (2 : Int)))))), (45, .i64 v46)] [] 0 0 [True, True, True, True, True, True, ([32, 99] : List UInt8).length + (bytesOf ([(IntKind.u8.wrap (IntKind.i64.wrap ((97 : Int) + v46)))] : List Int)).length ≤ 9223372036854775807, v44.length + (([32, 99] : List UInt8) ++ (bytesOf ([(IntKind.u8.wrap (IntKind.i64.wrap ((97 : Int) + v46)))] : List Int))).length ≤ 9223372036854775807, True] (by kernel_rfl) (by kernel_rfl) ⟨trivial, trivial, trivial, trivial, trivial, trivial, c65, c66, trivial, trivial⟩ ?_
            refine to_block ?_
            refine to_then ?_
            refine W_reg tbok ⟨[], []⟩ [] [] [(5, .i64 (IntKind.i64.wrap (Int.tmod i1 (2 : Int)))), (6, .st (v44 ++ (([32, 99] : List UInt8) ++ (bytesOf ([(IntKind.u8.wrap (IntKind.i64.wrap ((97 : Int) + v46)))] : List Int))))), (7, .i64 (24 : Int)), (8, .i64 (IntKind.i64.wrap ((v44.length : Int) + (1 : Int)))), (44, .i64 (IntKind.i64.wrap ((24 : Int) + (IntKind.i64.wrap (Int.tmod i1 (2 : Int)))))), (45, .i64 (IntKind.i64.wrap (v46 + (1 : Int))))] [] 0 0 [True, True] (by kernel_rfl) (by kernel_rfl) ⟨trivial, trivial, trivial⟩ ?_
            obtain rfl := Option.some.inj h
            exact roundB (goal_le (gs := []) (f := []) (by kernel_rfl) (by kernel_rfl))
          · replace h := h_else hb23 h
            refine W_exit_to ?_
            refine thenE ?_
            obtain rfl := Option.some.inj h
            refine roundE ?_
            exact postX_to (goal_le (gs := []) (f := []) (by kernel_rfl) (by kernel_rfl))
        · clear hp6
          obtain ⟨v47, v48⟩ := r7
          obtain ⟨rfl, hle⟩ := hq
          refine use_to ?_ hle
          refine blockE_eq ?_
          refine to_then ?_
          obtain ⟨c68, h⟩ := h_guard h
          refine W_reg tbok ⟨[], []⟩ [] [] [(5, .i64 (IntKind.i64.wrap (Int.tmod i1 (2 : Int)))), (6, .st (v47 ++ ([59] : List UInt8))), (7, .i64 (24 : Int)), (8, .i64 v48)] [] 0 0 [True, v47.length + ([59] : List UInt8).length ≤ 9223372036854775807, True] (by kernel_rfl) (by kernel_rfl) ⟨trivial, c68, trivial, trivial⟩ ?_
          obtain rfl := Option.some.inj h
          exact postN_to (goal_le (gs := []) (f := []) (by kernel_rfl) (by kernel_rfl))
      · replace h := h_else hb20 h
        refine W_seq ?_
        refine W_reg tbok ⟨[], []⟩ [] [] [(5, .i64 (IntKind.i64.wrap (Int.tmod i1 (2 : Int)))), (6, .st ([99, 108, 97, 115, 115] : List UInt8)), (7, .i64 (24 : Int)), (8, .i64 (0 : Int)), (18, .u8 (Int.tmod d1 (4 : Int))), (62, .bo ((Int.tmod d1 (4 : Int)) == (1 : Int)))] [] 0 0 [True, True] (by kernel_rfl) (by kernel_rfl) ⟨trivial, trivial, trivial⟩ ?_
        refine to_then ?_
        refine W_cond (b := ((Int.tmod d1 (4 : Int)) == (1 : Int))) (β := false) (by kernel_rfl) (fun hb24 => ?_) (fun hb24 => ?_)
        · replace h := h_if hb24 h
          refine W_seq ?_
          obtain ⟨c70, h⟩ := h_guard h
          refine W_reg tbok ⟨[], []⟩ [] [] [(5, .i64 (IntKind.i64.wrap (Int.tmod i1 (2 : Int)))), (6, .st (([99, 108, 97, 115, 115] : List UInt8) ++ ([32, 65, 59] : List UInt8))), (7, .i64 (24 : Int)), (8, .i64 (0 : Int))] [] 0 0 [True, ([99, 108, 97, 115, 115] : List UInt8).length + ([32, 65, 59] : List UInt8).length ≤ 9223372036854775807, True] (by kernel_rfl) (by kernel_rfl) ⟨trivial, c70, trivial, trivial⟩ ?_
          refine to_then ?_
          refine W_seq ?_
          refine W_reg tbok ⟨[], []⟩ [] [] [(5, .i64 (IntKind.i64.wrap (Int.tmod i1 (2 : Int)))), (6, .st (([99, 108, 97, 115, 115] : List UInt8) ++ ([32, 65, 59] : List UInt8))), (7, .i64 (24 : Int)), (8, .i64 (0 : Int)), (67, .i64 (IntKind.i64.wrap ((24 : Int) + (IntKind.i64.wrap (Int.tmod i1 (2 : Int)))))), (68, .i64 (0 : Int))] [] 0 0 [True, True, True] (by kernel_rfl) (by kernel_rfl) ⟨trivial, trivial, trivial, trivial⟩ ?_
          refine to_then ?_
          refine W_block ?_
          obtain ⟨r8, hp7, h⟩ := h_bind h
          refine W.mono (Q := (postX Try.f8.ntmps 7 (fun ((v55, v56) : (List UInt8) × Int) => mkSt [(5, .i64 (IntKind.i64.wrap (Int.tmod i1 (2 : Int)))), (6, .st v55), (7, .i64 (24 : Int)), (8, .i64 v56)] [] 0)) r8) (W_iter (f := fun ((v52, v53, v54) : (List UInt8) × Int × Int) => mkSt [(5, .i64 (IntKind.i64.wrap (Int.tmod i1 (2 : Int)))), (6, .st v52), (7, .i64 (24 : Int)), (8, .i64 v53), (67, .i64 (IntKind.i64.wrap ((24 : Int) + (IntKind.i64.wrap (Int.tmod i1 (2 : Int)))))), (68, .i64 v54)] [] 0) (Q := (postX Try.f8.ntmps 7 (fun ((v55, v56) : (List UInt8) × Int) => mkSt [(5, .i64 (IntKind.i64.wrap (Int.tmod i1 (2 : Int)))), (6, .st v55), (7, .i64 (24 : Int)), (8, .i64 v56)] [] 0))) hp7 (goal_le (gs := []) (f := []) (by kernel_rfl) (by kernel_rfl)) (fun y o ho => ?_)) (fun e σ' hq => ?_)
          · obtain ⟨v52, v53, v54⟩ := y
            replace h := ho
            clear ho hp7
            unfold stanzalaw03_RulesLimits_L2 at h
            refine W_seq ?_
            refine W_reg tbok ⟨[], []⟩ [] [] [(5, .i64 (IntKind.i64.wrap (Int.tmod i1 (2 : Int)))), (6, .st v52), (7, .i64 (24 : Int)), (8, .i64 v53), (67, .i64 (IntKind.i64.wrap ((24 : Int) + (IntKind.i64.wrap (Int.tmod i1 (2 : Int)))))), (68, .i64 v54), (69, .bo (decide (v54 < (IntKind.i64.wrap ((24 : Int) + (IntKind.i64.wrap (Int.tmod i1 (2 : Int))))))))] [] 0 0 [True] (by kernel_rfl) (by kernel_rfl) ⟨trivial, trivial⟩ ?_
            refine to_then ?_
            refine W_seq ?_
            refine W_cond (b := (decide (v54 < (IntKind.i64.wrap ((24 : Int) + (IntKind.i64.wrap (Int.tmod i1 (2 : Int)))))))) (β := false) (by kernel_rfl) (fun hb27 => ?_) (fun hb27 => ?_)
            · replace h := h_if hb27 h
              refine W_skip_to ?_
              refine to_then ?_
              refine W_seq ?_
              refine W_block ?_
              refine W_seq ?_
              refine W_reg tbok ⟨[], []⟩ [] [] [(5, .i64 (IntKind.i64.wrap (Int.tmod i1 (2 : Int)))), (6, .st v52), (7, .i64 (24 : Int)), (8, .i64 (v52.length : Int)), (67, .i64 (IntKind.i64.wrap ((24 : Int) + (IntKind.i64.wrap (Int.tmod i1 (2 : Int)))))), (68, .i64 v54)] [] 0 0 [True, True, True] (by kernel_rfl) (by kernel_rfl) ⟨trivial, trivial, trivial, trivial⟩ ?_
              refine to_then ?_
              obtain ⟨c76, h⟩ := h_guard h
              refine W_reg tbok ⟨[], []⟩ [] [] [(5, .i64 (IntKind.i64.wrap (Int.tmod i1 (2 : Int)))), (6, .st (v52 ++ ([107, 101, 101, 112, 32, 65, 32, 47, 32, 65, 59] : List UInt8))), (7, .i64 (24 : Int)), (8, .i64 (v52.length : Int)), (67, .i64 (IntKind.i64.wrap ((24 : Int) + (IntKind.i64.wrap (Int.tmod i1 (2 : Int)))))), (68, .i64 v54)] [] 0 0 [True, v52.length + ([107, 101, 101, 112, 32, 65, 32, 47, 32, 65, 59] : List UInt8).length ≤ 9223372036854775807, True] (by kernel_rfl) (by kernel_rfl) ⟨trivial, c76, trivial, trivial⟩ ?_
              refine to_block ?_
              refine to_then ?_
              refine W_reg tbok ⟨[], []⟩ [] [] [(5, .i64 (IntKind.i64.wrap (Int.tmod i1 (2 : Int)))), (6, .st (v52 ++ ([107, 101, 101, 112, 32, 65, 32, 47, 32, 65, 59] : List UInt8))), (7, .i64 (24 : Int)), (8, .i64 (v52.length : Int)), (67, .i64 (IntKind.i64.wrap ((24 : Int) + (IntKind.i64.wrap (Int.tmod i1 (2 : Int)))))), (68, .i64 (IntKind.i64.wrap (v54 + (1 : Int))))] [] 0 0 [True, True] (by kernel_rfl) (by kernel_rfl) ⟨trivial, trivial, trivial⟩ ?_
              obtain rfl := Option.some.inj h
              exact roundB (goal_le (gs := []) (f := []) (by kernel_rfl) (by kernel_rfl))
            · replace h := h_else hb27 h
              refine W_exit_to ?_
              refine thenE ?_
              obtain rfl := Option.some.inj h
              refine roundE ?_
              exact postX_to (goal_le (gs := []) (f := []) (by kernel_rfl) (by kernel_rfl))
          · clear hp7
            obtain ⟨v55, v56⟩ := r8
            obtain ⟨rfl, hle⟩ := hq
            refine use_to ?_ hle
            refine blockE_eq ?_
            obtain rfl := Option.some.inj h
            exact postN_to (goal_le (gs := []) (f := []) (by kernel_rfl) (by kernel_rfl))
        · replace h := h_else hb24 h
          refine W_seq ?_
          refine W_reg tbok ⟨[], []⟩ [] [] [(5, .i64 (IntKind.i64.wrap (Int.tmod i1 (2 : Int)))), (6, .st ([99, 108, 97, 115, 115] : List UInt8)), (8, .i64 (0 : Int)), (75, .bo ((Int.tmod d1 (4 : Int)) == (2 : Int)))] [] 0 0 [True, True] (by kernel_rfl) (by kernel_rfl) ⟨trivial, trivial, trivial⟩ ?_
          refine to_then ?_
          refine W_cond (b := ((Int.tmod d1 (4 : Int)) == (2 : Int))) (β := false) (by kernel_rfl) (fun hb28 => ?_) (fun hb28 => ?_)
          · replace h := h_if hb28 h
            refine W_seq ?_
            refine W_reg tbok ⟨[], []⟩ [] [] [(5, .i64 (IntKind.i64.wrap (Int.tmod i1 (2 : Int)))), (6, .st ([99, 108, 97, 115, 115] : List UInt8)), (7, .i64 (26 : Int)), (8, .i64 (0 : Int))] [] 0 0 [True] (by kernel_rfl) (by kernel_rfl) ⟨trivial, trivial⟩ ?_
            refine to_then ?_
            refine W_seq ?_
            obtain ⟨c78, h⟩ := h_guard h
            refine W_reg tbok ⟨[], []⟩ [] [] [(5, .i64 (IntKind.i64.wrap (Int.tmod i1 (2 : Int)))), (6, .st (([99, 108, 97, 115, 115] : List UInt8) ++ ([32, 65, 59, 32, 109, 97, 121, 32] : List UInt8))), (7, .i64 (26 : Int)), (8, .i64 (0 : Int))] [] 0 0 [True, ([99, 108, 97, 115, 115] : List UInt8).length + ([32, 65, 59, 32, 109, 97, 121, 32] : List UInt8).length ≤ 9223372036854775807, True] (by kernel_rfl) (by kernel_rfl) ⟨trivial, c78, trivial, trivial⟩ ?_
            refine to_then ?_
            refine W_seq ?_
            refine W_seq ?_
            refine W_reg tbok ⟨[], []⟩ [] [] [(5, .i64 (IntKind.i64.wrap (Int.tmod i1 (2 : Int)))), (6, .st (([99, 108, 97, 115, 115] : List UInt8) ++ ([32, 65, 59, 32, 109, 97, 121, 32] : List UInt8))), (7, .i64 (26 : Int)), (8, .i64 (0 : Int)), (80, .i64 (IntKind.i64.wrap ((200 : Int) + (IntKind.i64.wrap (Int.tmod i1 (2 : Int)))))), (81, .i64 (0 : Int))] [] 0 0 [True, True, True] (by kernel_rfl) (by kernel_rfl) ⟨trivial, trivial, trivial, trivial⟩ ?_
            refine to_then ?_
            refine W_block ?_
            obtain ⟨r9, hp8, h⟩ := h_bind h
            refine W.mono (Q := (postX Try.f8.ntmps 9 (fun ((v63, v64) : (List UInt8) × Int) => mkSt [(5, .i64 (IntKind.i64.wrap (Int.tmod i1 (2 : Int)))), (6, .st v63), (7, .i64 (26 : Int)), (8, .i64 v64)] [] 0)) r9) (W_iter (f := fun ((v60, v61, v62) : (List UInt8) × Int × Int) => mkSt [(5, .i64 (IntKind.i64.wrap (Int.tmod i1 (2 : Int)))), (6, .st v60), (7, .i64 (26 : Int)), (8, .i64 v61), (80, .i64 (IntKind.i64.wrap ((200 : Int) + (IntKind.i64.wrap (Int.tmod i1 (2 : Int)))))), (81, .i64 v62)] [] 0) (Q := (postX Try.f8.ntmps 9 (fun ((v63, v64) : (List UInt8) × Int) => mkSt [(5, .i64 (IntKind.i64.wrap (Int.tmod i1 (2 : Int)))), (6, .st v63), (7, .i64 (26 : Int)), (8, .i64 v64)] [] 0))) hp8 (goal_le (gs := []) (f := []) (by kernel_rfl) (by kernel_rfl)) (fun y o ho => ?_)) (fun e σ' hq => ?_)
            · obtain ⟨v60, v61, v62⟩ := y
              replace h := ho
              clear ho hp8
              unfold stanzalaw03_RulesLimits_L3 at h
              refine W_seq ?_
              refine W_reg tbok ⟨[], []⟩ [] [] [(5, .i64 (IntKind.i64.wrap (Int.tmod i1 (2 : Int)))), (6, .st v60), (7, .i64 (26 : Int)), (8, .i64 v61), (80, .i64 (IntKind.i64.wrap ((200 : Int) + (IntKind.i64.wrap (Int.tmod i1 (2 : Int)))))), (81, .i64 v62), (82, .bo (decide (v62 < (IntKind.i64.wrap ((200 : Int) + (IntKind.i64.wrap (Int.tmod i1 (2 : Int))))))))] [] 0 0 [True] (by kernel_rfl) (by kernel_rfl) ⟨trivial, trivial⟩ ?_
              refine to_then ?_
              refine W_seq ?_
              refine W_cond (b := (decide (v62 < (IntKind.i64.wrap ((200 : Int) + (IntKind.i64.wrap (Int.tmod i1 (2 : Int)))))))) (β := false) (by kernel_rfl) (fun hb31 => ?_) (fun hb31 => ?_)
              · replace h := h_if hb31 h
                refine W_skip_to ?_
                refine to_then ?_
                refine W_seq ?_
                refine W_block ?_
                refine W_seq ?_
                refine W_reg tbok ⟨[], []⟩ [] [] [(5, .i64 (IntKind.i64.wrap (Int.tmod i1 (2 : Int)))), (6, .st v60), (7, .i64 (26 : Int)), (8, .i64 (v60.length : Int)), (80, .i64 (IntKind.i64.wrap ((200 : Int) + (IntKind.i64.wrap (Int.tmod i1 (2 : Int)))))), (81, .i64 v62)] [] 0 0 [True, True, True] (by kernel_rfl) (by kernel_rfl) ⟨trivial, trivial, trivial, trivial⟩ ?_
                refine to_then ?_
                obtain ⟨c84, h⟩ := h_guard h
                refine W_reg tbok ⟨[], []⟩ [] [] [(5, .i64 (IntKind.i64.wrap (Int.tmod i1 (2 : Int)))), (6, .st (v60 ++ ([65, 32] : List UInt8))), (7, .i64 (26 : Int)), (8, .i64 (v60.length : Int)), (80, .i64 (IntKind.i64.wrap ((200 : Int) + (IntKind.i64.wrap (Int.tmod i1 (2 : Int)))))), (81, .i64 v62)] [] 0 0 [True, v60.length + ([65, 32] : List UInt8).length ≤ 9223372036854775807, True] (by kernel_rfl) (by kernel_rfl) ⟨trivial, c84, trivial, trivial⟩ ?_
                refine to_block ?_
                refine to_then ?_
                refine W_reg tbok ⟨[], []⟩ [] [] [(5, .i64 (IntKind.i64.wrap (Int.tmod i1 (2 : Int)))), (6, .st (v60 ++ ([65, 32] : List UInt8))), (7, .i64 (26 : Int)), (8, .i64 (v60.length : Int)), (80, .i64 (IntKind.i64.wrap ((200 : Int) + (IntKind.i64.wrap (Int.tmod i1 (2 : Int)))))), (81, .i64 (IntKind.i64.wrap (v62 + (1 : Int))))] [] 0 0 [True, True] (by kernel_rfl) (by kernel_rfl) ⟨trivial, trivial, trivial⟩ ?_
                obtain rfl := Option.some.inj h
                exact roundB (goal_le (gs := []) (f := []) (by kernel_rfl) (by kernel_rfl))
              · replace h := h_else hb31 h
                refine W_exit_to ?_
                refine thenE ?_
                obtain rfl := Option.some.inj h
                refine roundE ?_
                exact postX_to (goal_le (gs := []) (f := []) (by kernel_rfl) (by kernel_rfl))
            · clear hp8
              obtain ⟨v63, v64⟩ := r9
              obtain ⟨rfl, hle⟩ := hq
              refine use_to ?_ hle
              refine blockE_eq ?_
              refine to_then ?_
              obtain ⟨c86, h⟩ := h_guard h
              refine W_reg tbok ⟨[], []⟩ [] [] [(5, .i64 (IntKind.i64.wrap (Int.tmod i1 (2 : Int)))), (6, .st (v63 ++ ([47, 59] : List UInt8))), (7, .i64 (26 : Int)), (8, .i64 v64)] [] 0 0 [True, v63.length + ([47, 59] : List UInt8).length ≤ 9223372036854775807, True] (by kernel_rfl) (by kernel_rfl) ⟨trivial, c86, trivial, trivial⟩ ?_
              obtain rfl := Option.some.inj h
              exact postN_to (goal_le (gs := []) (f := []) (by kernel_rfl) (by kernel_rfl))
          · replace h := h_else hb28 h
            refine W_seq ?_
            refine W_reg tbok ⟨[], []⟩ [] [] [(5, .i64 (IntKind.i64.wrap (Int.tmod i1 (2 : Int)))), (6, .st ([99, 108, 97, 115, 115] : List UInt8)), (7, .i64 (25 : Int)), (8, .i64 (0 : Int))] [] 0 0 [True] (by kernel_rfl) (by kernel_rfl) ⟨trivial, trivial⟩ ?_
            refine to_then ?_
            refine W_seq ?_
            obtain ⟨c88, h⟩ := h_guard h
            refine W_reg tbok ⟨[], []⟩ [] [] [(5, .i64 (IntKind.i64.wrap (Int.tmod i1 (2 : Int)))), (6, .st (([99, 108, 97, 115, 115] : List UInt8) ++ ([32, 65, 59, 32, 109, 97, 121, 32] : List UInt8))), (7, .i64 (25 : Int)), (8, .i64 (0 : Int))] [] 0 0 [True, ([99, 108, 97, 115, 115] : List UInt8).length + ([32, 65, 59, 32, 109, 97, 121, 32] : List UInt8).length ≤ 9223372036854775807, True] (by kernel_rfl) (by kernel_rfl) ⟨trivial, c88, trivial, trivial⟩ ?_
            refine to_then ?_
            refine W_seq ?_
            refine W_seq ?_
            refine W_reg tbok ⟨[], []⟩ [] [] [(5, .i64 (IntKind.i64.wrap (Int.tmod i1 (2 : Int)))), (6, .st (([99, 108, 97, 115, 115] : List UInt8) ++ ([32, 65, 59, 32, 109, 97, 121, 32] : List UInt8))), (7, .i64 (25 : Int)), (8, .i64 (0 : Int)), (22, .i64 (IntKind.i64.wrap ((16 : Int) + (IntKind.i64.wrap (Int.tmod i1 (2 : Int)))))), (23, .i64 (0 : Int))] [] 0 0 [True, True, True] (by kernel_rfl) (by kernel_rfl) ⟨trivial, trivial, trivial, trivial⟩ ?_
            refine to_then ?_
            refine W_block ?_
            obtain ⟨r10, hp9, h⟩ := h_bind h
            refine W.mono (Q := (postX Try.f8.ntmps 1 (fun ((v71, v72) : (List UInt8) × Int) => mkSt [(5, .i64 (IntKind.i64.wrap (Int.tmod i1 (2 : Int)))), (6, .st v71), (7, .i64 (25 : Int)), (8, .i64 v72)] [] 0)) r10) (W_iter (f := fun ((v68, v69, v70) : (List UInt8) × Int × Int) => mkSt [(5, .i64 (IntKind.i64.wrap (Int.tmod i1 (2 : Int)))), (6, .st v68), (7, .i64 (25 : Int)), (8, .i64 v69), (22, .i64 (IntKind.i64.wrap ((16 : Int) + (IntKind.i64.wrap (Int.tmod i1 (2 : Int)))))), (23, .i64 v70)] [] 0) (Q := (postX Try.f8.ntmps 1 (fun ((v71, v72) : (List UInt8) × Int) => mkSt [(5, .i64 (IntKind.i64.wrap (Int.tmod i1 (2 : Int)))), (6, .st v71), (7, .i64 (25 : Int)), (8, .i64 v72)] [] 0))) hp9 (goal_le (gs := []) (f := []) (by kernel_rfl) (by kernel_rfl)) (fun y o ho => ?_)) (fun e σ' hq => ?_)
            · obtain ⟨v68, v69, v70⟩ := y
              replace h := ho
              clear ho hp9
              unfold stanzalaw03_RulesLimits_L4 at h
              refine W_seq ?_
              refine W_reg tbok ⟨[], []⟩ [] [] [(5, .i64 (IntKind.i64.wrap (Int.tmod i1 (2 : Int)))), (6, .st v68), (7, .i64 (25 : Int)), (8, .i64 v69), (22, .i64 (IntKind.i64.wrap ((16 : Int) + (IntKind.i64.wrap (Int.tmod i1 (2 : Int)))))), (23, .i64 v70), (24, .bo (decide (v70 < (IntKind.i64.wrap ((16 : Int) + (IntKind.i64.wrap (Int.tmod i1 (2 : Int))))))))] [] 0 0 [True] (by kernel_rfl) (by kernel_rfl) ⟨trivial, trivial⟩ ?_
              refine to_then ?_
              refine W_seq ?_
              refine W_cond (b := (decide (v70 < (IntKind.i64.wrap ((16 : Int) + (IntKind.i64.wrap (Int.tmod i1 (2 : Int)))))))) (β := false) (by kernel_rfl) (fun hb34 => ?_) (fun hb34 => ?_)
              · replace h := h_if hb34 h
                refine W_skip_to ?_
                refine to_then ?_
                refine W_seq ?_
                refine W_block ?_
                refine W_seq ?_
                refine W_reg tbok ⟨[], []⟩ [] [] [(5, .i64 (IntKind.i64.wrap (Int.tmod i1 (2 : Int)))), (6, .st v68), (7, .i64 (25 : Int)), (8, .i64 (v68.length : Int)), (22, .i64 (IntKind.i64.wrap ((16 : Int) + (IntKind.i64.wrap (Int.tmod i1 (2 : Int)))))), (23, .i64 v70)] [] 0 0 [True, True, True] (by kernel_rfl) (by kernel_rfl) ⟨trivial, trivial, trivial, trivial⟩ ?_
                refine to_then ?_
                obtain ⟨c94, h⟩ := h_guard h
                refine W_reg tbok ⟨[], []⟩ [] [] [(5, .i64 (IntKind.i64.wrap (Int.tmod i1 (2 : Int)))), (6, .st (v68 ++ ([40] : List UInt8))), (7, .i64 (25 : Int)), (8, .i64 (v68.length : Int)), (22, .i64 (IntKind.i64.wrap ((16 : Int) + (IntKind.i64.wrap (Int.tmod i1 (2 : Int)))))), (23, .i64 v70)] [] 0 0 [True, v68.length + ([40] : List UInt8).length ≤ 9223372036854775807, True] (by kernel_rfl) (by kernel_rfl) ⟨trivial, c94, trivial, trivial⟩ ?_
                refine to_block ?_
                refine to_then ?_
                refine W_reg tbok ⟨[], []⟩ [] [] [(5, .i64 (IntKind.i64.wrap (Int.tmod i1 (2 : Int)))), (6, .st (v68 ++ ([40] : List UInt8))), (7, .i64 (25 : Int)), (8, .i64 (v68.length : Int)), (22, .i64 (IntKind.i64.wrap ((16 : Int) + (IntKind.i64.wrap (Int.tmod i1 (2 : Int)))))), (23, .i64 (IntKind.i64.wrap (v70 + (1 : Int))))] [] 0 0 [True, True] (by kernel_rfl) (by kernel_rfl) ⟨trivial, trivial, trivial⟩ ?_
                obtain rfl := Option.some.inj h
                exact roundB (goal_le (gs := []) (f := []) (by kernel_rfl) (by kernel_rfl))
              · replace h := h_else hb34 h
                refine W_exit_to ?_
                refine thenE ?_
                obtain rfl := Option.some.inj h
                refine roundE ?_
                exact postX_to (goal_le (gs := []) (f := []) (by kernel_rfl) (by kernel_rfl))
            · clear hp9
              obtain ⟨v71, v72⟩ := r10
              obtain ⟨rfl, hle⟩ := hq
              refine use_to ?_ hle
              refine blockE_eq ?_
              refine to_then ?_
              refine W_seq ?_
              obtain ⟨c96, h⟩ := h_guard h
              refine W_reg tbok ⟨[], []⟩ [] [] [(5, .i64 (IntKind.i64.wrap (Int.tmod i1 (2 : Int)))), (6, .st (v71 ++ ([65] : List UInt8))), (7, .i64 (25 : Int)), (8, .i64 v72)] [] 0 0 [True, v71.length + ([65] : List UInt8).length ≤ 9223372036854775807, True] (by kernel_rfl) (by kernel_rfl) ⟨trivial, c96, trivial, trivial⟩ ?_
              refine to_then ?_
              refine W_seq ?_
              refine W_seq ?_
              refine W_reg tbok ⟨[], []⟩ [] [] [(5, .i64 (IntKind.i64.wrap (Int.tmod i1 (2 : Int)))), (6, .st (v71 ++ ([65] : List UInt8))), (7, .i64 (25 : Int)), (8, .i64 v72), (33, .i64 (IntKind.i64.wrap ((16 : Int) + (IntKind.i64.wrap (Int.tmod i1 (2 : Int)))))), (34, .i64 (0 : Int))] [] 0 0 [True, True, True] (by kernel_rfl) (by kernel_rfl) ⟨trivial, trivial, trivial, trivial⟩ ?_
              refine to_then ?_
              refine W_block ?_
              obtain ⟨v77, hp10, h⟩ := h_bind h
              refine W.mono (Q := (postX Try.f8.ntmps 3 (fun (v77 : List UInt8) => mkSt [(5, .i64 (IntKind.i64.wrap (Int.tmod i1 (2 : Int)))), (6, .st v77), (7, .i64 (25 : Int)), (8, .i64 v72)] [] 0)) v77) (W_iter (f := fun ((v75, v76) : (List UInt8) × Int) => mkSt [(5, .i64 (IntKind.i64.wrap (Int.tmod i1 (2 : Int)))), (6, .st v75), (7, .i64 (25 : Int)), (8, .i64 v72), (33, .i64 (IntKind.i64.wrap ((16 : Int) + (IntKind.i64.wrap (Int.tmod i1 (2 : Int)))))), (34, .i64 v76)] [] 0) (Q := (postX Try.f8.ntmps 3 (fun (v77 : List UInt8) => mkSt [(5, .i64 (IntKind.i64.wrap (Int.tmod i1 (2 : Int)))), (6, .st v77), (7, .i64 (25 : Int)), (8, .i64 v72)] [] 0))) hp10 (goal_le (gs := []) (f := []) (by kernel_rfl) (by kernel_rfl)) (fun y o ho => ?_)) (fun e σ' hq => ?_)
              · obtain ⟨v75, v76⟩ := y
                replace h := ho
                clear ho hp10
                unfold stanzalaw03_RulesLimits_L5 at h
                refine W_seq ?_
                refine W_reg tbok ⟨[], []⟩ [] [] [(5, .i64 (IntKind.i64.wrap (Int.tmod i1 (2 : Int)))), (6, .st v75), (7, .i64 (25 : Int)), (8, .i64 v72), (33, .i64 (IntKind.i64.wrap ((16 : Int) + (IntKind.i64.wrap (Int.tmod i1 (2 : Int)))))), (34, .i64 v76), (35, .bo (decide (v76 < (IntKind.i64.wrap ((16 : Int) + (IntKind.i64.wrap (Int.tmod i1 (2 : Int))))))))] [] 0 0 [True] (by kernel_rfl) (by kernel_rfl) ⟨trivial, trivial⟩ ?_
                refine to_then ?_
                refine W_seq ?_
                refine W_cond (b := (decide (v76 < (IntKind.i64.wrap ((16 : Int) + (IntKind.i64.wrap (Int.tmod i1 (2 : Int)))))))) (β := false) (by kernel_rfl) (fun hb37 => ?_) (fun hb37 => ?_)
                · replace h := h_if hb37 h
                  refine W_skip_to ?_
                  refine to_then ?_
                  refine W_seq ?_
                  refine W_block ?_
                  obtain ⟨c102, h⟩ := h_guard h
                  refine W_reg tbok ⟨[], []⟩ [] [] [(5, .i64 (IntKind.i64.wrap (Int.tmod i1 (2 : Int)))), (6, .st (v75 ++ ([41] : List UInt8))), (7, .i64 (25 : Int)), (8, .i64 v72), (33, .i64 (IntKind.i64.wrap ((16 : Int) + (IntKind.i64.wrap (Int.tmod i1 (2 : Int)))))), (34, .i64 v76)] [] 0 0 [True, v75.length + ([41] : List UInt8).length ≤ 9223372036854775807, True] (by kernel_rfl) (by kernel_rfl) ⟨trivial, c102, trivial, trivial⟩ ?_
                  refine to_block ?_
                  refine to_then ?_
                  refine W_reg tbok ⟨[], []⟩ [] [] [(5, .i64 (IntKind.i64.wrap (Int.tmod i1 (2 : Int)))), (6, .st (v75 ++ ([41] : List UInt8))), (7, .i64 (25 : Int)), (8, .i64 v72), (33, .i64 (IntKind.i64.wrap ((16 : Int) + (IntKind.i64.wrap (Int.tmod i1 (2 : Int)))))), (34, .i64 (IntKind.i64.wrap (v76 + (1 : Int))))] [] 0 0 [True, True] (by kernel_rfl) (by kernel_rfl) ⟨trivial, trivial, trivial⟩ ?_
                  obtain rfl := Option.some.inj h
                  exact roundB (goal_le (gs := []) (f := []) (by kernel_rfl) (by kernel_rfl))
                · replace h := h_else hb37 h
                  refine W_exit_to ?_
                  refine thenE ?_
                  obtain rfl := Option.some.inj h
                  refine roundE ?_
                  exact postX_to (goal_le (gs := []) (f := []) (by kernel_rfl) (by kernel_rfl))
              · clear hp10
                obtain ⟨rfl, hle⟩ := hq
                refine use_to ?_ hle
                refine blockE_eq ?_
                refine to_then ?_
                obtain ⟨c104, h⟩ := h_guard h
                refine W_reg tbok ⟨[], []⟩ [] [] [(5, .i64 (IntKind.i64.wrap (Int.tmod i1 (2 : Int)))), (6, .st (v77 ++ ([47, 59] : List UInt8))), (7, .i64 (25 : Int)), (8, .i64 v72)] [] 0 0 [True, v77.length + ([47, 59] : List UInt8).length ≤ 9223372036854775807, True] (by kernel_rfl) (by kernel_rfl) ⟨trivial, c104, trivial, trivial⟩ ?_
                obtain rfl := Option.some.inj h
                exact postN_to (goal_le (gs := []) (f := []) (by kernel_rfl) (by kernel_rfl))
    · clear hp11
      obtain ⟨v38, v39, v40⟩ := r11
      obtain ⟨rfl, hle⟩ := hq
      refine use_to ?_ hle
      refine to_block ?_
      refine to_then ?_
      refine W_seq ?_
      obtain ⟨⟨r14, r15⟩, q4, h⟩ := h_bind h
      refine W_reg tbok ⟨[], [(1, ⟨.tup [.agg [.p false (.slice .str) r14.1, .u32 r14.2.1, .u32 r14.2.2.1, .p false (.slice (.int .i64)) r14.2.2.2.1, .p false (.slice (.prod (.int .u8) Y1)) r14.2.2.2.2], .agg [.i64 r15.1, .i64 r15.2]], [false], false, [true], [], [], none⟩)]⟩ [] [40, 48] [(5, .i64 (IntKind.i64.wrap (Int.tmod i1 (2 : Int)))), (6, .st v38), (7, .i64 v39), (8, .i64 v40), (10, .adr 0 0 5 0), (11, .adr 1 0 2 0)] (ob39 r14.1 r14.2.1 r14.2.2.1 r14.2.2.2.1 r14.2.2.2.2 r15.1 r15.2) 2 0 [True, Pure Try.prog 13 [.st v38] (.tup [.agg [.p false (.slice .str) r14.1, .u32 r14.2.1, .u32 r14.2.2.1, .p false (.slice (.int .i64)) r14.2.2.2.1, .p false (.slice (.prod (.int .u8) Y1)) r14.2.2.2.2], .agg [.i64 r15.1, .i64 r15.2]]), True, True, True, True, True, True, True] (by kernel_rfl) (by kernel_rfl) ⟨trivial, (rules_Parse_ok v38 _ q4), trivial, trivial, trivial, trivial, trivial, trivial, trivial, trivial⟩ ?_
      refine to_then ?_
      refine W_seq ?_
      refine W_seq ?_
      refine W_reg tbok ⟨[], []⟩ [] [0, 1] [(6, .st v38), (7, .i64 v39), (8, .i64 v40), (10, .adr 0 0 5 0), (11, .adr 1 0 2 0), (96, .bo ((IntKind.i64.wrap (Int.tmod i1 (2 : Int))) == (1 : Int)))] (ob39 r14.1 r14.2.1 r14.2.2.1 r14.2.2.2.1 r14.2.2.2.2 r15.1 r15.2) 2 0 [True, True] (by kernel_rfl) (by kernel_rfl) ⟨trivial, trivial, trivial⟩ ?_
      refine to_then ?_
      refine W_cond (b := ((IntKind.i64.wrap (Int.tmod i1 (2 : Int))) == (1 : Int))) (β := false) (by kernel_rfl) (fun hb38 => ?_) (fun hb38 => ?_)
      · replace h := h_if hb38 h
        refine W_seq ?_
        obtain ⟨v78, hp12, h⟩ := h_bind h
        refine W.mono (Q := (postN Try.f8.ntmps (fun (v78 : Bool) => mkSt [(4, .bo v78)] [] 0)) v78) ?_ (fun e σ' hq => ?_)
        · replace h := hp12
          clear hp12
          rcases Bool.eq_false_or_eq_true ((r15.1 == v39) && (r15.2 == v40)) with hb41 | hb41
          · replace h := h_if hb41 h
            refine W_reg tbok ⟨[(5, true), (10, true)], []⟩ [] [] [(4, .bo ((r14.1.length : Int) == (0 : Int)))] [] 0 0 [True, True, True, True, EqOk Try.prog 40 Y5, True, ((r15.1 == v39) && (r15.2 == v40)) = true ∧ True, ((r15.1 == v39) && (r15.2 == v40)) = true ∧ True, ((r15.1 == v39) && (r15.2 == v40)) = true ∧ True, ((r15.1 == v39) && (r15.2 == v40)) = true ∧ True, ((r15.1 == v39) && (r15.2 == v40)) = true, True] (by kernel_rfl) (by kernel_rfl) ⟨trivial, trivial, trivial, trivial, eq40, trivial, ⟨hb41, trivial⟩, ⟨hb41, trivial⟩, ⟨hb41, trivial⟩, ⟨hb41, trivial⟩, hb41, trivial, trivial⟩ ?_
            obtain rfl := Option.some.inj h
            exact postN_to (goal_le (gs := []) (f := []) (by kernel_rfl) (by kernel_rfl))
          · replace h := h_else hb41 h
            refine W_reg tbok ⟨[(5, false), (10, false)], []⟩ [] [] [(4, .bo false)] [] 0 0 [True, True, True, True, EqOk Try.prog 40 Y5, True, ((r15.1 == v39) && (r15.2 == v40)) = false, ((r15.1 == v39) && (r15.2 == v40)) = false, ((r15.1 == v39) && (r15.2 == v40)) = false, ((r15.1 == v39) && (r15.2 == v40)) = false, ((r15.1 == v39) && (r15.2 == v40)) = false, True] (by kernel_rfl) (by kernel_rfl) ⟨trivial, trivial, trivial, trivial, eq40, trivial, hb41, hb41, hb41, hb41, hb41, trivial, trivial⟩ ?_
            obtain rfl := Option.some.inj h
            exact postN_to (goal_le (gs := []) (f := []) (by kernel_rfl) (by kernel_rfl))
        · clear hp12
          obtain ⟨rfl, hle⟩ := hq
          refine use_to ?_ hle
          refine to_then ?_
          refine W_ret ?_
          refine thenQ_ret ?_
          obtain rfl := Option.some.inj h
          exact Ret_intro [.bool] (by kernel_rfl)
      · replace h := h_else hb38 h
        refine W_skip_to ?_
        refine to_then ?_
        refine W_seq ?_
        obtain ⟨v79, hp13, h⟩ := h_bind h
        refine W.mono (Q := (postN Try.f8.ntmps (fun (v79 : Bool) => mkSt [(4, .bo v79)] [] 0)) v79) ?_ (fun e σ' hq => ?_)
        · replace h := hp13
          clear hp13
          rcases Bool.eq_false_or_eq_true (r15.1 == (0 : Int)) with hb44 | hb44
          · replace h := h_if hb44 h
            obtain ⟨r18, q7, h⟩ := h_bind h
            refine W_reg tbok ⟨[(3, true), (6, true)], [(5, ⟨.bo r18, [false], false, [true], [], [], none⟩)]⟩ [] [] [(4, .bo r18)] [] 0 0 [True, True, True, True, (r15.1 == (0 : Int)) = true ∧ True, (r15.1 == (0 : Int)) = true ∧ Pure Try.prog 11 [.st v38] (.bo r18), (r15.1 == (0 : Int)) = true, True] (by kernel_rfl) (by kernel_rfl) ⟨trivial, trivial, trivial, trivial, ⟨hb44, trivial⟩, ⟨hb44, (stanzalaw03_told_ok v38 _ q7)⟩, hb44, trivial, trivial⟩ ?_
            obtain rfl := Option.some.inj h
            exact postN_to (goal_le (gs := []) (f := []) (by kernel_rfl) (by kernel_rfl))
          · replace h := h_else hb44 h
            refine W_reg tbok ⟨[(3, false), (6, false)], []⟩ [] [] [(4, .bo false)] [] 0 0 [True, True, True, True, (r15.1 == (0 : Int)) = false, (r15.1 == (0 : Int)) = false, (r15.1 == (0 : Int)) = false, True] (by kernel_rfl) (by kernel_rfl) ⟨trivial, trivial, trivial, trivial, hb44, hb44, hb44, trivial, trivial⟩ ?_
            obtain rfl := Option.some.inj h
            exact postN_to (goal_le (gs := []) (f := []) (by kernel_rfl) (by kernel_rfl))
        · clear hp13
          obtain ⟨rfl, hle⟩ := hq
          refine use_to ?_ hle
          refine to_then ?_
          refine W_ret ?_
          obtain rfl := Option.some.inj h
          exact Ret_intro [.bool] (by kernel_rfl)

end
end Go.Proofs.Ytjfjigknkhgkdaa.T
