/- Functions of the program as functions on data, and that the program's own come to them. -/
import Derived.Test.YtcdmdcfpjeomfaaTvT07x0
import Derived.Test.YtcdmdcfpjeomfaaTvT07xa
import Derived.Test.YtcdmdcfpjeomfaaTvT07xa1
namespace Go.Proofs.Ytcdmdcfpjeomfaa.T
open Go Go.Tv Go.Proofs
noncomputable section

/-- a loop of 'stanza/stanzalaw07.written': one round -/
def stanzalaw07_written_L1 (p1 : List Int) (p2 : List Int) (word1 : Bool) : ((List UInt8) × Int) → Option (((List UInt8) × Int) ⊕ (List UInt8)) := fun ((out6, v2) : (List UInt8) × Int) =>
  (if (decide (v2 < (p2.length : Int))) = true then (if 0 ≤ v2 ∧ v2 < (p2.length : Int) then (((if ((p2.getD v2.toNat (0 : Int)) != (0 : Int)) = true then (if word1 = true then (if out6.length + ([45] : List UInt8).length ≤ 9223372036854775807 then some ((out6 ++ ([45] : List UInt8))) else none)
  else (if ¬ (10 : Int) = 0 then (if out6.length + (bytesOf ([(IntKind.u8.wrap ((48 : Int) + (Int.tmod (p2.getD v2.toNat (0 : Int)) (10 : Int))))] : List Int)).length ≤ 9223372036854775807 then some ((out6 ++ (bytesOf ([(IntKind.u8.wrap ((48 : Int) + (Int.tmod (p2.getD v2.toNat (0 : Int)) (10 : Int))))] : List Int)))) else none) else none))
  else some (out6))).bind fun (out8 : List UInt8) => (((if (decide (v2 < (p1.length : Int))) = true then (if 0 ≤ v2 ∧ v2 < (p1.length : Int) then (if out8.length + (utf8Of (p1.getD v2.toNat (0 : Int))).length ≤ 9223372036854775807 then some ((out8 ++ (utf8Of (p1.getD v2.toNat (0 : Int))))) else none) else none)
  else some (out8))).bind fun (out9 : List UInt8) => some (Sum.inl (out9, (IntKind.i64.wrap (v2 + (1 : Int))))))) else none)
  else some (Sum.inr out6))

/-- 'stanza/stanzalaw07.written' -/
def stanzalaw07_written (p1 : List Int) (p2 : List Int) (word1 : Bool) : Option (List UInt8) :=
  ((iter (stanzalaw07_written_L1 p1 p2 word1) (([] : List UInt8), (0 : Int))).bind fun (out7 : List UInt8) => some out7)

set_option maxRecDepth 100000 in
set_option maxHeartbeats 4000000 in
theorem stanzalaw07_written_ok (β0 β1 : Bool) (p1 : List Int) (p2 : List Int) (word1 : Bool) (res : List UInt8) (h : stanzalaw07_written p1 p2 word1 = some res) :
    Pure Try.prog 11 [.agg [.p β0 (.slice (.int .i32)) p1, .p β1 (.slice (.int .u8)) p2], .p false .bool word1] (wrapR (encs false [⟨.str, res⟩])) := by
  refine Pure.of_body tbok Try.func11 (by kernel_rfl) rfl (Nat.le_of_ble_eq_true rfl) (fun Bw w0 => ?_) rfl
  unfold stanzalaw07_written at h
  refine W_seq ?_
  refine W_reg tbok ⟨[], []⟩ [] [0] [(1, .p false .bool word1), (2, .adr 0 0 2 0)] [(0, .box [.p β0 (.slice (.int .i32)) p1, .p β1 (.slice (.int .u8)) p2])] 1 0 [True, True] (by kernel_rfl) (by kernel_rfl) ⟨trivial, trivial, trivial⟩ ?_
  refine to_then ?_
  refine W_seq ?_
  refine W_reg tbok ⟨[], []⟩ [] [0] [(1, .p false .bool word1), (2, .adr 0 0 2 0), (5, .p false .str ([] : List UInt8))] [(0, .box [.p β0 (.slice (.int .i32)) p1, .p β1 (.slice (.int .u8)) p2])] 1 0 [True] (by kernel_rfl) (by kernel_rfl) ⟨trivial, trivial⟩ ?_
  refine to_then ?_
  refine W_seq ?_
  refine W_seq ?_
  refine W_reg tbok ⟨[], []⟩ [] [0] [(1, .p false .bool word1), (2, .adr 0 0 2 0), (5, .p false .str ([] : List UInt8)), (9, .p β1 (.slice (.int .u8)) p2), (10, .p false (.int .i64) (p2.length : Int)), (11, .p false (.int .i64) (0 : Int))] [(0, .box [.p β0 (.slice (.int .i32)) p1, .p β1 (.slice (.int .u8)) p2])] 1 0 [True, True, True, True] (by kernel_rfl) (by kernel_rfl) ⟨trivial, trivial, trivial, trivial, trivial⟩ ?_
  refine to_then ?_
  refine W_block ?_
  obtain ⟨out7, hp7, h⟩ := h_bind h
  refine W.mono (Q := (postX Try.f11.ntmps 0 (fun (out7 : List UInt8) => mkSt [(5, .p false .str out7)] [] 0)) out7) (W_iter (f := fun ((out6, v2) : (List UInt8) × Int) => mkSt [(1, .p false .bool word1), (2, .adr 0 0 2 0), (5, .p false .str out6), (9, .p β1 (.slice (.int .u8)) p2), (10, .p false (.int .i64) (p2.length : Int)), (11, .p false (.int .i64) v2)] [(0, .box [.p β0 (.slice (.int .i32)) p1, .p β1 (.slice (.int .u8)) p2])] 1) (Q := (postX Try.f11.ntmps 0 (fun (out7 : List UInt8) => mkSt [(5, .p false .str out7)] [] 0))) hp7 (goal_le (gs := []) (f := [0]) (by kernel_rfl) (by kernel_rfl)) (fun y o ho => ?_)) (fun e σ' hq => ?_)
  · obtain ⟨out6, v2⟩ := y
    replace h := ho
    clear ho hp7
    unfold stanzalaw07_written_L1 at h
    refine W_seq ?_
    refine W_reg tbok ⟨[], []⟩ [] [0] [(1, .p false .bool word1), (2, .adr 0 0 2 0), (5, .p false .str out6), (9, .p β1 (.slice (.int .u8)) p2), (10, .p false (.int .i64) (p2.length : Int)), (11, .p false (.int .i64) v2), (12, .p false .bool (decide (v2 < (p2.length : Int))))] [(0, .box [.p β0 (.slice (.int .i32)) p1, .p β1 (.slice (.int .u8)) p2])] 1 0 [True] (by kernel_rfl) (by kernel_rfl) ⟨trivial, trivial⟩ ?_
    refine to_then ?_
    refine W_seq ?_
    refine W_cond (b := (decide (v2 < (p2.length : Int)))) (β := false) (by kernel_rfl) (fun hb15 => ?_) (fun hb15 => ?_)
    · replace h := h_if hb15 h
      refine W_skip_to ?_
      refine to_then ?_
      refine W_seq ?_
      refine W_block ?_
      refine W_seq ?_
      obtain ⟨c46, h⟩ := h_guard h
      refine W_reg tbok ⟨[], []⟩ [] [0] [(1, .p false .bool word1), (2, .adr 0 0 2 0), (5, .p false .str out6), (6, .p false (.int .i64) v2), (7, .p false (.int .u8) (p2.getD v2.toNat (0 : Int))), (9, .p β1 (.slice (.int .u8)) p2), (10, .p false (.int .i64) (p2.length : Int)), (11, .p false (.int .i64) v2)] [(0, .box [.p β0 (.slice (.int .i32)) p1, .p β1 (.slice (.int .u8)) p2])] 1 0 [True, 0 ≤ v2 ∧ v2 < (p2.length : Int), True, True, True] (by kernel_rfl) (by kernel_rfl) ⟨trivial, c46, trivial, trivial, trivial, trivial⟩ ?_
      refine to_then ?_
      refine W_seq ?_
      refine W_seq ?_
      refine W_reg tbok ⟨[], []⟩ [] [0] [(1, .p false .bool word1), (2, .adr 0 0 2 0), (5, .p false .str out6), (6, .p false (.int .i64) v2), (7, .p false (.int .u8) (p2.getD v2.toNat (0 : Int))), (9, .p β1 (.slice (.int .u8)) p2), (10, .p false (.int .i64) (p2.length : Int)), (11, .p false (.int .i64) v2), (17, .p false .bool ((p2.getD v2.toNat (0 : Int)) != (0 : Int)))] [(0, .box [.p β0 (.slice (.int .i32)) p1, .p β1 (.slice (.int .u8)) p2])] 1 0 [True, True] (by kernel_rfl) (by kernel_rfl) ⟨trivial, trivial, trivial⟩ ?_
      refine to_then ?_
      obtain ⟨out8, hp5, h⟩ := h_bind h
      refine W.mono (Q := (postN Try.f11.ntmps (fun (out8 : List UInt8) => mkSt [(1, .p false .bool word1), (2, .adr 0 0 2 0), (5, .p false .str out8), (6, .p false (.int .i64) v2), (9, .p β1 (.slice (.int .u8)) p2), (10, .p false (.int .i64) (p2.length : Int)), (11, .p false (.int .i64) v2)] [(0, .box [.p β0 (.slice (.int .i32)) p1, .p β1 (.slice (.int .u8)) p2])] 1)) out8) ?_ (fun e σ' hq => ?_)
      · replace h := hp5
        clear hp5
        refine W_cond (b := ((p2.getD v2.toNat (0 : Int)) != (0 : Int))) (β := false) (by kernel_rfl) (fun hb18 => ?_) (fun hb18 => ?_)
        · replace h := h_if hb18 h
          refine W_seq ?_
          refine W_reg tbok ⟨[], []⟩ [] [0] [(1, .p false .bool word1), (2, .adr 0 0 2 0), (5, .p false .str out6), (6, .p false (.int .i64) v2), (7, .p false (.int .u8) (p2.getD v2.toNat (0 : Int))), (9, .p β1 (.slice (.int .u8)) p2), (10, .p false (.int .i64) (p2.length : Int)), (11, .p false (.int .i64) v2), (18, .p false .bool word1)] [(0, .box [.p β0 (.slice (.int .i32)) p1, .p β1 (.slice (.int .u8)) p2])] 1 0 [True] (by kernel_rfl) (by kernel_rfl) ⟨trivial, trivial⟩ ?_
          refine to_then ?_
          refine W_cond (b := word1) (β := false) (by kernel_rfl) (fun hb19 => ?_) (fun hb19 => ?_)
          · replace h := h_if hb19 h
            obtain ⟨c54, h⟩ := h_guard h
            refine W_reg tbok ⟨[], []⟩ [] [0] [(1, .p false .bool word1), (2, .adr 0 0 2 0), (5, .p false .str (out6 ++ ([45] : List UInt8))), (6, .p false (.int .i64) v2), (9, .p β1 (.slice (.int .u8)) p2), (10, .p false (.int .i64) (p2.length : Int)), (11, .p false (.int .i64) v2)] [(0, .box [.p β0 (.slice (.int .i32)) p1, .p β1 (.slice (.int .u8)) p2])] 1 0 [True, out6.length + ([45] : List UInt8).length ≤ 9223372036854775807, True] (by kernel_rfl) (by kernel_rfl) ⟨trivial, c54, trivial, trivial⟩ ?_
            obtain rfl := Option.some.inj h
            exact postN_to (goal_le (gs := []) (f := [0]) (by kernel_rfl) (by kernel_rfl))
          · replace h := h_else hb19 h
            obtain ⟨c57, h⟩ := h_guard h
            obtain ⟨c58, h⟩ := h_guard h
            refine W_reg tbok ⟨[], []⟩ [] [0] [(1, .p false .bool word1), (2, .adr 0 0 2 0), (5, .p false .str (out6 ++ (bytesOf ([(IntKind.u8.wrap ((48 : Int) + (Int.tmod (p2.getD v2.toNat (0 : Int)) (10 : Int))))] : List Int)))), (6, .p false (.int .i64) v2), (9, .p β1 (.slice (.int .u8)) p2), (10, .p false (.int .i64) (p2.length : Int)), (11, .p false (.int .i64) v2)] [(0, .box [.p β0 (.slice (.int .i32)) p1, .p β1 (.slice (.int .u8)) p2])] 1 0 [True, True, ¬ (10 : Int) = 0, True, True, True, out6.length + (bytesOf ([(IntKind.u8.wrap ((48 : Int) + (Int.tmod (p2.getD v2.toNat (0 : Int)) (10 : Int))))] : List Int)).length ≤ 9223372036854775807, True] (by kernel_rfl) (by kernel_rfl) ⟨trivial, trivial, c57, trivial, trivial, trivial, c58, trivial, trivial⟩ ?_
            obtain rfl := Option.some.inj h
            exact postN_to (goal_le (gs := []) (f := [0]) (by kernel_rfl) (by kernel_rfl))
        · replace h := h_else hb18 h
          refine W_skip_to ?_
          obtain rfl := Option.some.inj h
          exact postN_to (goal_le (gs := []) (f := [0]) (by kernel_rfl) (by kernel_rfl))
      · clear hp5
        obtain ⟨rfl, hle⟩ := hq
        refine use_to ?_ hle
        refine to_then ?_
        refine W_seq ?_
        refine W_reg tbok ⟨[], []⟩ [] [0] [(1, .p false .bool word1), (2, .adr 0 0 2 0), (5, .p false .str out8), (6, .p false (.int .i64) v2), (9, .p β1 (.slice (.int .u8)) p2), (10, .p false (.int .i64) (p2.length : Int)), (11, .p false (.int .i64) v2), (32, .p false .bool (decide (v2 < (p1.length : Int))))] [(0, .box [.p β0 (.slice (.int .i32)) p1, .p β1 (.slice (.int .u8)) p2])] 1 0 [True, True, True, True, True] (by kernel_rfl) (by kernel_rfl) ⟨trivial, trivial, trivial, trivial, trivial, trivial⟩ ?_
        refine to_then ?_
        obtain ⟨out9, hp6, h⟩ := h_bind h
        refine W.mono (Q := (postN Try.f11.ntmps (fun (out9 : List UInt8) => mkSt [(1, .p false .bool word1), (2, .adr 0 0 2 0), (5, .p false .str out9), (9, .p β1 (.slice (.int .u8)) p2), (10, .p false (.int .i64) (p2.length : Int)), (11, .p false (.int .i64) v2)] [(0, .box [.p β0 (.slice (.int .i32)) p1, .p β1 (.slice (.int .u8)) p2])] 1)) out9) ?_ (fun e σ' hq => ?_)
        · replace h := hp6
          clear hp6
          refine W_cond (b := (decide (v2 < (p1.length : Int)))) (β := false) (by kernel_rfl) (fun hb21 => ?_) (fun hb21 => ?_)
          · replace h := h_if hb21 h
            obtain ⟨c65, h⟩ := h_guard h
            obtain ⟨c66, h⟩ := h_guard h
            refine W_reg tbok ⟨[], []⟩ [] [0] [(1, .p false .bool word1), (2, .adr 0 0 2 0), (5, .p false .str (out8 ++ (utf8Of (p1.getD v2.toNat (0 : Int))))), (9, .p β1 (.slice (.int .u8)) p2), (10, .p false (.int .i64) (p2.length : Int)), (11, .p false (.int .i64) v2)] [(0, .box [.p β0 (.slice (.int .i32)) p1, .p β1 (.slice (.int .u8)) p2])] 1 0 [True, True, True, True, 0 ≤ v2 ∧ v2 < (p1.length : Int), True, True, out8.length + (utf8Of (p1.getD v2.toNat (0 : Int))).length ≤ 9223372036854775807, True] (by kernel_rfl) (by kernel_rfl) ⟨trivial, trivial, trivial, trivial, c65, trivial, trivial, c66, trivial, trivial⟩ ?_
            obtain rfl := Option.some.inj h
            exact postN_to (goal_le (gs := []) (f := [0]) (by kernel_rfl) (by kernel_rfl))
          · replace h := h_else hb21 h
            refine W_skip_to ?_
            obtain rfl := Option.some.inj h
            exact postN_to (goal_le (gs := []) (f := [0]) (by kernel_rfl) (by kernel_rfl))
        · clear hp6
          obtain ⟨rfl, hle⟩ := hq
          refine use_to ?_ hle
          refine to_block ?_
          refine to_then ?_
          refine W_reg tbok ⟨[], []⟩ [] [0] [(1, .p false .bool word1), (2, .adr 0 0 2 0), (5, .p false .str out9), (9, .p β1 (.slice (.int .u8)) p2), (10, .p false (.int .i64) (p2.length : Int)), (11, .p false (.int .i64) (IntKind.i64.wrap (v2 + (1 : Int))))] [(0, .box [.p β0 (.slice (.int .i32)) p1, .p β1 (.slice (.int .u8)) p2])] 1 0 [True, True] (by kernel_rfl) (by kernel_rfl) ⟨trivial, trivial, trivial⟩ ?_
          obtain rfl := Option.some.inj h
          exact roundB (goal_le (gs := []) (f := [0]) (by kernel_rfl) (by kernel_rfl))
    · replace h := h_else hb15 h
      refine W_exit_to ?_
      refine thenE ?_
      obtain rfl := Option.some.inj h
      refine roundE ?_
      exact postX_to (goal_le (gs := []) (f := []) (by kernel_rfl) (by kernel_rfl))
  · clear hp7
    obtain ⟨rfl, hle⟩ := hq
    refine use_to ?_ hle
    refine blockE_eq ?_
    refine to_then ?_
    refine W_seq ?_
    refine W_reg tbok ⟨[], []⟩ [] [] [(4, .p false .str out7)] [] 0 0 [True, True] (by kernel_rfl) (by kernel_rfl) ⟨trivial, trivial, trivial⟩ ?_
    refine to_then ?_
    refine W_ret ?_
    obtain rfl := Option.some.inj h
    exact Ret_intro [.str] (by kernel_rfl)

/-- a loop of 'stanza/stanzalaw07.PatsBack': one round -/
def stanzalaw07_PatsBack_L1 (r5 : (List ((List Int) × List Int)) × List ((List Int) × List Int)) : ((List UInt8) × Int) → Option (((List UInt8) × Int) ⊕ (List UInt8)) := fun ((v3, v4) : (List UInt8) × Int) =>
  (if (decide (v4 < (r5.1.length : Int))) = true then (if 0 ≤ v4 ∧ v4 < (r5.1.length : Int) then ((stanzalaw07_written ((r5.1.getD v4.toNat (([] : List Int), ([] : List Int))).1) ((r5.1.getD v4.toNat (([] : List Int), ([] : List Int))).2) false).bind fun (r12 : List UInt8) =>
  (if r12.length + ([10] : List UInt8).length ≤ 9223372036854775807 then (if v3.length + (r12 ++ ([10] : List UInt8)).length ≤ 9223372036854775807 then some (Sum.inl ((v3 ++ (r12 ++ ([10] : List UInt8))), (IntKind.i64.wrap (v4 + (1 : Int))))) else none) else none)) else none)
  else some (Sum.inr v3))

/-- a loop of 'stanza/stanzalaw07.PatsBack': one round -/
def stanzalaw07_PatsBack_L2 (r5 : (List ((List Int) × List Int)) × List ((List Int) × List Int)) : ((List UInt8) × Int) → Option (((List UInt8) × Int) ⊕ (List UInt8)) := fun ((v8, v9) : (List UInt8) × Int) =>
  (if (decide (v9 < (r5.2.length : Int))) = true then (if 0 ≤ v9 ∧ v9 < (r5.2.length : Int) then ((stanzalaw07_written ((r5.2.getD v9.toNat (([] : List Int), ([] : List Int))).1) ((r5.2.getD v9.toNat (([] : List Int), ([] : List Int))).2) true).bind fun (r18 : List UInt8) =>
  (if r18.length + ([32] : List UInt8).length ≤ 9223372036854775807 then (if v8.length + (r18 ++ ([32] : List UInt8)).length ≤ 9223372036854775807 then some (Sum.inl ((v8 ++ (r18 ++ ([32] : List UInt8))), (IntKind.i64.wrap (v9 + (1 : Int))))) else none) else none)) else none)
  else some (Sum.inr v8))

/-- 'stanza/stanzalaw07.PatsBack' -/
def stanzalaw07_PatsBack (d1 : List UInt8) : Option (Bool) :=
  ((stanzalaw07_Awake).bind fun (r2 : Bool) =>
  (if (!r2) = true then some false
  else ((pats_Parse d1).bind fun ((r5, r6) : ((List ((List Int) × List Int)) × List ((List Int) × List Int)) × Int × Int) =>
  (if (r6.1 != (0 : Int)) = true then some ((IntKind.i64.wrap ((r5.1.length : Int) + (r5.2.length : Int))) == (0 : Int))
  else ((iter (stanzalaw07_PatsBack_L1 r5) (([] : List UInt8), (0 : Int))).bind fun (v5 : List UInt8) => ((iter (stanzalaw07_PatsBack_L2 r5) (v5, (0 : Int))).bind fun (v10 : List UInt8) => (if (decide ((v10.length : Int) > (4096 : Int))) = true then some true
  else ((pats_Parse v10).bind fun ((r21, r22) : ((List ((List Int) × List Int)) × List ((List Int) × List Int)) × Int × Int) =>
  (((if (r22.1 == (0 : Int)) = true then ((stanzaref07_SamePatterns r5.1 r21.1).bind fun (r27 : Bool) =>
  (if r27 = true then ((stanzaref07_SamePatterns r5.2 r21.2).bind fun (r28 : Bool) =>
  some (r28))
  else some (false)))
  else some (false))).bind fun (v11 : Bool) => some v11)))))))))

set_option maxRecDepth 100000 in
set_option maxHeartbeats 4000000 in
theorem stanzalaw07_PatsBack_ok (d1 : List UInt8) (res : Bool) (h : stanzalaw07_PatsBack d1 = some res) :
    Pure Try.prog 5 [.p false .str d1] (wrapR (encs false [⟨.bool, res⟩])) := by
  refine Pure.of_body tbok Try.func5 (by kernel_rfl) rfl (Nat.le_of_ble_eq_true rfl) (fun Bw w0 => ?_) rfl
  unfold stanzalaw07_PatsBack at h
  refine W_seq ?_
  refine W_reg tbok ⟨[], []⟩ [] [] [(0, .p false .str d1)] [] 0 0 [True] (by kernel_rfl) (by kernel_rfl) ⟨trivial, trivial⟩ ?_
  refine to_then ?_
  refine W_seq ?_
  refine W_seq ?_
  obtain ⟨r2, q2, h⟩ := h_bind h
  refine W_reg tbok ⟨[], [(0, ⟨.p false .bool r2, [], false, [], [], []⟩)]⟩ [] [] [(0, .p false .str d1), (13, .p false .bool (!r2))] [] 0 0 [Pure Try.prog 8 [] (.p false .bool r2), True] (by kernel_rfl) (by kernel_rfl) ⟨(stanzalaw07_Awake_ok _ q2), trivial, trivial⟩ ?_
  refine to_then ?_
  refine W_cond (b := (!r2)) (β := false) (by kernel_rfl) (fun hb1 => ?_) (fun hb1 => ?_)
  · replace h := h_if hb1 h
    refine W_seq ?_
    refine W_reg tbok ⟨[], []⟩ [] [] [(2, .p false .bool false)] [] 0 0 [True] (by kernel_rfl) (by kernel_rfl) ⟨trivial, trivial⟩ ?_
    refine to_then ?_
    refine W_ret ?_
    refine thenQ_ret ?_
    obtain rfl := Option.some.inj h
    exact Ret_intro [.bool] (by kernel_rfl)
  · replace h := h_else hb1 h
    refine W_skip_to ?_
    refine to_then ?_
    refine W_seq ?_
    obtain ⟨⟨r5, r6⟩, q4, h⟩ := h_bind h
    refine W_reg tbok ⟨[], [(1, ⟨.tup [.agg [.p false (.slice (.prod (.slice (.int .i32)) (.slice (.int .u8)))) r5.1, .p false (.slice (.prod (.slice (.int .i32)) (.slice (.int .u8)))) r5.2], .agg [.p false (.int .i64) r6.1, .p false (.int .i64) r6.2]], [false], false, [true], [], []⟩)]⟩ [] [40, 48] [(3, .adr 0 0 2 0), (4, .adr 1 0 2 0)] [(0, .box [.p false (.slice (.prod (.slice (.int .i32)) (.slice (.int .u8)))) r5.1, .p false (.slice (.prod (.slice (.int .i32)) (.slice (.int .u8)))) r5.2]), (1, .box [.p false (.int .i64) r6.1, .p false (.int .i64) r6.2])] 2 0 [True, Pure Try.prog 10 [.p false .str d1] (.tup [.agg [.p false (.slice (.prod (.slice (.int .i32)) (.slice (.int .u8)))) r5.1, .p false (.slice (.prod (.slice (.int .i32)) (.slice (.int .u8)))) r5.2], .agg [.p false (.int .i64) r6.1, .p false (.int .i64) r6.2]]), True, True, True, True, True, True, True] (by kernel_rfl) (by kernel_rfl) ⟨trivial, (pats_Parse_ok d1 _ q4), trivial, trivial, trivial, trivial, trivial, trivial, trivial, trivial⟩ ?_
    refine to_then ?_
    refine W_seq ?_
    refine W_seq ?_
    refine W_reg tbok ⟨[], []⟩ [] [0] [(3, .adr 0 0 2 0), (21, .p false .bool (r6.1 != (0 : Int)))] [(0, .box [.p false (.slice (.prod (.slice (.int .i32)) (.slice (.int .u8)))) r5.1, .p false (.slice (.prod (.slice (.int .i32)) (.slice (.int .u8)))) r5.2])] 1 0 [True, True, True] (by kernel_rfl) (by kernel_rfl) ⟨trivial, trivial, trivial, trivial⟩ ?_
    refine to_then ?_
    refine W_cond (b := (r6.1 != (0 : Int))) (β := false) (by kernel_rfl) (fun hb2 => ?_) (fun hb2 => ?_)
    · replace h := h_if hb2 h
      refine W_seq ?_
      refine W_reg tbok ⟨[], []⟩ [] [] [(2, .p false .bool ((IntKind.i64.wrap ((r5.1.length : Int) + (r5.2.length : Int))) == (0 : Int)))] [] 0 0 [True, True, True, True, True, True, True, True, True] (by kernel_rfl) (by kernel_rfl) ⟨trivial, trivial, trivial, trivial, trivial, trivial, trivial, trivial, trivial, trivial⟩ ?_
      refine to_then ?_
      refine W_ret ?_
      refine thenQ_ret ?_
      obtain rfl := Option.some.inj h
      exact Ret_intro [.bool] (by kernel_rfl)
    · replace h := h_else hb2 h
      refine W_skip_to ?_
      refine to_then ?_
      refine W_seq ?_
      refine W_reg tbok ⟨[], []⟩ [] [0] [(3, .adr 0 0 2 0), (5, .p false .str ([] : List UInt8))] [(0, .box [.p false (.slice (.prod (.slice (.int .i32)) (.slice (.int .u8)))) r5.1, .p false (.slice (.prod (.slice (.int .i32)) (.slice (.int .u8)))) r5.2])] 1 0 [True] (by kernel_rfl) (by kernel_rfl) ⟨trivial, trivial⟩ ?_
      refine to_then ?_
      refine W_seq ?_
      refine W_seq ?_
      refine W_reg tbok ⟨[], []⟩ [] [0] [(3, .adr 0 0 2 0), (5, .p false .str ([] : List UInt8)), (31, .p false (.slice (.prod (.slice (.int .i32)) (.slice (.int .u8)))) r5.1), (32, .p false (.int .i64) (r5.1.length : Int)), (33, .p false (.int .i64) (0 : Int))] [(0, .box [.p false (.slice (.prod (.slice (.int .i32)) (.slice (.int .u8)))) r5.1, .p false (.slice (.prod (.slice (.int .i32)) (.slice (.int .u8)))) r5.2])] 1 0 [True, True, True, True] (by kernel_rfl) (by kernel_rfl) ⟨trivial, trivial, trivial, trivial, trivial⟩ ?_
      refine to_then ?_
      refine W_block ?_
      obtain ⟨v5, hp1, h⟩ := h_bind h
      refine W.mono (Q := (postX Try.f5.ntmps 0 (fun (v5 : List UInt8) => mkSt [(3, .adr 0 0 2 0), (5, .p false .str v5)] [(0, .box [.p false (.slice (.prod (.slice (.int .i32)) (.slice (.int .u8)))) r5.1, .p false (.slice (.prod (.slice (.int .i32)) (.slice (.int .u8)))) r5.2])] 1)) v5) (W_iter (f := fun ((v3, v4) : (List UInt8) × Int) => mkSt [(3, .adr 0 0 2 0), (5, .p false .str v3), (31, .p false (.slice (.prod (.slice (.int .i32)) (.slice (.int .u8)))) r5.1), (32, .p false (.int .i64) (r5.1.length : Int)), (33, .p false (.int .i64) v4)] [(0, .box [.p false (.slice (.prod (.slice (.int .i32)) (.slice (.int .u8)))) r5.1, .p false (.slice (.prod (.slice (.int .i32)) (.slice (.int .u8)))) r5.2])] 1) (Q := (postX Try.f5.ntmps 0 (fun (v5 : List UInt8) => mkSt [(3, .adr 0 0 2 0), (5, .p false .str v5)] [(0, .box [.p false (.slice (.prod (.slice (.int .i32)) (.slice (.int .u8)))) r5.1, .p false (.slice (.prod (.slice (.int .i32)) (.slice (.int .u8)))) r5.2])] 1))) hp1 (goal_le (gs := []) (f := [0]) (by kernel_rfl) (by kernel_rfl)) (fun y o ho => ?_)) (fun e σ' hq => ?_)
      · obtain ⟨v3, v4⟩ := y
        replace h := ho
        clear ho hp1
        unfold stanzalaw07_PatsBack_L1 at h
        refine W_seq ?_
        refine W_reg tbok ⟨[], []⟩ [] [0] [(3, .adr 0 0 2 0), (5, .p false .str v3), (31, .p false (.slice (.prod (.slice (.int .i32)) (.slice (.int .u8)))) r5.1), (32, .p false (.int .i64) (r5.1.length : Int)), (33, .p false (.int .i64) v4), (34, .p false .bool (decide (v4 < (r5.1.length : Int))))] [(0, .box [.p false (.slice (.prod (.slice (.int .i32)) (.slice (.int .u8)))) r5.1, .p false (.slice (.prod (.slice (.int .i32)) (.slice (.int .u8)))) r5.2])] 1 0 [True] (by kernel_rfl) (by kernel_rfl) ⟨trivial, trivial⟩ ?_
        refine to_then ?_
        refine W_seq ?_
        refine W_cond (b := (decide (v4 < (r5.1.length : Int)))) (β := false) (by kernel_rfl) (fun hb5 => ?_) (fun hb5 => ?_)
        · replace h := h_if hb5 h
          refine W_skip_to ?_
          refine to_then ?_
          refine W_seq ?_
          refine W_block ?_
          refine W_seq ?_
          obtain ⟨c14, h⟩ := h_guard h
          refine W_reg tbok ⟨[], []⟩ [] [0, 17] [(3, .adr 0 0 2 0), (5, .p false .str v3), (7, .adr 1 0 2 0), (31, .p false (.slice (.prod (.slice (.int .i32)) (.slice (.int .u8)))) r5.1), (32, .p false (.int .i64) (r5.1.length : Int)), (33, .p false (.int .i64) v4)] [(0, .box [.p false (.slice (.prod (.slice (.int .i32)) (.slice (.int .u8)))) r5.1, .p false (.slice (.prod (.slice (.int .i32)) (.slice (.int .u8)))) r5.2]), (1, .box [.p false (.slice (.int .i32)) ((r5.1.getD v4.toNat (([] : List Int), ([] : List Int))).1), .p false (.slice (.int .u8)) ((r5.1.getD v4.toNat (([] : List Int), ([] : List Int))).2)])] 2 0 [0 ≤ v4 ∧ v4 < (r5.1.length : Int), True, True, True] (by kernel_rfl) (by kernel_rfl) ⟨c14, trivial, trivial, trivial, trivial⟩ ?_
          refine to_then ?_
          obtain ⟨r12, q10, h⟩ := h_bind h
          obtain ⟨c17, h⟩ := h_guard h
          obtain ⟨c18, h⟩ := h_guard h
          refine W_reg tbok ⟨[], [(2, ⟨.p false .str r12, [false, false], false, [true, true], [], []⟩)]⟩ [] [0] [(3, .adr 0 0 2 0), (5, .p false .str (v3 ++ (r12 ++ ([10] : List UInt8)))), (31, .p false (.slice (.prod (.slice (.int .i32)) (.slice (.int .u8)))) r5.1), (32, .p false (.int .i64) (r5.1.length : Int)), (33, .p false (.int .i64) v4)] [(0, .box [.p false (.slice (.prod (.slice (.int .i32)) (.slice (.int .u8)))) r5.1, .p false (.slice (.prod (.slice (.int .i32)) (.slice (.int .u8)))) r5.2])] 1 0 [True, True, Pure Try.prog 11 [.agg [.p false (.slice (.int .i32)) ((r5.1.getD v4.toNat (([] : List Int), ([] : List Int))).1), .p false (.slice (.int .u8)) ((r5.1.getD v4.toNat (([] : List Int), ([] : List Int))).2)], .p false .bool false] (.p false .str r12), r12.length + ([10] : List UInt8).length ≤ 9223372036854775807, v3.length + (r12 ++ ([10] : List UInt8)).length ≤ 9223372036854775807, True] (by kernel_rfl) (by kernel_rfl) ⟨trivial, trivial, (stanzalaw07_written_ok false false ((r5.1.getD v4.toNat (([] : List Int), ([] : List Int))).1) ((r5.1.getD v4.toNat (([] : List Int), ([] : List Int))).2) false _ q10), c17, c18, trivial, trivial⟩ ?_
          refine to_block ?_
          refine to_then ?_
          refine W_reg tbok ⟨[], []⟩ [] [0] [(3, .adr 0 0 2 0), (5, .p false .str (v3 ++ (r12 ++ ([10] : List UInt8)))), (31, .p false (.slice (.prod (.slice (.int .i32)) (.slice (.int .u8)))) r5.1), (32, .p false (.int .i64) (r5.1.length : Int)), (33, .p false (.int .i64) (IntKind.i64.wrap (v4 + (1 : Int))))] [(0, .box [.p false (.slice (.prod (.slice (.int .i32)) (.slice (.int .u8)))) r5.1, .p false (.slice (.prod (.slice (.int .i32)) (.slice (.int .u8)))) r5.2])] 1 0 [True, True] (by kernel_rfl) (by kernel_rfl) ⟨trivial, trivial, trivial⟩ ?_
          obtain rfl := Option.some.inj h
          exact roundB (goal_le (gs := []) (f := [0]) (by kernel_rfl) (by kernel_rfl))
        · replace h := h_else hb5 h
          refine W_exit_to ?_
          refine thenE ?_
          obtain rfl := Option.some.inj h
          refine roundE ?_
          exact postX_to (goal_le (gs := []) (f := [0]) (by kernel_rfl) (by kernel_rfl))
      · clear hp1
        obtain ⟨rfl, hle⟩ := hq
        refine use_to ?_ hle
        refine blockE_eq ?_
        refine to_then ?_
        refine W_seq ?_
        refine W_seq ?_
        refine W_reg tbok ⟨[], []⟩ [] [0] [(3, .adr 0 0 2 0), (5, .p false .str v5), (44, .p false (.slice (.prod (.slice (.int .i32)) (.slice (.int .u8)))) r5.2), (45, .p false (.int .i64) (r5.2.length : Int)), (46, .p false (.int .i64) (0 : Int))] [(0, .box [.p false (.slice (.prod (.slice (.int .i32)) (.slice (.int .u8)))) r5.1, .p false (.slice (.prod (.slice (.int .i32)) (.slice (.int .u8)))) r5.2])] 1 0 [True, True, True, True] (by kernel_rfl) (by kernel_rfl) ⟨trivial, trivial, trivial, trivial, trivial⟩ ?_
        refine to_then ?_
        refine W_block ?_
        obtain ⟨v10, hp2, h⟩ := h_bind h
        refine W.mono (Q := (postX Try.f5.ntmps 2 (fun (v10 : List UInt8) => mkSt [(3, .adr 0 0 2 0), (5, .p false .str v10)] [(0, .box [.p false (.slice (.prod (.slice (.int .i32)) (.slice (.int .u8)))) r5.1, .p false (.slice (.prod (.slice (.int .i32)) (.slice (.int .u8)))) r5.2])] 1)) v10) (W_iter (f := fun ((v8, v9) : (List UInt8) × Int) => mkSt [(3, .adr 0 0 2 0), (5, .p false .str v8), (44, .p false (.slice (.prod (.slice (.int .i32)) (.slice (.int .u8)))) r5.2), (45, .p false (.int .i64) (r5.2.length : Int)), (46, .p false (.int .i64) v9)] [(0, .box [.p false (.slice (.prod (.slice (.int .i32)) (.slice (.int .u8)))) r5.1, .p false (.slice (.prod (.slice (.int .i32)) (.slice (.int .u8)))) r5.2])] 1) (Q := (postX Try.f5.ntmps 2 (fun (v10 : List UInt8) => mkSt [(3, .adr 0 0 2 0), (5, .p false .str v10)] [(0, .box [.p false (.slice (.prod (.slice (.int .i32)) (.slice (.int .u8)))) r5.1, .p false (.slice (.prod (.slice (.int .i32)) (.slice (.int .u8)))) r5.2])] 1))) hp2 (goal_le (gs := []) (f := [0]) (by kernel_rfl) (by kernel_rfl)) (fun y o ho => ?_)) (fun e σ' hq => ?_)
        · obtain ⟨v8, v9⟩ := y
          replace h := ho
          clear ho hp2
          unfold stanzalaw07_PatsBack_L2 at h
          refine W_seq ?_
          refine W_reg tbok ⟨[], []⟩ [] [0] [(3, .adr 0 0 2 0), (5, .p false .str v8), (44, .p false (.slice (.prod (.slice (.int .i32)) (.slice (.int .u8)))) r5.2), (45, .p false (.int .i64) (r5.2.length : Int)), (46, .p false (.int .i64) v9), (47, .p false .bool (decide (v9 < (r5.2.length : Int))))] [(0, .box [.p false (.slice (.prod (.slice (.int .i32)) (.slice (.int .u8)))) r5.1, .p false (.slice (.prod (.slice (.int .i32)) (.slice (.int .u8)))) r5.2])] 1 0 [True] (by kernel_rfl) (by kernel_rfl) ⟨trivial, trivial⟩ ?_
          refine to_then ?_
          refine W_seq ?_
          refine W_cond (b := (decide (v9 < (r5.2.length : Int)))) (β := false) (by kernel_rfl) (fun hb8 => ?_) (fun hb8 => ?_)
          · replace h := h_if hb8 h
            refine W_skip_to ?_
            refine to_then ?_
            refine W_seq ?_
            refine W_block ?_
            refine W_seq ?_
            obtain ⟨c32, h⟩ := h_guard h
            refine W_reg tbok ⟨[], []⟩ [] [0, 17] [(3, .adr 0 0 2 0), (5, .p false .str v8), (9, .adr 1 0 2 0), (44, .p false (.slice (.prod (.slice (.int .i32)) (.slice (.int .u8)))) r5.2), (45, .p false (.int .i64) (r5.2.length : Int)), (46, .p false (.int .i64) v9)] [(0, .box [.p false (.slice (.prod (.slice (.int .i32)) (.slice (.int .u8)))) r5.1, .p false (.slice (.prod (.slice (.int .i32)) (.slice (.int .u8)))) r5.2]), (1, .box [.p false (.slice (.int .i32)) ((r5.2.getD v9.toNat (([] : List Int), ([] : List Int))).1), .p false (.slice (.int .u8)) ((r5.2.getD v9.toNat (([] : List Int), ([] : List Int))).2)])] 2 0 [0 ≤ v9 ∧ v9 < (r5.2.length : Int), True, True, True] (by kernel_rfl) (by kernel_rfl) ⟨c32, trivial, trivial, trivial, trivial⟩ ?_
            refine to_then ?_
            obtain ⟨r18, q16, h⟩ := h_bind h
            obtain ⟨c35, h⟩ := h_guard h
            obtain ⟨c36, h⟩ := h_guard h
            refine W_reg tbok ⟨[], [(2, ⟨.p false .str r18, [false, false], false, [true, true], [], []⟩)]⟩ [] [0] [(3, .adr 0 0 2 0), (5, .p false .str (v8 ++ (r18 ++ ([32] : List UInt8)))), (44, .p false (.slice (.prod (.slice (.int .i32)) (.slice (.int .u8)))) r5.2), (45, .p false (.int .i64) (r5.2.length : Int)), (46, .p false (.int .i64) v9)] [(0, .box [.p false (.slice (.prod (.slice (.int .i32)) (.slice (.int .u8)))) r5.1, .p false (.slice (.prod (.slice (.int .i32)) (.slice (.int .u8)))) r5.2])] 1 0 [True, True, Pure Try.prog 11 [.agg [.p false (.slice (.int .i32)) ((r5.2.getD v9.toNat (([] : List Int), ([] : List Int))).1), .p false (.slice (.int .u8)) ((r5.2.getD v9.toNat (([] : List Int), ([] : List Int))).2)], .p false .bool true] (.p false .str r18), r18.length + ([32] : List UInt8).length ≤ 9223372036854775807, v8.length + (r18 ++ ([32] : List UInt8)).length ≤ 9223372036854775807, True] (by kernel_rfl) (by kernel_rfl) ⟨trivial, trivial, (stanzalaw07_written_ok false false ((r5.2.getD v9.toNat (([] : List Int), ([] : List Int))).1) ((r5.2.getD v9.toNat (([] : List Int), ([] : List Int))).2) true _ q16), c35, c36, trivial, trivial⟩ ?_
            refine to_block ?_
            refine to_then ?_
            refine W_reg tbok ⟨[], []⟩ [] [0] [(3, .adr 0 0 2 0), (5, .p false .str (v8 ++ (r18 ++ ([32] : List UInt8)))), (44, .p false (.slice (.prod (.slice (.int .i32)) (.slice (.int .u8)))) r5.2), (45, .p false (.int .i64) (r5.2.length : Int)), (46, .p false (.int .i64) (IntKind.i64.wrap (v9 + (1 : Int))))] [(0, .box [.p false (.slice (.prod (.slice (.int .i32)) (.slice (.int .u8)))) r5.1, .p false (.slice (.prod (.slice (.int .i32)) (.slice (.int .u8)))) r5.2])] 1 0 [True, True] (by kernel_rfl) (by kernel_rfl) ⟨trivial, trivial, trivial⟩ ?_
            obtain rfl := Option.some.inj h
            exact roundB (goal_le (gs := []) (f := [0]) (by kernel_rfl) (by kernel_rfl))
          · replace h := h_else hb8 h
            refine W_exit_to ?_
            refine thenE ?_
            obtain rfl := Option.some.inj h
            refine roundE ?_
            exact postX_to (goal_le (gs := []) (f := [0]) (by kernel_rfl) (by kernel_rfl))
        · clear hp2
          obtain ⟨rfl, hle⟩ := hq
          refine use_to ?_ hle
          refine blockE_eq ?_
          refine to_then ?_
          refine W_seq ?_
          refine W_seq ?_
          refine W_reg tbok ⟨[], []⟩ [] [0] [(3, .adr 0 0 2 0), (5, .p false .str v10), (58, .p false .bool (decide ((v10.length : Int) > (4096 : Int))))] [(0, .box [.p false (.slice (.prod (.slice (.int .i32)) (.slice (.int .u8)))) r5.1, .p false (.slice (.prod (.slice (.int .i32)) (.slice (.int .u8)))) r5.2])] 1 0 [True, True, True] (by kernel_rfl) (by kernel_rfl) ⟨trivial, trivial, trivial, trivial⟩ ?_
          refine to_then ?_
          refine W_cond (b := (decide ((v10.length : Int) > (4096 : Int)))) (β := false) (by kernel_rfl) (fun hb9 => ?_) (fun hb9 => ?_)
          · replace h := h_if hb9 h
            refine W_seq ?_
            refine W_reg tbok ⟨[], []⟩ [] [] [(2, .p false .bool true)] [] 0 0 [True] (by kernel_rfl) (by kernel_rfl) ⟨trivial, trivial⟩ ?_
            refine to_then ?_
            refine W_ret ?_
            refine thenQ_ret ?_
            obtain rfl := Option.some.inj h
            exact Ret_intro [.bool] (by kernel_rfl)
          · replace h := h_else hb9 h
            refine W_skip_to ?_
            refine to_then ?_
            refine W_seq ?_
            obtain ⟨⟨r21, r22⟩, q18, h⟩ := h_bind h
            refine W_reg tbok ⟨[], [(1, ⟨.tup [.agg [.p false (.slice (.prod (.slice (.int .i32)) (.slice (.int .u8)))) r21.1, .p false (.slice (.prod (.slice (.int .i32)) (.slice (.int .u8)))) r21.2], .agg [.p false (.int .i64) r22.1, .p false (.int .i64) r22.2]], [false], false, [true], [], []⟩)]⟩ [] [0, 41, 49] [(3, .adr 0 0 2 0), (10, .adr 1 0 2 0), (11, .adr 2 0 2 0)] [(0, .box [.p false (.slice (.prod (.slice (.int .i32)) (.slice (.int .u8)))) r5.1, .p false (.slice (.prod (.slice (.int .i32)) (.slice (.int .u8)))) r5.2]), (1, .box [.p false (.slice (.prod (.slice (.int .i32)) (.slice (.int .u8)))) r21.1, .p false (.slice (.prod (.slice (.int .i32)) (.slice (.int .u8)))) r21.2]), (2, .box [.p false (.int .i64) r22.1, .p false (.int .i64) r22.2])] 3 0 [True, Pure Try.prog 10 [.p false .str v10] (.tup [.agg [.p false (.slice (.prod (.slice (.int .i32)) (.slice (.int .u8)))) r21.1, .p false (.slice (.prod (.slice (.int .i32)) (.slice (.int .u8)))) r21.2], .agg [.p false (.int .i64) r22.1, .p false (.int .i64) r22.2]]), True, True, True, True, True, True, True] (by kernel_rfl) (by kernel_rfl) ⟨trivial, (pats_Parse_ok v10 _ q18), trivial, trivial, trivial, trivial, trivial, trivial, trivial, trivial⟩ ?_
            refine to_then ?_
            refine W_seq ?_
            obtain ⟨v11, hp3, h⟩ := h_bind h
            refine W.mono (Q := (postN Try.f5.ntmps (fun (v11 : Bool) => mkSt [(2, .p false .bool v11)] [] 0)) v11) ?_ (fun e σ' hq => ?_)
            · replace h := hp3
              clear hp3
              rcases Bool.eq_false_or_eq_true (r22.1 == (0 : Int)) with hb14 | hb14
              · replace h := h_if hb14 h
                obtain ⟨r27, q23, h⟩ := h_bind h
                rcases Bool.eq_false_or_eq_true r27 with hb15 | hb15
                · replace h := h_if hb15 h
                  obtain ⟨r28, q24, h⟩ := h_bind h
                  refine W_reg tbok ⟨[(3, true), (9, true), (10, true), (16, true)], [(8, ⟨.p false .bool r27, [false, false], false, [true, true], [], []⟩), (15, ⟨.p false .bool r28, [false, false], false, [true, true], [], []⟩)]⟩ [] [] [(2, .p false .bool r28)] [] 0 0 [True, True, True, True, (r22.1 == (0 : Int)) = true ∧ True, (r22.1 == (0 : Int)) = true ∧ True, (r22.1 == (0 : Int)) = true ∧ True, (r22.1 == (0 : Int)) = true ∧ True, (r22.1 == (0 : Int)) = true ∧ Pure Try.prog 12 [.p false (.slice (.prod (.slice (.int .i32)) (.slice (.int .u8)))) r5.1, .p false (.slice (.prod (.slice (.int .i32)) (.slice (.int .u8)))) r21.1] (.p false .bool r27), (r22.1 == (0 : Int)) = true, True, r27 = true ∧ True, r27 = true ∧ True, r27 = true ∧ True, r27 = true ∧ True, r27 = true ∧ Pure Try.prog 12 [.p false (.slice (.prod (.slice (.int .i32)) (.slice (.int .u8)))) r5.2, .p false (.slice (.prod (.slice (.int .i32)) (.slice (.int .u8)))) r21.2] (.p false .bool r28), r27 = true, True] (by kernel_rfl) (by kernel_rfl) ⟨trivial, trivial, trivial, trivial, ⟨hb14, trivial⟩, ⟨hb14, trivial⟩, ⟨hb14, trivial⟩, ⟨hb14, trivial⟩, ⟨hb14, (stanzaref07_SamePatterns_ok false false r5.1 r21.1 _ q23)⟩, hb14, trivial, ⟨hb15, trivial⟩, ⟨hb15, trivial⟩, ⟨hb15, trivial⟩, ⟨hb15, trivial⟩, ⟨hb15, (stanzaref07_SamePatterns_ok false false r5.2 r21.2 _ q24)⟩, hb15, trivial, trivial⟩ ?_
                  obtain rfl := Option.some.inj h
                  exact postN_to (goal_le (gs := []) (f := []) (by kernel_rfl) (by kernel_rfl))
                · replace h := h_else hb15 h
                  refine W_reg tbok ⟨[(3, true), (9, true), (10, false), (16, false)], [(8, ⟨.p false .bool r27, [false, false], false, [true, true], [], []⟩)]⟩ [] [] [(2, .p false .bool false)] [] 0 0 [True, True, True, True, (r22.1 == (0 : Int)) = true ∧ True, (r22.1 == (0 : Int)) = true ∧ True, (r22.1 == (0 : Int)) = true ∧ True, (r22.1 == (0 : Int)) = true ∧ True, (r22.1 == (0 : Int)) = true ∧ Pure Try.prog 12 [.p false (.slice (.prod (.slice (.int .i32)) (.slice (.int .u8)))) r5.1, .p false (.slice (.prod (.slice (.int .i32)) (.slice (.int .u8)))) r21.1] (.p false .bool r27), (r22.1 == (0 : Int)) = true, True, r27 = false, r27 = false, r27 = false, r27 = false, r27 = false, r27 = false, True] (by kernel_rfl) (by kernel_rfl) ⟨trivial, trivial, trivial, trivial, ⟨hb14, trivial⟩, ⟨hb14, trivial⟩, ⟨hb14, trivial⟩, ⟨hb14, trivial⟩, ⟨hb14, (stanzaref07_SamePatterns_ok false false r5.1 r21.1 _ q23)⟩, hb14, trivial, hb15, hb15, hb15, hb15, hb15, hb15, trivial, trivial⟩ ?_
                  obtain rfl := Option.some.inj h
                  exact postN_to (goal_le (gs := []) (f := []) (by kernel_rfl) (by kernel_rfl))
              · replace h := h_else hb14 h
                refine W_reg tbok ⟨[(3, false), (9, false), (10, false), (16, false)], []⟩ [] [] [(2, .p false .bool false)] [] 0 0 [True, True, True, True, (r22.1 == (0 : Int)) = false, (r22.1 == (0 : Int)) = false, (r22.1 == (0 : Int)) = false, (r22.1 == (0 : Int)) = false, (r22.1 == (0 : Int)) = false, (r22.1 == (0 : Int)) = false, True, false = false, false = false, false = false, false = false, false = false, false = false, True] (by kernel_rfl) (by kernel_rfl) ⟨trivial, trivial, trivial, trivial, hb14, hb14, hb14, hb14, hb14, hb14, trivial, rfl, rfl, rfl, rfl, rfl, rfl, trivial, trivial⟩ ?_
                obtain rfl := Option.some.inj h
                exact postN_to (goal_le (gs := []) (f := []) (by kernel_rfl) (by kernel_rfl))
            · clear hp3
              obtain ⟨rfl, hle⟩ := hq
              refine use_to ?_ hle
              refine to_then ?_
              refine W_ret ?_
              obtain rfl := Option.some.inj h
              exact Ret_intro [.bool] (by kernel_rfl)

end
end Go.Proofs.Ytcdmdcfpjeomfaa.T
