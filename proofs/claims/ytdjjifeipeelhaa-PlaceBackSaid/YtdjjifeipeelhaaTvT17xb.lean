/- Functions of the program as functions on data, and that the program's own come to them. -/
import Derived.Test.YtdjjifeipeelhaaTvT17x0
import Derived.Test.YtdjjifeipeelhaaTvT17xa
namespace Go.Proofs.Ytdjjifeipeelhaa.T
open Go Go.Tv Go.Proofs
noncomputable section

/-- 'stanza/stanzahand03.Config' -/
def stanzahand03_Config (w1 : Int) (w2 : Int) (w3 : Int) (w4 : Int) (w5 : Int) (w6 : Nat) : Option (Int × Int × Int × Int × Int × Nat) :=
  (if ¬ (64 : Int) = 0 then (if ¬ (2 : Int) = 0 then some ((IntKind.i64.wrap ((1 : Int) + (IntKind.i64.wrap w1))), ((IntKind.i64.wrap ((1 : Int) + (IntKind.i64.wrap (Int.tmod w2 (64 : Int))))), ((Int.tmod w3 (2 : Int)), ((IntKind.i64.wrap w4), ((IntKind.i64.wrap w5), w6))))) else none) else none)

set_option maxRecDepth 100000 in
set_option maxHeartbeats 4000000 in
theorem stanzahand03_Config_ok (w1 : Int) (w2 : Int) (w3 : Int) (w4 : Int) (w5 : Int) (w6 : Nat) (res : Int × Int × Int × Int × Int × Nat) (h : stanzahand03_Config w1 w2 w3 w4 w5 w6 = some res) :
    Pure Try.prog 28 [.agg [.p false (.int .u8) w1, .p false (.int .u8) w2, .p false (.int .u8) w3, .p false (.int .u16) w4, .p false (.int .u16) w5, .p false .flt w6]] (wrapR (encs false [⟨(.prod (.int .i64) (.prod (.int .i64) (.prod (.int .u8) (.prod (.int .i64) (.prod (.int .i64) .flt))))), res⟩])) := by
  refine Pure.of_body tbok Try.func28 (by kernel_rfl) rfl (Nat.le_of_ble_eq_true rfl) (fun Bw w0 => ?_) rfl
  unfold stanzahand03_Config at h
  refine W_seq ?_
  refine W_reg tbok ⟨[], []⟩ [] [0, 8] [(1, .adr 0 0 6 0), (2, .adr 1 0 6 0)] [(0, .box [.p false (.int .u8) w1, .p false (.int .u8) w2, .p false (.int .u8) w3, .p false (.int .u16) w4, .p false (.int .u16) w5, .p false .flt w6]), (1, .box [.p false (.int .i64) (0 : Int), .p false (.int .i64) (0 : Int), .p false (.int .u8) (0 : Int), .p false (.int .i64) (0 : Int), .p false (.int .i64) (0 : Int), .p false .flt (0 : Nat)])] 2 0 [True, True] (by kernel_rfl) (by kernel_rfl) ⟨trivial, trivial, trivial⟩ ?_
  refine to_then ?_
  refine W_seq ?_
  obtain ⟨c3, h⟩ := h_guard h
  obtain ⟨c4, h⟩ := h_guard h
  refine W_reg tbok ⟨[], []⟩ [] [1] [(2, .adr 0 0 6 0)] [(0, .box [.p false (.int .i64) (IntKind.i64.wrap ((1 : Int) + (IntKind.i64.wrap w1))), .p false (.int .i64) (IntKind.i64.wrap ((1 : Int) + (IntKind.i64.wrap (Int.tmod w2 (64 : Int))))), .p false (.int .u8) (Int.tmod w3 (2 : Int)), .p false (.int .i64) (IntKind.i64.wrap w4), .p false (.int .i64) (IntKind.i64.wrap w5), .p false .flt w6])] 1 0 [True, True, True, True, True, True, ¬ (64 : Int) = 0, True, True, True, True, ¬ (2 : Int) = 0, True, True, True, True, True, True, True, True, True, True] (by kernel_rfl) (by kernel_rfl) ⟨trivial, trivial, trivial, trivial, trivial, trivial, c3, trivial, trivial, trivial, trivial, c4, trivial, trivial, trivial, trivial, trivial, trivial, trivial, trivial, trivial, trivial, trivial⟩ ?_
  refine to_then ?_
  refine W_ret ?_
  obtain rfl := Option.some.inj h
  exact Ret_intro [(.prod (.int .i64) (.prod (.int .i64) (.prod (.int .u8) (.prod (.int .i64) (.prod (.int .i64) .flt)))))] (by kernel_rfl)

/-- a loop of 'stanza/stanzaref10.Parts': one round -/
def stanzaref10_Parts_L1 (p2 : List Int) : ((List Int) × Int) → Option (((List Int) × Int) ⊕ (List Int)) := fun ((out4, i2) : (List Int) × Int) =>
  (if (decide (i2 < (p2.length : Int))) = true then (if 0 ≤ i2 ∧ i2 < (p2.length : Int) then (((if ((p2.getD i2.toNat (0 : Int)) == (2 : Int)) = true then (if (out4.length + ([i2] : List Int).length) * 8 ≤ 140737488355328 ∧ out4.length + ([i2] : List Int).length ≤ 9223372036854775807 then some ((out4 ++ ([i2] : List Int))) else none)
  else some (out4))).bind fun (out6 : List Int) => some (Sum.inl (out6, (IntKind.i64.wrap (i2 + (1 : Int)))))) else none)
  else some (Sum.inr out4))

/-- 'stanza/stanzaref10.Parts' -/
def stanzaref10_Parts (p1 : List (Int × Int × Int × Int)) (p2 : List Int) : Option (List Int) :=
  ((iter (stanzaref10_Parts_L1 p2) (([] : List Int), (0 : Int))).bind fun (out5 : List Int) => some out5)

set_option maxRecDepth 100000 in
set_option maxHeartbeats 4000000 in
theorem stanzaref10_Parts_ok (β0 β1 : Bool) (p1 : List (Int × Int × Int × Int)) (p2 : List Int) (res : List Int) (h : stanzaref10_Parts p1 p2 = some res) :
    Pure Try.prog 36 [.agg [.p β0 (.slice (.prod (.int .i64) (.prod (.int .i64) (.prod (.int .i64) (.int .u8))))) p1, .p β1 (.slice (.int .u8)) p2]] (wrapR (encs false [⟨(.slice (.int .i64)), res⟩])) := by
  refine Pure.of_body tbok Try.func36 (by kernel_rfl) rfl (Nat.le_of_ble_eq_true rfl) (fun Bw w0 => ?_) rfl
  unfold stanzaref10_Parts at h
  refine W_seq ?_
  refine W_reg tbok ⟨[], []⟩ [] [0] [(1, .adr 0 0 2 0)] [(0, .box [.p β0 (.slice (.prod (.int .i64) (.prod (.int .i64) (.prod (.int .i64) (.int .u8))))) p1, .p β1 (.slice (.int .u8)) p2])] 1 0 [True, True] (by kernel_rfl) (by kernel_rfl) ⟨trivial, trivial, trivial⟩ ?_
  refine to_then ?_
  refine W_seq ?_
  refine W_reg tbok ⟨[], []⟩ [] [0] [(1, .adr 0 0 2 0), (3, .nils)] [(0, .box [.p β0 (.slice (.prod (.int .i64) (.prod (.int .i64) (.prod (.int .i64) (.int .u8))))) p1, .p β1 (.slice (.int .u8)) p2])] 1 0 [True] (by kernel_rfl) (by kernel_rfl) ⟨trivial, trivial⟩ ?_
  refine to_then ?_
  refine W_seq ?_
  refine W_seq ?_
  refine W_reg tbok ⟨[], []⟩ [] [0] [(1, .adr 0 0 2 0), (3, .nils), (4, .p false (.int .i64) (0 : Int))] [(0, .box [.p β0 (.slice (.prod (.int .i64) (.prod (.int .i64) (.prod (.int .i64) (.int .u8))))) p1, .p β1 (.slice (.int .u8)) p2])] 1 0 [True] (by kernel_rfl) (by kernel_rfl) ⟨trivial, trivial⟩ ?_
  refine to_then ?_
  refine W_block ?_
  obtain ⟨out5, hp4, h⟩ := h_bind h
  refine W.mono (Q := (postX Try.f36.ntmps 0 (fun (out5 : List Int) => mkSt [(3, .sl 0)] [(0, .arr 3 (.int .i64) out5)] 1)) out5) (W_iter (f := fun ((out4, i2) : (List Int) × Int) => mkSt [(1, .adr 0 0 2 0), (3, .sl 1), (4, .p false (.int .i64) i2)] [(0, .box [.p β0 (.slice (.prod (.int .i64) (.prod (.int .i64) (.prod (.int .i64) (.int .u8))))) p1, .p β1 (.slice (.int .u8)) p2]), (1, .arr 3 (.int .i64) out4)] 2) (Q := (postX Try.f36.ntmps 0 (fun (out5 : List Int) => mkSt [(3, .sl 0)] [(0, .arr 3 (.int .i64) out5)] 1))) hp4 (goal_le (gs := [.nilS 3 1 3 (.int .i64)]) (f := [0, 1]) (by kernel_rfl) (by kernel_rfl)) (fun y o ho => ?_)) (fun e σ' hq => ?_)
  · obtain ⟨out4, i2⟩ := y
    replace h := ho
    clear ho hp4
    unfold stanzaref10_Parts_L1 at h
    refine W_seq ?_
    refine W_seq ?_
    refine W_reg tbok ⟨[], []⟩ [] [0, 1] [(1, .adr 0 0 2 0), (3, .sl 1), (4, .p false (.int .i64) i2), (9, .p false .bool (decide (i2 < (p2.length : Int))))] [(0, .box [.p β0 (.slice (.prod (.int .i64) (.prod (.int .i64) (.prod (.int .i64) (.int .u8))))) p1, .p β1 (.slice (.int .u8)) p2]), (1, .arr 3 (.int .i64) out4)] 2 0 [True, True, True, True, True] (by kernel_rfl) (by kernel_rfl) ⟨trivial, trivial, trivial, trivial, trivial, trivial⟩ ?_
    refine to_then ?_
    refine W_cond (b := (decide (i2 < (p2.length : Int)))) (β := false) (by kernel_rfl) (fun hb7 => ?_) (fun hb7 => ?_)
    · replace h := h_if hb7 h
      refine W_skip_to ?_
      refine to_then ?_
      refine W_seq ?_
      refine W_block ?_
      refine W_seq ?_
      obtain ⟨c14, h⟩ := h_guard h
      refine W_reg tbok ⟨[], []⟩ [] [0, 1] [(1, .adr 0 0 2 0), (3, .sl 1), (4, .p false (.int .i64) i2), (17, .p false .bool ((p2.getD i2.toNat (0 : Int)) == (2 : Int)))] [(0, .box [.p β0 (.slice (.prod (.int .i64) (.prod (.int .i64) (.prod (.int .i64) (.int .u8))))) p1, .p β1 (.slice (.int .u8)) p2]), (1, .arr 3 (.int .i64) out4)] 2 0 [True, True, True, 0 ≤ i2 ∧ i2 < (p2.length : Int), True, True] (by kernel_rfl) (by kernel_rfl) ⟨trivial, trivial, trivial, c14, trivial, trivial, trivial⟩ ?_
      refine to_then ?_
      obtain ⟨out6, hp3, h⟩ := h_bind h
      refine W.mono (Q := (postN Try.f36.ntmps (fun (out6 : List Int) => mkSt [(1, .adr 0 0 2 0), (3, .sl 1), (4, .p false (.int .i64) i2)] [(0, .box [.p β0 (.slice (.prod (.int .i64) (.prod (.int .i64) (.prod (.int .i64) (.int .u8))))) p1, .p β1 (.slice (.int .u8)) p2]), (1, .arr 3 (.int .i64) out6)] 2)) out6) ?_ (fun e σ' hq => ?_)
      · replace h := hp3
        clear hp3
        refine W_cond (b := ((p2.getD i2.toNat (0 : Int)) == (2 : Int))) (β := false) (by kernel_rfl) (fun hb9 => ?_) (fun hb9 => ?_)
        · replace h := h_if hb9 h
          obtain ⟨c18, h⟩ := h_guard h
          refine W_reg tbok ⟨[], []⟩ [] [0, 26] [(1, .adr 0 0 2 0), (3, .sl 1), (4, .p false (.int .i64) i2)] [(0, .box [.p β0 (.slice (.prod (.int .i64) (.prod (.int .i64) (.prod (.int .i64) (.int .u8))))) p1, .p β1 (.slice (.int .u8)) p2]), (1, .arr 3 (.int .i64) (out4 ++ ([i2] : List Int)))] 2 0 [True, True, True, (out4.length + ([i2] : List Int).length) * 8 ≤ 140737488355328 ∧ out4.length + ([i2] : List Int).length ≤ 9223372036854775807, True] (by kernel_rfl) (by kernel_rfl) ⟨trivial, trivial, trivial, c18, trivial, trivial⟩ ?_
          obtain rfl := Option.some.inj h
          exact postN_to (goal_le (gs := []) (f := [0, 1]) (by kernel_rfl) (by kernel_rfl))
        · replace h := h_else hb9 h
          refine W_skip_to ?_
          obtain rfl := Option.some.inj h
          exact postN_to (goal_le (gs := []) (f := [0, 1]) (by kernel_rfl) (by kernel_rfl))
      · clear hp3
        obtain ⟨rfl, hle⟩ := hq
        refine use_to ?_ hle
        refine to_block ?_
        refine to_then ?_
        refine W_reg tbok ⟨[], []⟩ [] [0, 1] [(1, .adr 0 0 2 0), (3, .sl 1), (4, .p false (.int .i64) (IntKind.i64.wrap (i2 + (1 : Int))))] [(0, .box [.p β0 (.slice (.prod (.int .i64) (.prod (.int .i64) (.prod (.int .i64) (.int .u8))))) p1, .p β1 (.slice (.int .u8)) p2]), (1, .arr 3 (.int .i64) out6)] 2 0 [True, True, True] (by kernel_rfl) (by kernel_rfl) ⟨trivial, trivial, trivial, trivial⟩ ?_
        obtain rfl := Option.some.inj h
        exact roundB (goal_le (gs := []) (f := [0, 1]) (by kernel_rfl) (by kernel_rfl))
    · replace h := h_else hb7 h
      refine W_exit_to ?_
      refine thenE ?_
      obtain rfl := Option.some.inj h
      refine roundE ?_
      exact postX_to (goal_le (gs := []) (f := [1]) (by kernel_rfl) (by kernel_rfl))
  · clear hp4
    obtain ⟨rfl, hle⟩ := hq
    refine use_to ?_ hle
    refine blockE_eq ?_
    refine to_then ?_
    refine W_seq ?_
    refine W_reg tbok ⟨[], []⟩ [] [0] [(2, .sl 0)] [(0, .arr 3 (.int .i64) out5)] 1 0 [True, True] (by kernel_rfl) (by kernel_rfl) ⟨trivial, trivial, trivial⟩ ?_
    refine to_then ?_
    refine W_ret ?_
    obtain rfl := Option.some.inj h
    exact Ret_intro [(.slice (.int .i64))] (by kernel_rfl)

/-- 'stanza/stanzaref13.Empty' -/
def stanzaref13_Empty (c1 : Int) (c2 : Int) (c3 : Int) (c4 : Int) : Option (Bool) :=
  (((if (c4 == (1 : Int)) = true then some (true)
  else (if (c4 == (0 : Int)) = true then some ((c3 == (0 : Int)))
  else some (false)))).bind fun (v1 : Bool) => some v1)

set_option maxRecDepth 100000 in
set_option maxHeartbeats 4000000 in
theorem stanzaref13_Empty_ok (c1 : Int) (c2 : Int) (c3 : Int) (c4 : Int) (res : Bool) (h : stanzaref13_Empty c1 c2 c3 c4 = some res) :
    Pure Try.prog 49 [.agg [.p false (.int .i64) c1, .p false (.int .i64) c2, .p false (.int .i64) c3, .p false (.int .u8) c4]] (wrapR (encs false [⟨.bool, res⟩])) := by
  refine Pure.of_body tbok Try.func49 (by kernel_rfl) rfl (Nat.le_of_ble_eq_true rfl) (fun Bw w0 => ?_) rfl
  unfold stanzaref13_Empty at h
  refine W_seq ?_
  refine W_reg tbok ⟨[], []⟩ [] [0] [(1, .adr 0 0 4 0)] [(0, .box [.p false (.int .i64) c1, .p false (.int .i64) c2, .p false (.int .i64) c3, .p false (.int .u8) c4])] 1 0 [True, True] (by kernel_rfl) (by kernel_rfl) ⟨trivial, trivial, trivial⟩ ?_
  refine to_then ?_
  refine W_seq ?_
  obtain ⟨v1, hp1, h⟩ := h_bind h
  refine W.mono (Q := (postN Try.f49.ntmps (fun (v1 : Bool) => mkSt [(2, .p false .bool v1)] [] 0)) v1) ?_ (fun e σ' hq => ?_)
  · replace h := hp1
    clear hp1
    rcases Bool.eq_false_or_eq_true (c4 == (1 : Int)) with hb5 | hb5
    · replace h := h_if hb5 h
      refine W_reg tbok ⟨[(3, true), (12, true)], []⟩ [] [] [(2, .p false .bool true)] [] 0 0 [True, True, True, True, (c4 == (1 : Int)) = true, (c4 == (1 : Int)) = true, (c4 == (1 : Int)) = true, (c4 == (1 : Int)) = true, True, True, True, (c4 == (1 : Int)) = true, (c4 == (1 : Int)) = true, True] (by kernel_rfl) (by kernel_rfl) ⟨trivial, trivial, trivial, trivial, hb5, hb5, hb5, hb5, trivial, trivial, trivial, hb5, hb5, trivial, trivial⟩ ?_
      obtain rfl := Option.some.inj h
      exact postN_to (goal_le (gs := []) (f := []) (by kernel_rfl) (by kernel_rfl))
    · replace h := h_else hb5 h
      rcases Bool.eq_false_or_eq_true (c4 == (0 : Int)) with hb6 | hb6
      · replace h := h_if hb6 h
        refine W_reg tbok ⟨[(3, false), (7, true), (11, true), (12, false)], []⟩ [] [] [(2, .p false .bool (c3 == (0 : Int)))] [] 0 0 [True, True, True, True, (c4 == (1 : Int)) = false ∧ True, (c4 == (1 : Int)) = false ∧ True, (c4 == (1 : Int)) = false ∧ True, (c4 == (1 : Int)) = false ∧ True, (c4 == (0 : Int)) = true ∧ True, (c4 == (0 : Int)) = true ∧ True, (c4 == (0 : Int)) = true ∧ True, (c4 == (1 : Int)) = false ∧ (c4 == (0 : Int)) = true, (c4 == (1 : Int)) = false, True] (by kernel_rfl) (by kernel_rfl) ⟨trivial, trivial, trivial, trivial, ⟨hb5, trivial⟩, ⟨hb5, trivial⟩, ⟨hb5, trivial⟩, ⟨hb5, trivial⟩, ⟨hb6, trivial⟩, ⟨hb6, trivial⟩, ⟨hb6, trivial⟩, ⟨hb5, hb6⟩, hb5, trivial, trivial⟩ ?_
        obtain rfl := Option.some.inj h
        exact postN_to (goal_le (gs := []) (f := []) (by kernel_rfl) (by kernel_rfl))
      · replace h := h_else hb6 h
        refine W_reg tbok ⟨[(3, false), (7, false), (11, false), (12, false)], []⟩ [] [] [(2, .p false .bool false)] [] 0 0 [True, True, True, True, (c4 == (1 : Int)) = false ∧ True, (c4 == (1 : Int)) = false ∧ True, (c4 == (1 : Int)) = false ∧ True, (c4 == (1 : Int)) = false ∧ True, (c4 == (0 : Int)) = false, (c4 == (0 : Int)) = false, (c4 == (0 : Int)) = false, (c4 == (1 : Int)) = false ∧ (c4 == (0 : Int)) = false, (c4 == (1 : Int)) = false, True] (by kernel_rfl) (by kernel_rfl) ⟨trivial, trivial, trivial, trivial, ⟨hb5, trivial⟩, ⟨hb5, trivial⟩, ⟨hb5, trivial⟩, ⟨hb5, trivial⟩, hb6, hb6, hb6, ⟨hb5, hb6⟩, hb5, trivial, trivial⟩ ?_
        obtain rfl := Option.some.inj h
        exact postN_to (goal_le (gs := []) (f := []) (by kernel_rfl) (by kernel_rfl))
  · clear hp1
    obtain ⟨rfl, hle⟩ := hq
    refine use_to ?_ hle
    refine to_then ?_
    refine W_ret ?_
    obtain rfl := Option.some.inj h
    exact Ret_intro [.bool] (by kernel_rfl)

/-- a loop of 'stanza/stanzaref13.Trim': one round -/
def stanzaref13_Trim_L1 (p1 : List (Int × Int × Int × Int)) (to1 : Int) : (Int × Int) → Option ((Int × Int) ⊕ (Int)) := fun ((out4, i2) : Int × Int) =>
  (if (decide (i2 < to1)) = true then (if 0 ≤ i2 ∧ i2 < (p1.length : Int) then ((stanzaref13_Empty ((p1.getD i2.toNat ((0 : Int), ((0 : Int), ((0 : Int), (0 : Int))))).1) ((p1.getD i2.toNat ((0 : Int), ((0 : Int), ((0 : Int), (0 : Int))))).2.1) ((p1.getD i2.toNat ((0 : Int), ((0 : Int), ((0 : Int), (0 : Int))))).2.2.1) ((p1.getD i2.toNat ((0 : Int), ((0 : Int), ((0 : Int), (0 : Int))))).2.2.2)).bind fun (r6 : Bool) =>
  (((if (!r6) = true then some ((IntKind.i64.wrap (i2 + (1 : Int))))
  else some (out4))).bind fun (out6 : Int) => some (Sum.inl (out6, (IntKind.i64.wrap (i2 + (1 : Int))))))) else none)
  else some (Sum.inr out4))

/-- 'stanza/stanzaref13.Trim' -/
def stanzaref13_Trim (p1 : List (Int × Int × Int × Int)) (p2 : List Int) (from1 : Int) (to1 : Int) : Option (Int) :=
  ((iter (stanzaref13_Trim_L1 p1 to1) (from1, from1)).bind fun (out5 : Int) => some out5)

set_option maxRecDepth 100000 in
set_option maxHeartbeats 4000000 in
theorem stanzaref13_Trim_ok (β0 β1 : Bool) (p1 : List (Int × Int × Int × Int)) (p2 : List Int) (from1 : Int) (to1 : Int) (res : Int) (h : stanzaref13_Trim p1 p2 from1 to1 = some res) :
    Pure Try.prog 45 [.agg [.p β0 (.slice (.prod (.int .i64) (.prod (.int .i64) (.prod (.int .i64) (.int .u8))))) p1, .p β1 (.slice (.int .u8)) p2], .p false (.int .i64) from1, .p false (.int .i64) to1] (wrapR (encs false [⟨(.int .i64), res⟩])) := by
  refine Pure.of_body tbok Try.func45 (by kernel_rfl) rfl (Nat.le_of_ble_eq_true rfl) (fun Bw w0 => ?_) rfl
  unfold stanzaref13_Trim at h
  refine W_seq ?_
  refine W_reg tbok ⟨[], []⟩ [] [0] [(1, .p false (.int .i64) from1), (2, .p false (.int .i64) to1), (3, .adr 0 0 2 0)] [(0, .box [.p β0 (.slice (.prod (.int .i64) (.prod (.int .i64) (.prod (.int .i64) (.int .u8))))) p1, .p β1 (.slice (.int .u8)) p2])] 1 0 [True, True] (by kernel_rfl) (by kernel_rfl) ⟨trivial, trivial, trivial⟩ ?_
  refine to_then ?_
  refine W_seq ?_
  refine W_reg tbok ⟨[], []⟩ [] [0] [(1, .p false (.int .i64) from1), (2, .p false (.int .i64) to1), (3, .adr 0 0 2 0), (7, .p false (.int .i64) from1)] [(0, .box [.p β0 (.slice (.prod (.int .i64) (.prod (.int .i64) (.prod (.int .i64) (.int .u8))))) p1, .p β1 (.slice (.int .u8)) p2])] 1 0 [True, True] (by kernel_rfl) (by kernel_rfl) ⟨trivial, trivial, trivial⟩ ?_
  refine to_then ?_
  refine W_seq ?_
  refine W_seq ?_
  refine W_reg tbok ⟨[], []⟩ [] [0] [(2, .p false (.int .i64) to1), (3, .adr 0 0 2 0), (7, .p false (.int .i64) from1), (8, .p false (.int .i64) from1)] [(0, .box [.p β0 (.slice (.prod (.int .i64) (.prod (.int .i64) (.prod (.int .i64) (.int .u8))))) p1, .p β1 (.slice (.int .u8)) p2])] 1 0 [True, True] (by kernel_rfl) (by kernel_rfl) ⟨trivial, trivial, trivial⟩ ?_
  refine to_then ?_
  refine W_block ?_
  obtain ⟨out5, hp4, h⟩ := h_bind h
  refine W.mono (Q := (postX Try.f45.ntmps 0 (fun (out5 : Int) => mkSt [(7, .p false (.int .i64) out5)] [] 0)) out5) (W_iter (f := fun ((out4, i2) : Int × Int) => mkSt [(2, .p false (.int .i64) to1), (3, .adr 0 0 2 0), (7, .p false (.int .i64) out4), (8, .p false (.int .i64) i2)] [(0, .box [.p β0 (.slice (.prod (.int .i64) (.prod (.int .i64) (.prod (.int .i64) (.int .u8))))) p1, .p β1 (.slice (.int .u8)) p2])] 1) (Q := (postX Try.f45.ntmps 0 (fun (out5 : Int) => mkSt [(7, .p false (.int .i64) out5)] [] 0))) hp4 (goal_le (gs := []) (f := [0]) (by kernel_rfl) (by kernel_rfl)) (fun y o ho => ?_)) (fun e σ' hq => ?_)
  · obtain ⟨out4, i2⟩ := y
    replace h := ho
    clear ho hp4
    unfold stanzaref13_Trim_L1 at h
    refine W_seq ?_
    refine W_seq ?_
    refine W_reg tbok ⟨[], []⟩ [] [0] [(2, .p false (.int .i64) to1), (3, .adr 0 0 2 0), (7, .p false (.int .i64) out4), (8, .p false (.int .i64) i2), (13, .p false .bool (decide (i2 < to1)))] [(0, .box [.p β0 (.slice (.prod (.int .i64) (.prod (.int .i64) (.prod (.int .i64) (.int .u8))))) p1, .p β1 (.slice (.int .u8)) p2])] 1 0 [True, True, True] (by kernel_rfl) (by kernel_rfl) ⟨trivial, trivial, trivial, trivial⟩ ?_
    refine to_then ?_
    refine W_cond (b := (decide (i2 < to1))) (β := false) (by kernel_rfl) (fun hb7 => ?_) (fun hb7 => ?_)
    · replace h := h_if hb7 h
      refine W_skip_to ?_
      refine to_then ?_
      refine W_seq ?_
      refine W_block ?_
      refine W_seq ?_
      obtain ⟨c6, h⟩ := h_guard h
      obtain ⟨r6, q6, h⟩ := h_bind h
      refine W_reg tbok ⟨[], [(5, ⟨.p false .bool r6, [false], false, [true], [], []⟩)]⟩ [] [0] [(2, .p false (.int .i64) to1), (3, .adr 0 0 2 0), (7, .p false (.int .i64) out4), (8, .p false (.int .i64) i2), (22, .p false .bool (!r6))] [(0, .box [.p β0 (.slice (.prod (.int .i64) (.prod (.int .i64) (.prod (.int .i64) (.int .u8))))) p1, .p β1 (.slice (.int .u8)) p2])] 1 0 [True, True, True, 0 ≤ i2 ∧ i2 < (p1.length : Int), True, Pure Try.prog 49 [.agg [.p false (.int .i64) ((p1.getD i2.toNat ((0 : Int), ((0 : Int), ((0 : Int), (0 : Int))))).1), .p false (.int .i64) ((p1.getD i2.toNat ((0 : Int), ((0 : Int), ((0 : Int), (0 : Int))))).2.1), .p false (.int .i64) ((p1.getD i2.toNat ((0 : Int), ((0 : Int), ((0 : Int), (0 : Int))))).2.2.1), .p false (.int .u8) ((p1.getD i2.toNat ((0 : Int), ((0 : Int), ((0 : Int), (0 : Int))))).2.2.2)]] (.p false .bool r6), True] (by kernel_rfl) (by kernel_rfl) ⟨trivial, trivial, trivial, c6, trivial, (stanzaref13_Empty_ok ((p1.getD i2.toNat ((0 : Int), ((0 : Int), ((0 : Int), (0 : Int))))).1) ((p1.getD i2.toNat ((0 : Int), ((0 : Int), ((0 : Int), (0 : Int))))).2.1) ((p1.getD i2.toNat ((0 : Int), ((0 : Int), ((0 : Int), (0 : Int))))).2.2.1) ((p1.getD i2.toNat ((0 : Int), ((0 : Int), ((0 : Int), (0 : Int))))).2.2.2) _ q6), trivial, trivial⟩ ?_
      refine to_then ?_
      obtain ⟨out6, hp3, h⟩ := h_bind h
      refine W.mono (Q := (postN Try.f45.ntmps (fun (out6 : Int) => mkSt [(2, .p false (.int .i64) to1), (3, .adr 0 0 2 0), (7, .p false (.int .i64) out6), (8, .p false (.int .i64) i2)] [(0, .box [.p β0 (.slice (.prod (.int .i64) (.prod (.int .i64) (.prod (.int .i64) (.int .u8))))) p1, .p β1 (.slice (.int .u8)) p2])] 1)) out6) ?_ (fun e σ' hq => ?_)
      · replace h := hp3
        clear hp3
        refine W_cond (b := (!r6)) (β := false) (by kernel_rfl) (fun hb9 => ?_) (fun hb9 => ?_)
        · replace h := h_if hb9 h
          refine W_reg tbok ⟨[], []⟩ [] [0] [(2, .p false (.int .i64) to1), (3, .adr 0 0 2 0), (7, .p false (.int .i64) (IntKind.i64.wrap (i2 + (1 : Int)))), (8, .p false (.int .i64) i2)] [(0, .box [.p β0 (.slice (.prod (.int .i64) (.prod (.int .i64) (.prod (.int .i64) (.int .u8))))) p1, .p β1 (.slice (.int .u8)) p2])] 1 0 [True, True, True] (by kernel_rfl) (by kernel_rfl) ⟨trivial, trivial, trivial, trivial⟩ ?_
          obtain rfl := Option.some.inj h
          exact postN_to (goal_le (gs := []) (f := [0]) (by kernel_rfl) (by kernel_rfl))
        · replace h := h_else hb9 h
          refine W_skip_to ?_
          obtain rfl := Option.some.inj h
          exact postN_to (goal_le (gs := []) (f := [0]) (by kernel_rfl) (by kernel_rfl))
      · clear hp3
        obtain ⟨rfl, hle⟩ := hq
        refine use_to ?_ hle
        refine to_block ?_
        refine to_then ?_
        refine W_reg tbok ⟨[], []⟩ [] [0] [(2, .p false (.int .i64) to1), (3, .adr 0 0 2 0), (7, .p false (.int .i64) out6), (8, .p false (.int .i64) (IntKind.i64.wrap (i2 + (1 : Int))))] [(0, .box [.p β0 (.slice (.prod (.int .i64) (.prod (.int .i64) (.prod (.int .i64) (.int .u8))))) p1, .p β1 (.slice (.int .u8)) p2])] 1 0 [True, True, True] (by kernel_rfl) (by kernel_rfl) ⟨trivial, trivial, trivial, trivial⟩ ?_
        obtain rfl := Option.some.inj h
        exact roundB (goal_le (gs := []) (f := [0]) (by kernel_rfl) (by kernel_rfl))
    · replace h := h_else hb7 h
      refine W_exit_to ?_
      refine thenE ?_
      obtain rfl := Option.some.inj h
      refine roundE ?_
      exact postX_to (goal_le (gs := []) (f := []) (by kernel_rfl) (by kernel_rfl))
  · clear hp4
    obtain ⟨rfl, hle⟩ := hq
    refine use_to ?_ hle
    refine blockE_eq ?_
    refine to_then ?_
    refine W_seq ?_
    refine W_reg tbok ⟨[], []⟩ [] [] [(6, .p false (.int .i64) out5)] [] 0 0 [True, True] (by kernel_rfl) (by kernel_rfl) ⟨trivial, trivial, trivial⟩ ?_
    refine to_then ?_
    refine W_ret ?_
    obtain rfl := Option.some.inj h
    exact Ret_intro [(.int .i64)] (by kernel_rfl)

/-- a loop of 'stanza/stanzaref13.Next': one round -/
def stanzaref13_Next_L1 (tab1 : Int) : (Int) → Option ((Int) ⊕ (Int)) := fun (n2 : Int) =>
  (if ¬ tab1 = 0 then (if ((Int.tmod n2 tab1) != (0 : Int)) = true then some (Sum.inl (IntKind.i64.wrap (n2 + (1 : Int))))
  else some (Sum.inr n2)) else none)

/-- 'stanza/stanzaref13.Next' -/
def stanzaref13_Next (c1 : Int) (c2 : Int) (c3 : Int) (c4 : Int) (col1 : Int) (tab1 : Int) : Option (Int) :=
  (if (c4 != (2 : Int)) = true then some (IntKind.i64.wrap (col1 + c3))
  else ((iter (stanzaref13_Next_L1 tab1) (IntKind.i64.wrap (col1 + (1 : Int)))).bind fun (n3 : Int) => some n3))

set_option maxRecDepth 100000 in
set_option maxHeartbeats 4000000 in
theorem stanzaref13_Next_ok (c1 : Int) (c2 : Int) (c3 : Int) (c4 : Int) (col1 : Int) (tab1 : Int) (res : Int) (h : stanzaref13_Next c1 c2 c3 c4 col1 tab1 = some res) :
    Pure Try.prog 30 [.agg [.p false (.int .i64) c1, .p false (.int .i64) c2, .p false (.int .i64) c3, .p false (.int .u8) c4], .p false (.int .i64) col1, .p false (.int .i64) tab1] (wrapR (encs false [⟨(.int .i64), res⟩])) := by
  refine Pure.of_body tbok Try.func30 (by kernel_rfl) rfl (Nat.le_of_ble_eq_true rfl) (fun Bw w0 => ?_) rfl
  unfold stanzaref13_Next at h
  refine W_seq ?_
  refine W_reg tbok ⟨[], []⟩ [] [0] [(1, .p false (.int .i64) col1), (2, .p false (.int .i64) tab1), (3, .adr 0 0 4 0)] [(0, .box [.p false (.int .i64) c1, .p false (.int .i64) c2, .p false (.int .i64) c3, .p false (.int .u8) c4])] 1 0 [True, True] (by kernel_rfl) (by kernel_rfl) ⟨trivial, trivial, trivial⟩ ?_
  refine to_then ?_
  refine W_seq ?_
  refine W_seq ?_
  refine W_reg tbok ⟨[], []⟩ [] [0] [(1, .p false (.int .i64) col1), (2, .p false (.int .i64) tab1), (3, .adr 0 0 4 0), (10, .p false .bool (c4 != (2 : Int)))] [(0, .box [.p false (.int .i64) c1, .p false (.int .i64) c2, .p false (.int .i64) c3, .p false (.int .u8) c4])] 1 0 [True, True, True] (by kernel_rfl) (by kernel_rfl) ⟨trivial, trivial, trivial, trivial⟩ ?_
  refine to_then ?_
  refine W_cond (b := (c4 != (2 : Int))) (β := false) (by kernel_rfl) (fun hb1 => ?_) (fun hb1 => ?_)
  · replace h := h_if hb1 h
    refine W_seq ?_
    refine W_reg tbok ⟨[], []⟩ [] [] [(6, .p false (.int .i64) (IntKind.i64.wrap (col1 + c3)))] [] 0 0 [True, True, True, True, True] (by kernel_rfl) (by kernel_rfl) ⟨trivial, trivial, trivial, trivial, trivial, trivial⟩ ?_
    refine to_then ?_
    refine W_ret ?_
    refine thenQ_ret ?_
    obtain rfl := Option.some.inj h
    exact Ret_intro [(.int .i64)] (by kernel_rfl)
  · replace h := h_else hb1 h
    refine W_skip_to ?_
    refine to_then ?_
    refine W_seq ?_
    refine W_reg tbok ⟨[], []⟩ [] [] [(2, .p false (.int .i64) tab1), (7, .p false (.int .i64) (IntKind.i64.wrap (col1 + (1 : Int))))] [] 0 0 [True, True, True] (by kernel_rfl) (by kernel_rfl) ⟨trivial, trivial, trivial, trivial⟩ ?_
    refine to_then ?_
    refine W_seq ?_
    refine W_block ?_
    obtain ⟨n3, hp1, h⟩ := h_bind h
    refine W.mono (Q := (postX Try.f30.ntmps 0 (fun (n3 : Int) => mkSt [(7, .p false (.int .i64) n3)] [] 0)) n3) (W_iter (f := fun (n2 : Int) => mkSt [(2, .p false (.int .i64) tab1), (7, .p false (.int .i64) n2)] [] 0) (Q := (postX Try.f30.ntmps 0 (fun (n3 : Int) => mkSt [(7, .p false (.int .i64) n3)] [] 0))) hp1 (goal_le (gs := []) (f := []) (by kernel_rfl) (by kernel_rfl)) (fun n2 o ho => ?_)) (fun e σ' hq => ?_)
    · replace h := ho
      clear ho hp1
      unfold stanzaref13_Next_L1 at h
      refine W_seq ?_
      refine W_seq ?_
      obtain ⟨c6, h⟩ := h_guard h
      refine W_reg tbok ⟨[], []⟩ [] [] [(2, .p false (.int .i64) tab1), (7, .p false (.int .i64) n2), (20, .p false .bool ((Int.tmod n2 tab1) != (0 : Int)))] [] 0 0 [True, True, ¬ tab1 = 0, True] (by kernel_rfl) (by kernel_rfl) ⟨trivial, trivial, c6, trivial, trivial⟩ ?_
      refine to_then ?_
      refine W_cond (b := ((Int.tmod n2 tab1) != (0 : Int))) (β := false) (by kernel_rfl) (fun hb4 => ?_) (fun hb4 => ?_)
      · replace h := h_if hb4 h
        refine W_skip_to ?_
        refine to_then ?_
        refine W_block ?_
        refine W_reg tbok ⟨[], []⟩ [] [] [(2, .p false (.int .i64) tab1), (7, .p false (.int .i64) (IntKind.i64.wrap (n2 + (1 : Int))))] [] 0 0 [True, True, True] (by kernel_rfl) (by kernel_rfl) ⟨trivial, trivial, trivial, trivial⟩ ?_
        refine to_block ?_
        obtain rfl := Option.some.inj h
        exact roundB (goal_le (gs := []) (f := []) (by kernel_rfl) (by kernel_rfl))
      · replace h := h_else hb4 h
        refine W_exit_to ?_
        refine thenE ?_
        obtain rfl := Option.some.inj h
        refine roundE ?_
        exact postX_to (goal_le (gs := []) (f := []) (by kernel_rfl) (by kernel_rfl))
    · clear hp1
      obtain ⟨rfl, hle⟩ := hq
      refine use_to ?_ hle
      refine blockE_eq ?_
      refine to_then ?_
      refine W_seq ?_
      refine W_reg tbok ⟨[], []⟩ [] [] [(6, .p false (.int .i64) n3)] [] 0 0 [True, True] (by kernel_rfl) (by kernel_rfl) ⟨trivial, trivial, trivial⟩ ?_
      refine to_then ?_
      refine W_ret ?_
      obtain rfl := Option.some.inj h
      exact Ret_intro [(.int .i64)] (by kernel_rfl)

/-- a loop of 'stanza/stanzaref13.Columns': one round -/
def stanzaref13_Columns_L1 (p1 : List (Int × Int × Int × Int)) (to1 : Int) (tab1 : Int) : (Int × (List Int) × Int) → Option ((Int × (List Int) × Int) ⊕ (List Int)) := fun ((col2, out2, i2) : Int × (List Int) × Int) =>
  (if (decide (i2 < to1)) = true then (if 0 ≤ i2 ∧ i2 < (p1.length : Int) then ((stanzaref13_Next ((p1.getD i2.toNat ((0 : Int), ((0 : Int), ((0 : Int), (0 : Int))))).1) ((p1.getD i2.toNat ((0 : Int), ((0 : Int), ((0 : Int), (0 : Int))))).2.1) ((p1.getD i2.toNat ((0 : Int), ((0 : Int), ((0 : Int), (0 : Int))))).2.2.1) ((p1.getD i2.toNat ((0 : Int), ((0 : Int), ((0 : Int), (0 : Int))))).2.2.2) col2 tab1).bind fun (r6 : Int) =>
  (if (out2.length + ([r6] : List Int).length) * 8 ≤ 140737488355328 ∧ out2.length + ([r6] : List Int).length ≤ 9223372036854775807 then some (Sum.inl (r6, (out2 ++ ([r6] : List Int)), (IntKind.i64.wrap (i2 + (1 : Int))))) else none)) else none)
  else some (Sum.inr out2))

/-- 'stanza/stanzaref13.Columns' -/
def stanzaref13_Columns (p1 : List (Int × Int × Int × Int)) (p2 : List Int) (from1 : Int) (to1 : Int) (tab1 : Int) : Option (List Int) :=
  ((iter (stanzaref13_Columns_L1 p1 to1 tab1) ((0 : Int), ([(0 : Int)] : List Int), from1)).bind fun (out3 : List Int) => some out3)

set_option maxRecDepth 100000 in
set_option maxHeartbeats 4000000 in
theorem stanzaref13_Columns_ok (β0 β1 : Bool) (p1 : List (Int × Int × Int × Int)) (p2 : List Int) (from1 : Int) (to1 : Int) (tab1 : Int) (res : List Int) (h : stanzaref13_Columns p1 p2 from1 to1 tab1 = some res) :
    Pure Try.prog 17 [.agg [.p β0 (.slice (.prod (.int .i64) (.prod (.int .i64) (.prod (.int .i64) (.int .u8))))) p1, .p β1 (.slice (.int .u8)) p2], .p false (.int .i64) from1, .p false (.int .i64) to1, .p false (.int .i64) tab1] (wrapR (encs false [⟨(.slice (.int .i64)), res⟩])) := by
  refine Pure.of_body tbok Try.func17 (by kernel_rfl) rfl (Nat.le_of_ble_eq_true rfl) (fun Bw w0 => ?_) rfl
  unfold stanzaref13_Columns at h
  refine W_seq ?_
  refine W_reg tbok ⟨[], []⟩ [] [0] [(1, .p false (.int .i64) from1), (2, .p false (.int .i64) to1), (3, .p false (.int .i64) tab1), (4, .adr 0 0 2 0)] [(0, .box [.p β0 (.slice (.prod (.int .i64) (.prod (.int .i64) (.prod (.int .i64) (.int .u8))))) p1, .p β1 (.slice (.int .u8)) p2])] 1 0 [True, True] (by kernel_rfl) (by kernel_rfl) ⟨trivial, trivial, trivial⟩ ?_
  refine to_then ?_
  refine W_seq ?_
  refine W_reg tbok ⟨[], []⟩ [] [0] [(1, .p false (.int .i64) from1), (2, .p false (.int .i64) to1), (3, .p false (.int .i64) tab1), (4, .adr 0 0 2 0), (9, .p false (.int .i64) (0 : Int))] [(0, .box [.p β0 (.slice (.prod (.int .i64) (.prod (.int .i64) (.prod (.int .i64) (.int .u8))))) p1, .p β1 (.slice (.int .u8)) p2])] 1 0 [True] (by kernel_rfl) (by kernel_rfl) ⟨trivial, trivial⟩ ?_
  refine to_then ?_
  refine W_seq ?_
  refine W_reg tbok ⟨[], []⟩ [] [0, 1] [(1, .p false (.int .i64) from1), (2, .p false (.int .i64) to1), (3, .p false (.int .i64) tab1), (4, .adr 0 0 2 0), (9, .p false (.int .i64) (0 : Int)), (10, .sl 1)] [(0, .box [.p β0 (.slice (.prod (.int .i64) (.prod (.int .i64) (.prod (.int .i64) (.int .u8))))) p1, .p β1 (.slice (.int .u8)) p2]), (1, .arr 3 (.int .i64) ([(0 : Int)] : List Int))] 2 0 [True, True] (by kernel_rfl) (by kernel_rfl) ⟨trivial, trivial, trivial⟩ ?_
  refine to_then ?_
  refine W_seq ?_
  refine W_seq ?_
  refine W_reg tbok ⟨[], []⟩ [] [0, 1] [(2, .p false (.int .i64) to1), (3, .p false (.int .i64) tab1), (4, .adr 0 0 2 0), (9, .p false (.int .i64) (0 : Int)), (10, .sl 1), (11, .p false (.int .i64) from1)] [(0, .box [.p β0 (.slice (.prod (.int .i64) (.prod (.int .i64) (.prod (.int .i64) (.int .u8))))) p1, .p β1 (.slice (.int .u8)) p2]), (1, .arr 3 (.int .i64) ([(0 : Int)] : List Int))] 2 0 [True, True] (by kernel_rfl) (by kernel_rfl) ⟨trivial, trivial, trivial⟩ ?_
  refine to_then ?_
  refine W_block ?_
  obtain ⟨out3, hp1, h⟩ := h_bind h
  refine W.mono (Q := (postX Try.f17.ntmps 0 (fun (out3 : List Int) => mkSt [(10, .sl 0)] [(0, .arr 3 (.int .i64) out3)] 1)) out3) (W_iter (f := fun ((col2, out2, i2) : Int × (List Int) × Int) => mkSt [(2, .p false (.int .i64) to1), (3, .p false (.int .i64) tab1), (4, .adr 0 0 2 0), (9, .p false (.int .i64) col2), (10, .sl 1), (11, .p false (.int .i64) i2)] [(0, .box [.p β0 (.slice (.prod (.int .i64) (.prod (.int .i64) (.prod (.int .i64) (.int .u8))))) p1, .p β1 (.slice (.int .u8)) p2]), (1, .arr 3 (.int .i64) out2)] 2) (Q := (postX Try.f17.ntmps 0 (fun (out3 : List Int) => mkSt [(10, .sl 0)] [(0, .arr 3 (.int .i64) out3)] 1))) hp1 (goal_le (gs := []) (f := [0, 1]) (by kernel_rfl) (by kernel_rfl)) (fun y o ho => ?_)) (fun e σ' hq => ?_)
  · obtain ⟨col2, out2, i2⟩ := y
    replace h := ho
    clear ho hp1
    unfold stanzaref13_Columns_L1 at h
    refine W_seq ?_
    refine W_seq ?_
    refine W_reg tbok ⟨[], []⟩ [] [0, 1] [(2, .p false (.int .i64) to1), (3, .p false (.int .i64) tab1), (4, .adr 0 0 2 0), (9, .p false (.int .i64) col2), (10, .sl 1), (11, .p false (.int .i64) i2), (16, .p false .bool (decide (i2 < to1)))] [(0, .box [.p β0 (.slice (.prod (.int .i64) (.prod (.int .i64) (.prod (.int .i64) (.int .u8))))) p1, .p β1 (.slice (.int .u8)) p2]), (1, .arr 3 (.int .i64) out2)] 2 0 [True, True, True] (by kernel_rfl) (by kernel_rfl) ⟨trivial, trivial, trivial, trivial⟩ ?_
    refine to_then ?_
    refine W_cond (b := (decide (i2 < to1))) (β := false) (by kernel_rfl) (fun hb3 => ?_) (fun hb3 => ?_)
    · replace h := h_if hb3 h
      refine W_skip_to ?_
      refine to_then ?_
      refine W_seq ?_
      refine W_block ?_
      refine W_seq ?_
      obtain ⟨c10, h⟩ := h_guard h
      obtain ⟨r6, q6, h⟩ := h_bind h
      refine W_reg tbok ⟨[], [(7, ⟨.p false (.int .i64) r6, [false, false, false], false, [true, true, true], [], []⟩)]⟩ [] [0, 1] [(2, .p false (.int .i64) to1), (3, .p false (.int .i64) tab1), (4, .adr 0 0 2 0), (9, .p false (.int .i64) r6), (10, .sl 1), (11, .p false (.int .i64) i2)] [(0, .box [.p β0 (.slice (.prod (.int .i64) (.prod (.int .i64) (.prod (.int .i64) (.int .u8))))) p1, .p β1 (.slice (.int .u8)) p2]), (1, .arr 3 (.int .i64) out2)] 2 0 [True, True, True, 0 ≤ i2 ∧ i2 < (p1.length : Int), True, True, True, Pure Try.prog 30 [.agg [.p false (.int .i64) ((p1.getD i2.toNat ((0 : Int), ((0 : Int), ((0 : Int), (0 : Int))))).1), .p false (.int .i64) ((p1.getD i2.toNat ((0 : Int), ((0 : Int), ((0 : Int), (0 : Int))))).2.1), .p false (.int .i64) ((p1.getD i2.toNat ((0 : Int), ((0 : Int), ((0 : Int), (0 : Int))))).2.2.1), .p false (.int .u8) ((p1.getD i2.toNat ((0 : Int), ((0 : Int), ((0 : Int), (0 : Int))))).2.2.2)], .p false (.int .i64) col2, .p false (.int .i64) tab1] (.p false (.int .i64) r6), True] (by kernel_rfl) (by kernel_rfl) ⟨trivial, trivial, trivial, c10, trivial, trivial, trivial, (stanzaref13_Next_ok ((p1.getD i2.toNat ((0 : Int), ((0 : Int), ((0 : Int), (0 : Int))))).1) ((p1.getD i2.toNat ((0 : Int), ((0 : Int), ((0 : Int), (0 : Int))))).2.1) ((p1.getD i2.toNat ((0 : Int), ((0 : Int), ((0 : Int), (0 : Int))))).2.2.1) ((p1.getD i2.toNat ((0 : Int), ((0 : Int), ((0 : Int), (0 : Int))))).2.2.2) col2 tab1 _ q6), trivial, trivial⟩ ?_
      refine to_then ?_
      obtain ⟨c12, h⟩ := h_guard h
      refine W_reg tbok ⟨[], []⟩ [] [0, 26] [(2, .p false (.int .i64) to1), (3, .p false (.int .i64) tab1), (4, .adr 0 0 2 0), (9, .p false (.int .i64) r6), (10, .sl 1), (11, .p false (.int .i64) i2)] [(0, .box [.p β0 (.slice (.prod (.int .i64) (.prod (.int .i64) (.prod (.int .i64) (.int .u8))))) p1, .p β1 (.slice (.int .u8)) p2]), (1, .arr 3 (.int .i64) (out2 ++ ([r6] : List Int)))] 2 0 [True, True, True, (out2.length + ([r6] : List Int).length) * 8 ≤ 140737488355328 ∧ out2.length + ([r6] : List Int).length ≤ 9223372036854775807, True] (by kernel_rfl) (by kernel_rfl) ⟨trivial, trivial, trivial, c12, trivial, trivial⟩ ?_
      refine to_block ?_
      refine to_then ?_
      refine W_reg tbok ⟨[], []⟩ [] [0, 1] [(2, .p false (.int .i64) to1), (3, .p false (.int .i64) tab1), (4, .adr 0 0 2 0), (9, .p false (.int .i64) r6), (10, .sl 1), (11, .p false (.int .i64) (IntKind.i64.wrap (i2 + (1 : Int))))] [(0, .box [.p β0 (.slice (.prod (.int .i64) (.prod (.int .i64) (.prod (.int .i64) (.int .u8))))) p1, .p β1 (.slice (.int .u8)) p2]), (1, .arr 3 (.int .i64) (out2 ++ ([r6] : List Int)))] 2 0 [True, True, True] (by kernel_rfl) (by kernel_rfl) ⟨trivial, trivial, trivial, trivial⟩ ?_
      obtain rfl := Option.some.inj h
      exact roundB (goal_le (gs := []) (f := [0, 1]) (by kernel_rfl) (by kernel_rfl))
    · replace h := h_else hb3 h
      refine W_exit_to ?_
      refine thenE ?_
      obtain rfl := Option.some.inj h
      refine roundE ?_
      exact postX_to (goal_le (gs := []) (f := [1]) (by kernel_rfl) (by kernel_rfl))
  · clear hp1
    obtain ⟨rfl, hle⟩ := hq
    refine use_to ?_ hle
    refine blockE_eq ?_
    refine to_then ?_
    refine W_seq ?_
    refine W_reg tbok ⟨[], []⟩ [] [0] [(8, .sl 0)] [(0, .arr 3 (.int .i64) out3)] 1 0 [True, True] (by kernel_rfl) (by kernel_rfl) ⟨trivial, trivial, trivial⟩ ?_
    refine to_then ?_
    refine W_ret ?_
    obtain rfl := Option.some.inj h
    exact Ret_intro [(.slice (.int .i64))] (by kernel_rfl)

/-- 'stanza/stanzaref13.Cells' -/
def stanzaref13_Cells (p1 : List (Int × Int × Int × Int)) (p2 : List Int) (from1 : Int) (to1 : Int) (end1 : Int) (tab1 : Int) : Option (Int) :=
  ((stanzaref13_Trim p1 p2 from1 to1).bind fun (r3 : Int) =>
  ((stanzaref13_Columns p1 p2 from1 r3 tab1).bind fun (r4 : List Int) =>
  (if 0 ≤ (IntKind.i64.wrap ((r4.length : Int) - (1 : Int))) ∧ (IntKind.i64.wrap ((r4.length : Int) - (1 : Int))) < (r4.length : Int) then (((if (end1 == (3 : Int)) = true then some ((IntKind.i64.wrap ((r4.getD ((IntKind.i64.wrap ((r4.length : Int) - (1 : Int))).toNat) (0 : Int)) + (1 : Int))))
  else some ((r4.getD ((IntKind.i64.wrap ((r4.length : Int) - (1 : Int))).toNat) (0 : Int))))).bind fun (n1 : Int) => some n1) else none)))

set_option maxRecDepth 100000 in
set_option maxHeartbeats 4000000 in
theorem stanzaref13_Cells_ok (β0 β1 : Bool) (p1 : List (Int × Int × Int × Int)) (p2 : List Int) (from1 : Int) (to1 : Int) (end1 : Int) (tab1 : Int) (res : Int) (h : stanzaref13_Cells p1 p2 from1 to1 end1 tab1 = some res) :
    Pure Try.prog 41 [.agg [.p β0 (.slice (.prod (.int .i64) (.prod (.int .i64) (.prod (.int .i64) (.int .u8))))) p1, .p β1 (.slice (.int .u8)) p2], .p false (.int .i64) from1, .p false (.int .i64) to1, .p false (.int .u8) end1, .p false (.int .i64) tab1] (wrapR (encs false [⟨(.int .i64), res⟩])) := by
  refine Pure.of_body tbok Try.func41 (by kernel_rfl) rfl (Nat.le_of_ble_eq_true rfl) (fun Bw w0 => ?_) rfl
  unfold stanzaref13_Cells at h
  refine W_seq ?_
  refine W_reg tbok ⟨[], []⟩ [] [0] [(1, .p false (.int .i64) from1), (2, .p false (.int .i64) to1), (3, .p false (.int .u8) end1), (4, .p false (.int .i64) tab1), (5, .adr 0 0 2 0)] [(0, .box [.p β0 (.slice (.prod (.int .i64) (.prod (.int .i64) (.prod (.int .i64) (.int .u8))))) p1, .p β1 (.slice (.int .u8)) p2])] 1 0 [True, True] (by kernel_rfl) (by kernel_rfl) ⟨trivial, trivial, trivial⟩ ?_
  refine to_then ?_
  refine W_seq ?_
  obtain ⟨r3, q3, h⟩ := h_bind h
  obtain ⟨r4, q4, h⟩ := h_bind h
  refine W_regD tbok mixed ⟨[], [(5, ⟨.p false (.int .i64) r3, [false, false, false], false, [true, true, true], [], []⟩), (7, ⟨.p false (.slice (.int .i64)) r4, [false, false, false, false], false, [true, true, true, true], [], []⟩)]⟩ [] [] [(3, .p false (.int .u8) end1), (11, .p false (.slice (.int .i64)) r4)] [] 0 0 [True, True, True, True, True, Pure Try.prog 45 [.agg [.p β0 (.slice (.prod (.int .i64) (.prod (.int .i64) (.prod (.int .i64) (.int .u8))))) p1, .p β1 (.slice (.int .u8)) p2], .p false (.int .i64) from1, .p false (.int .i64) to1] (.p false (.int .i64) r3), True, Pure Try.prog 17 [.agg [.p β0 (.slice (.prod (.int .i64) (.prod (.int .i64) (.prod (.int .i64) (.int .u8))))) p1, .p β1 (.slice (.int .u8)) p2], .p false (.int .i64) from1, .p false (.int .i64) r3, .p false (.int .i64) tab1] (.p false (.slice (.int .i64)) r4), True] (by kernel_rfl) (by kernel_rfl) ⟨trivial, trivial, trivial, trivial, trivial, (stanzaref13_Trim_ok β0 β1 p1 p2 from1 to1 _ q3), trivial, (stanzaref13_Columns_ok β0 β1 p1 p2 from1 r3 tab1 _ q4), trivial, trivial⟩ ?_
  refine to_then ?_
  refine W_seq ?_
  obtain ⟨c2, h⟩ := h_guard h
  refine W_reg tbok ⟨[], []⟩ [] [] [(3, .p false (.int .u8) end1), (12, .p false (.int .i64) (r4.getD ((IntKind.i64.wrap ((r4.length : Int) - (1 : Int))).toNat) (0 : Int)))] [] 0 0 [True, True, True, True, 0 ≤ (IntKind.i64.wrap ((r4.length : Int) - (1 : Int))) ∧ (IntKind.i64.wrap ((r4.length : Int) - (1 : Int))) < (r4.length : Int), True, True] (by kernel_rfl) (by kernel_rfl) ⟨trivial, trivial, trivial, trivial, c2, trivial, trivial, trivial⟩ ?_
  refine to_then ?_
  refine W_seq ?_
  refine W_seq ?_
  refine W_reg tbok ⟨[], []⟩ [] [] [(12, .p false (.int .i64) (r4.getD ((IntKind.i64.wrap ((r4.length : Int) - (1 : Int))).toNat) (0 : Int))), (28, .p false .bool (end1 == (3 : Int)))] [] 0 0 [True, True] (by kernel_rfl) (by kernel_rfl) ⟨trivial, trivial, trivial⟩ ?_
  refine to_then ?_
  obtain ⟨n1, hp1, h⟩ := h_bind h
  refine W.mono (Q := (postN Try.f41.ntmps (fun (n1 : Int) => mkSt [(12, .p false (.int .i64) n1)] [] 0)) n1) ?_ (fun e σ' hq => ?_)
  · replace h := hp1
    clear hp1
    refine W_cond (b := (end1 == (3 : Int))) (β := false) (by kernel_rfl) (fun hb2 => ?_) (fun hb2 => ?_)
    · replace h := h_if hb2 h
      refine W_reg tbok ⟨[], []⟩ [] [] [(12, .p false (.int .i64) (IntKind.i64.wrap ((r4.getD ((IntKind.i64.wrap ((r4.length : Int) - (1 : Int))).toNat) (0 : Int)) + (1 : Int))))] [] 0 0 [True, True, True] (by kernel_rfl) (by kernel_rfl) ⟨trivial, trivial, trivial, trivial⟩ ?_
      obtain rfl := Option.some.inj h
      exact postN_to (goal_le (gs := []) (f := []) (by kernel_rfl) (by kernel_rfl))
    · replace h := h_else hb2 h
      refine W_skip_to ?_
      obtain rfl := Option.some.inj h
      exact postN_to (goal_le (gs := []) (f := []) (by kernel_rfl) (by kernel_rfl))
  · clear hp1
    obtain ⟨rfl, hle⟩ := hq
    refine use_to ?_ hle
    refine to_then ?_
    refine W_seq ?_
    refine W_reg tbok ⟨[], []⟩ [] [] [(10, .p false (.int .i64) n1)] [] 0 0 [True, True] (by kernel_rfl) (by kernel_rfl) ⟨trivial, trivial, trivial⟩ ?_
    refine to_then ?_
    refine W_ret ?_
    obtain rfl := Option.some.inj h
    exact Ret_intro [(.int .i64)] (by kernel_rfl)

/-- 'stanza/stanzaref13.Line' -/
def stanzaref13_Line (p1 : List (Int × Int × Int × Int)) (p2 : List Int) (from1 : Int) (to1 : Int) (end1 : Int) (tab1 : Int) : Option (Int × Int × Int × Int) :=
  ((stanzaref13_Cells p1 p2 from1 to1 end1 tab1).bind fun (r2 : Int) =>
  some (from1, (to1, (r2, end1))))

set_option maxRecDepth 100000 in
set_option maxHeartbeats 4000000 in
theorem stanzaref13_Line_ok (β0 β1 : Bool) (p1 : List (Int × Int × Int × Int)) (p2 : List Int) (from1 : Int) (to1 : Int) (end1 : Int) (tab1 : Int) (res : Int × Int × Int × Int) (h : stanzaref13_Line p1 p2 from1 to1 end1 tab1 = some res) :
    Pure Try.prog 42 [.agg [.p β0 (.slice (.prod (.int .i64) (.prod (.int .i64) (.prod (.int .i64) (.int .u8))))) p1, .p β1 (.slice (.int .u8)) p2], .p false (.int .i64) from1, .p false (.int .i64) to1, .p false (.int .u8) end1, .p false (.int .i64) tab1] (wrapR (encs false [⟨(.prod (.int .i64) (.prod (.int .i64) (.prod (.int .i64) (.int .u8)))), res⟩])) := by
  refine Pure.of_body tbok Try.func42 (by kernel_rfl) rfl (Nat.le_of_ble_eq_true rfl) (fun Bw w0 => ?_) rfl
  unfold stanzaref13_Line at h
  refine W_seq ?_
  refine W_reg tbok ⟨[], []⟩ [] [0, 8] [(1, .p false (.int .i64) from1), (2, .p false (.int .i64) to1), (3, .p false (.int .u8) end1), (4, .p false (.int .i64) tab1), (5, .adr 0 0 2 0), (10, .adr 1 0 4 0)] [(0, .box [.p β0 (.slice (.prod (.int .i64) (.prod (.int .i64) (.prod (.int .i64) (.int .u8))))) p1, .p β1 (.slice (.int .u8)) p2]), (1, .box [.p false (.int .i64) (0 : Int), .p false (.int .i64) (0 : Int), .p false (.int .i64) (0 : Int), .p false (.int .u8) (0 : Int)])] 2 0 [True, True] (by kernel_rfl) (by kernel_rfl) ⟨trivial, trivial, trivial⟩ ?_
  refine to_then ?_
  refine W_seq ?_
  obtain ⟨r2, q2, h⟩ := h_bind h
  refine W_reg tbok ⟨[], [(7, ⟨.p false (.int .i64) r2, [false, false, false, false, false], false, [true, true, true, true, true], [], []⟩)]⟩ [] [1] [(10, .adr 0 0 4 0)] [(0, .box [.p false (.int .i64) from1, .p false (.int .i64) to1, .p false (.int .i64) r2, .p false (.int .u8) end1])] 1 0 [True, True, True, True, True, True, True, Pure Try.prog 41 [.agg [.p β0 (.slice (.prod (.int .i64) (.prod (.int .i64) (.prod (.int .i64) (.int .u8))))) p1, .p β1 (.slice (.int .u8)) p2], .p false (.int .i64) from1, .p false (.int .i64) to1, .p false (.int .u8) end1, .p false (.int .i64) tab1] (.p false (.int .i64) r2), True, True, True] (by kernel_rfl) (by kernel_rfl) ⟨trivial, trivial, trivial, trivial, trivial, trivial, trivial, (stanzaref13_Cells_ok β0 β1 p1 p2 from1 to1 end1 tab1 _ q2), trivial, trivial, trivial, trivial⟩ ?_
  refine to_then ?_
  refine W_ret ?_
  obtain rfl := Option.some.inj h
  exact Ret_intro [(.prod (.int .i64) (.prod (.int .i64) (.prod (.int .i64) (.int .u8))))] (by kernel_rfl)

/-- a loop of 'stanza/stanzaref13.First': one round -/
def stanzaref13_First_L1 (d1 : List (Int × Int × Int × Int)) (d2 : List Int) (x1 : Int) (x2 : Int) (x3 : Int) (i3 : Int) : (Int × Int × Int) → Option ((Int × Int × Int) ⊕ (Int × Int)) := fun ((v67, v68, v69) : Int × Int × Int) =>
  (if (decide (v69 ≤ x1)) = true then ((stanzaref13_Cells d1 d2 i3 v69 (0 : Int) x3).bind fun (r82 : Int) =>
  (((if (decide (r82 ≤ x2)) = true then (((if 0 ≤ v69 ∧ v69 < (d2.length : Int) then (if ((d2.getD v69.toNat (0 : Int)) != (0 : Int)) = true then (if 0 ≤ v69 ∧ v69 < (d2.length : Int) then ((stanzaref13_Cells d1 d2 i3 v69 (d2.getD v69.toNat (0 : Int)) x3).bind fun (r88 : Int) =>
  some ((decide (r88 ≤ x2)))) else none)
  else some (false)) else none)).bind fun (v75 : Bool) => (if v75 = true then some ((v69, v69))
  else some ((v67, v69))))
  else some ((v67, v68)))).bind fun ((v73, v74) : Int × Int) => some (Sum.inl (v73, v74, (IntKind.i64.wrap (v69 + (1 : Int)))))))
  else some (Sum.inr (v67, v68)))

/-- a loop of 'stanza/stanzaref13.First': one round -/
def stanzaref13_First_L2 (d1 : List (Int × Int × Int × Int)) (d2 : List Int) (x1 : Int) (x2 : Int) (x3 : Int) : (Int × List (Int × Int × Int × Int)) → Option ((Int × List (Int × Int × Int × Int)) ⊕ (List (Int × Int × Int × Int))) := fun ((i3, v54) : Int × List (Int × Int × Int × Int)) =>
  (if (decide (i3 < x1)) = true then ((iter (stanzaref13_First_L1 d1 d2 x1 x2 x3 i3) ((-1 : Int), (-1 : Int), (IntKind.i64.wrap (i3 + (1 : Int))))).bind fun ((v70, v71) : Int × Int) => (((if (decide (v70 ≥ (0 : Int))) = true then (if 0 ≤ v70 ∧ v70 < (d2.length : Int) then some ((v70, (d2.getD v70.toNat (0 : Int)))) else none)
  else (((if (decide (v71 < (0 : Int))) = true then some ((IntKind.i64.wrap (i3 + (1 : Int))))
  else some (v71))).bind fun (v80 : Int) => (((if 0 ≤ v80 ∧ v80 < (d2.length : Int) then (if ((d2.getD v80.toNat (0 : Int)) == (2 : Int)) = true then some (true)
  else (if 0 ≤ v80 ∧ v80 < (d2.length : Int) then some (((d2.getD v80.toNat (0 : Int)) == (1 : Int))) else none)) else none)).bind fun (v81 : Bool) => (if v81 = true then (if 0 ≤ v80 ∧ v80 < (d2.length : Int) then some ((v80, (d2.getD v80.toNat (0 : Int)))) else none)
  else some ((v80, (4 : Int)))))))).bind fun ((v78, v79) : Int × Int) => ((stanzaref13_Line d1 d2 i3 v78 v79 x3).bind fun (r93 : Int × Int × Int × Int) =>
  (if (v54.length + ([(r93.1, (r93.2.1, (r93.2.2.1, r93.2.2.2)))] : List (Int × Int × Int × Int)).length) * 32 ≤ 140737488355328 ∧ v54.length + ([(r93.1, (r93.2.1, (r93.2.2.1, r93.2.2.2)))] : List (Int × Int × Int × Int)).length ≤ 9223372036854775807 then some (Sum.inl (v78, (v54 ++ ([(r93.1, (r93.2.1, (r93.2.2.1, r93.2.2.2)))] : List (Int × Int × Int × Int))))) else none))))
  else some (Sum.inr v54))

/-- 'stanza/stanzaref13.First' -/
def stanzaref13_First (d1 : List (Int × Int × Int × Int)) (d2 : List Int) (i1 : Int) (x1 : Int) (x2 : Int) (x3 : Int) (x4 : Int) (x5 : Int) (x6 : Int) (x7 : Nat) : Option (List (Int × Int × Int × Int)) :=
  ((iter (stanzaref13_First_L2 d1 d2 x1 x2 x3) (i1, ([] : List (Int × Int × Int × Int)))).bind fun (v55 : List (Int × Int × Int × Int)) => some v55)

set_option maxRecDepth 100000 in
set_option maxHeartbeats 4000000 in
theorem stanzaref13_First_ok (β0 β1 : Bool) (d1 : List (Int × Int × Int × Int)) (d2 : List Int) (i1 : Int) (x1 : Int) (x2 : Int) (x3 : Int) (x4 : Int) (x5 : Int) (x6 : Int) (x7 : Nat) (res : List (Int × Int × Int × Int)) (h : stanzaref13_First d1 d2 i1 x1 x2 x3 x4 x5 x6 x7 = some res) :
    Pure Try.prog 39 [.agg [.p β0 (.slice (.prod (.int .i64) (.prod (.int .i64) (.prod (.int .i64) (.int .u8))))) d1, .p β1 (.slice (.int .u8)) d2], .p false (.int .i64) i1, .p false (.int .i64) x1, .agg [.p false (.int .i64) x2, .p false (.int .i64) x3, .p false (.int .u8) x4, .p false (.int .i64) x5, .p false (.int .i64) x6, .p false .flt x7]] (wrapR (encs false [⟨(.slice (.prod (.int .i64) (.prod (.int .i64) (.prod (.int .i64) (.int .u8))))), res⟩])) := by
  refine Pure.of_body tbok Try.func39 (by kernel_rfl) rfl (Nat.le_of_ble_eq_true rfl) (fun Bw w0 => ?_) rfl
  unfold stanzaref13_First at h
  refine W_seq ?_
  refine W_reg tbok ⟨[], []⟩ [] [0, 8] [(1, .p false (.int .i64) i1), (2, .p false (.int .i64) x1), (4, .adr 0 0 2 0), (7, .adr 1 0 6 0)] [(0, .box [.p β0 (.slice (.prod (.int .i64) (.prod (.int .i64) (.prod (.int .i64) (.int .u8))))) d1, .p β1 (.slice (.int .u8)) d2]), (1, .box [.p false (.int .i64) x2, .p false (.int .i64) x3, .p false (.int .u8) x4, .p false (.int .i64) x5, .p false (.int .i64) x6, .p false .flt x7])] 2 0 [True, True, True] (by kernel_rfl) (by kernel_rfl) ⟨trivial, trivial, trivial, trivial⟩ ?_
  refine to_then ?_
  refine W_seq ?_
  refine W_reg tbok ⟨[], []⟩ [] [0, 1] [(1, .p false (.int .i64) i1), (2, .p false (.int .i64) x1), (4, .adr 0 0 2 0), (7, .adr 1 0 6 0), (9, .nils)] [(0, .box [.p β0 (.slice (.prod (.int .i64) (.prod (.int .i64) (.prod (.int .i64) (.int .u8))))) d1, .p β1 (.slice (.int .u8)) d2]), (1, .box [.p false (.int .i64) x2, .p false (.int .i64) x3, .p false (.int .u8) x4, .p false (.int .i64) x5, .p false (.int .i64) x6, .p false .flt x7])] 2 0 [True] (by kernel_rfl) (by kernel_rfl) ⟨trivial, trivial⟩ ?_
  refine to_then ?_
  refine W_seq ?_
  refine W_block ?_
  obtain ⟨v55, hp46, h⟩ := h_bind h
  refine W.mono (Q := (postX Try.f39.ntmps 0 (fun (v55 : List (Int × Int × Int × Int)) => mkSt [(9, .sl 0)] [(0, .arr 60 (.prod (.int .i64) (.prod (.int .i64) (.prod (.int .i64) (.int .u8)))) v55)] 1)) v55) (W_iter (f := fun ((i3, v54) : Int × List (Int × Int × Int × Int)) => mkSt [(1, .p false (.int .i64) i3), (2, .p false (.int .i64) x1), (4, .adr 0 0 2 0), (7, .adr 1 0 6 0), (9, .sl 2)] [(0, .box [.p β0 (.slice (.prod (.int .i64) (.prod (.int .i64) (.prod (.int .i64) (.int .u8))))) d1, .p β1 (.slice (.int .u8)) d2]), (1, .box [.p false (.int .i64) x2, .p false (.int .i64) x3, .p false (.int .u8) x4, .p false (.int .i64) x5, .p false (.int .i64) x6, .p false .flt x7]), (2, .arr 60 (.prod (.int .i64) (.prod (.int .i64) (.prod (.int .i64) (.int .u8)))) v54)] 3) (Q := (postX Try.f39.ntmps 0 (fun (v55 : List (Int × Int × Int × Int)) => mkSt [(9, .sl 0)] [(0, .arr 60 (.prod (.int .i64) (.prod (.int .i64) (.prod (.int .i64) (.int .u8)))) v55)] 1))) hp46 (goal_le (gs := [.nilS 9 2 60 (.prod (.int .i64) (.prod (.int .i64) (.prod (.int .i64) (.int .u8))))]) (f := [0, 1, 2]) (by kernel_rfl) (by kernel_rfl)) (fun y o ho => ?_)) (fun e σ' hq => ?_)
  · obtain ⟨i3, v54⟩ := y
    replace h := ho
    clear ho hp46
    unfold stanzaref13_First_L2 at h
    refine W_seq ?_
    refine W_seq ?_
    refine W_reg tbok ⟨[], []⟩ [] [0, 1, 2] [(1, .p false (.int .i64) i3), (2, .p false (.int .i64) x1), (4, .adr 0 0 2 0), (7, .adr 1 0 6 0), (9, .sl 2), (16, .p false .bool (decide (i3 < x1)))] [(0, .box [.p β0 (.slice (.prod (.int .i64) (.prod (.int .i64) (.prod (.int .i64) (.int .u8))))) d1, .p β1 (.slice (.int .u8)) d2]), (1, .box [.p false (.int .i64) x2, .p false (.int .i64) x3, .p false (.int .u8) x4, .p false (.int .i64) x5, .p false (.int .i64) x6, .p false .flt x7]), (2, .arr 60 (.prod (.int .i64) (.prod (.int .i64) (.prod (.int .i64) (.int .u8)))) v54)] 3 0 [True, True, True] (by kernel_rfl) (by kernel_rfl) ⟨trivial, trivial, trivial, trivial⟩ ?_
    refine to_then ?_
    refine W_cond (b := (decide (i3 < x1))) (β := false) (by kernel_rfl) (fun hb97 => ?_) (fun hb97 => ?_)
    · replace h := h_if hb97 h
      refine W_skip_to ?_
      refine to_then ?_
      refine W_block ?_
      refine W_seq ?_
      refine W_reg tbok ⟨[], []⟩ [] [0, 1, 2] [(1, .p false (.int .i64) i3), (2, .p false (.int .i64) x1), (4, .adr 0 0 2 0), (7, .adr 1 0 6 0), (9, .sl 2), (10, .p false (.int .i64) (-1 : Int)), (11, .p false (.int .i64) (-1 : Int))] [(0, .box [.p β0 (.slice (.prod (.int .i64) (.prod (.int .i64) (.prod (.int .i64) (.int .u8))))) d1, .p β1 (.slice (.int .u8)) d2]), (1, .box [.p false (.int .i64) x2, .p false (.int .i64) x3, .p false (.int .u8) x4, .p false (.int .i64) x5, .p false (.int .i64) x6, .p false .flt x7]), (2, .arr 60 (.prod (.int .i64) (.prod (.int .i64) (.prod (.int .i64) (.int .u8)))) v54)] 3 0 [True, True] (by kernel_rfl) (by kernel_rfl) ⟨trivial, trivial, trivial⟩ ?_
      refine to_then ?_
      refine W_seq ?_
      refine W_seq ?_
      refine W_reg tbok ⟨[], []⟩ [] [0, 1, 2] [(1, .p false (.int .i64) i3), (2, .p false (.int .i64) x1), (4, .adr 0 0 2 0), (7, .adr 1 0 6 0), (9, .sl 2), (10, .p false (.int .i64) (-1 : Int)), (11, .p false (.int .i64) (-1 : Int)), (12, .p false (.int .i64) (IntKind.i64.wrap (i3 + (1 : Int))))] [(0, .box [.p β0 (.slice (.prod (.int .i64) (.prod (.int .i64) (.prod (.int .i64) (.int .u8))))) d1, .p β1 (.slice (.int .u8)) d2]), (1, .box [.p false (.int .i64) x2, .p false (.int .i64) x3, .p false (.int .u8) x4, .p false (.int .i64) x5, .p false (.int .i64) x6, .p false .flt x7]), (2, .arr 60 (.prod (.int .i64) (.prod (.int .i64) (.prod (.int .i64) (.int .u8)))) v54)] 3 0 [True, True, True] (by kernel_rfl) (by kernel_rfl) ⟨trivial, trivial, trivial, trivial⟩ ?_
      refine to_then ?_
      refine W_block ?_
      obtain ⟨r90, hp40, h⟩ := h_bind h
      refine W.mono (Q := (postX Try.f39.ntmps 2 (fun ((v70, v71) : Int × Int) => mkSt [(1, .p false (.int .i64) i3), (2, .p false (.int .i64) x1), (4, .adr 0 0 2 0), (7, .adr 1 0 6 0), (9, .sl 2), (10, .p false (.int .i64) v70), (11, .p false (.int .i64) v71)] [(0, .box [.p β0 (.slice (.prod (.int .i64) (.prod (.int .i64) (.prod (.int .i64) (.int .u8))))) d1, .p β1 (.slice (.int .u8)) d2]), (1, .box [.p false (.int .i64) x2, .p false (.int .i64) x3, .p false (.int .u8) x4, .p false (.int .i64) x5, .p false (.int .i64) x6, .p false .flt x7]), (2, .arr 60 (.prod (.int .i64) (.prod (.int .i64) (.prod (.int .i64) (.int .u8)))) v54)] 3)) r90) (W_iter (f := fun ((v67, v68, v69) : Int × Int × Int) => mkSt [(1, .p false (.int .i64) i3), (2, .p false (.int .i64) x1), (4, .adr 0 0 2 0), (7, .adr 1 0 6 0), (9, .sl 2), (10, .p false (.int .i64) v67), (11, .p false (.int .i64) v68), (12, .p false (.int .i64) v69)] [(0, .box [.p β0 (.slice (.prod (.int .i64) (.prod (.int .i64) (.prod (.int .i64) (.int .u8))))) d1, .p β1 (.slice (.int .u8)) d2]), (1, .box [.p false (.int .i64) x2, .p false (.int .i64) x3, .p false (.int .u8) x4, .p false (.int .i64) x5, .p false (.int .i64) x6, .p false .flt x7]), (2, .arr 60 (.prod (.int .i64) (.prod (.int .i64) (.prod (.int .i64) (.int .u8)))) v54)] 3) (Q := (postX Try.f39.ntmps 2 (fun ((v70, v71) : Int × Int) => mkSt [(1, .p false (.int .i64) i3), (2, .p false (.int .i64) x1), (4, .adr 0 0 2 0), (7, .adr 1 0 6 0), (9, .sl 2), (10, .p false (.int .i64) v70), (11, .p false (.int .i64) v71)] [(0, .box [.p β0 (.slice (.prod (.int .i64) (.prod (.int .i64) (.prod (.int .i64) (.int .u8))))) d1, .p β1 (.slice (.int .u8)) d2]), (1, .box [.p false (.int .i64) x2, .p false (.int .i64) x3, .p false (.int .u8) x4, .p false (.int .i64) x5, .p false (.int .i64) x6, .p false .flt x7]), (2, .arr 60 (.prod (.int .i64) (.prod (.int .i64) (.prod (.int .i64) (.int .u8)))) v54)] 3))) hp40 (goal_le (gs := []) (f := [0, 1, 2]) (by kernel_rfl) (by kernel_rfl)) (fun y o ho => ?_)) (fun e σ' hq => ?_)
      · obtain ⟨v67, v68, v69⟩ := y
        replace h := ho
        clear ho hp40
        unfold stanzaref13_First_L1 at h
        refine W_seq ?_
        refine W_seq ?_
        refine W_reg tbok ⟨[], []⟩ [] [0, 1, 2] [(1, .p false (.int .i64) i3), (2, .p false (.int .i64) x1), (4, .adr 0 0 2 0), (7, .adr 1 0 6 0), (9, .sl 2), (10, .p false (.int .i64) v67), (11, .p false (.int .i64) v68), (12, .p false (.int .i64) v69), (21, .p false .bool (decide (v69 ≤ x1)))] [(0, .box [.p β0 (.slice (.prod (.int .i64) (.prod (.int .i64) (.prod (.int .i64) (.int .u8))))) d1, .p β1 (.slice (.int .u8)) d2]), (1, .box [.p false (.int .i64) x2, .p false (.int .i64) x3, .p false (.int .u8) x4, .p false (.int .i64) x5, .p false (.int .i64) x6, .p false .flt x7]), (2, .arr 60 (.prod (.int .i64) (.prod (.int .i64) (.prod (.int .i64) (.int .u8)))) v54)] 3 0 [True, True, True] (by kernel_rfl) (by kernel_rfl) ⟨trivial, trivial, trivial, trivial⟩ ?_
        refine to_then ?_
        refine W_cond (b := (decide (v69 ≤ x1))) (β := false) (by kernel_rfl) (fun hb120 => ?_) (fun hb120 => ?_)
        · replace h := h_if hb120 h
          refine W_skip_to ?_
          refine to_then ?_
          refine W_seq ?_
          refine W_block ?_
          refine W_seq ?_
          obtain ⟨r82, q70, h⟩ := h_bind h
          refine W_regD tbok mixed ⟨[], [(5, ⟨.p false (.int .i64) r82, [false, false, false, false, false], false, [true, true, true, true, true], [], []⟩)]⟩ [] [0, 1, 2] [(1, .p false (.int .i64) i3), (2, .p false (.int .i64) x1), (4, .adr 0 0 2 0), (7, .adr 1 0 6 0), (9, .sl 2), (10, .p false (.int .i64) v67), (11, .p false (.int .i64) v68), (12, .p false (.int .i64) v69), (32, .p false .bool (decide (r82 ≤ x2)))] [(0, .box [.p β0 (.slice (.prod (.int .i64) (.prod (.int .i64) (.prod (.int .i64) (.int .u8))))) d1, .p β1 (.slice (.int .u8)) d2]), (1, .box [.p false (.int .i64) x2, .p false (.int .i64) x3, .p false (.int .u8) x4, .p false (.int .i64) x5, .p false (.int .i64) x6, .p false .flt x7]), (2, .arr 60 (.prod (.int .i64) (.prod (.int .i64) (.prod (.int .i64) (.int .u8)))) v54)] 3 0 [True, True, True, True, True, Pure Try.prog 41 [.agg [.p β0 (.slice (.prod (.int .i64) (.prod (.int .i64) (.prod (.int .i64) (.int .u8))))) d1, .p β1 (.slice (.int .u8)) d2], .p false (.int .i64) i3, .p false (.int .i64) v69, .p false (.int .u8) (0 : Int), .p false (.int .i64) x3] (.p false (.int .i64) r82), True, True, True] (by kernel_rfl) (by kernel_rfl) ⟨trivial, trivial, trivial, trivial, trivial, (stanzaref13_Cells_ok β0 β1 d1 d2 i3 v69 (0 : Int) x3 _ q70), trivial, trivial, trivial, trivial⟩ ?_
          refine to_then ?_
          obtain ⟨r89, hp39, h⟩ := h_bind h
          refine W.mono (Q := (postN Try.f39.ntmps (fun ((v73, v74) : Int × Int) => mkSt [(1, .p false (.int .i64) i3), (2, .p false (.int .i64) x1), (4, .adr 0 0 2 0), (7, .adr 1 0 6 0), (9, .sl 2), (10, .p false (.int .i64) v73), (11, .p false (.int .i64) v74), (12, .p false (.int .i64) v69)] [(0, .box [.p β0 (.slice (.prod (.int .i64) (.prod (.int .i64) (.prod (.int .i64) (.int .u8))))) d1, .p β1 (.slice (.int .u8)) d2]), (1, .box [.p false (.int .i64) x2, .p false (.int .i64) x3, .p false (.int .u8) x4, .p false (.int .i64) x5, .p false (.int .i64) x6, .p false .flt x7]), (2, .arr 60 (.prod (.int .i64) (.prod (.int .i64) (.prod (.int .i64) (.int .u8)))) v54)] 3)) r89) ?_ (fun e σ' hq => ?_)
          · replace h := hp39
            clear hp39
            refine W_cond (b := (decide (r82 ≤ x2))) (β := false) (by kernel_rfl) (fun hb126 => ?_) (fun hb126 => ?_)
            · replace h := h_if hb126 h
              refine W_seq ?_
              refine W_reg tbok ⟨[], []⟩ [] [0, 1, 2] [(1, .p false (.int .i64) i3), (2, .p false (.int .i64) x1), (4, .adr 0 0 2 0), (7, .adr 1 0 6 0), (9, .sl 2), (10, .p false (.int .i64) v67), (11, .p false (.int .i64) v69), (12, .p false (.int .i64) v69)] [(0, .box [.p β0 (.slice (.prod (.int .i64) (.prod (.int .i64) (.prod (.int .i64) (.int .u8))))) d1, .p β1 (.slice (.int .u8)) d2]), (1, .box [.p false (.int .i64) x2, .p false (.int .i64) x3, .p false (.int .u8) x4, .p false (.int .i64) x5, .p false (.int .i64) x6, .p false .flt x7]), (2, .arr 60 (.prod (.int .i64) (.prod (.int .i64) (.prod (.int .i64) (.int .u8)))) v54)] 3 0 [True, True] (by kernel_rfl) (by kernel_rfl) ⟨trivial, trivial, trivial⟩ ?_
              refine to_then ?_
              refine W_seq ?_
              obtain ⟨v75, hp38, h⟩ := h_bind h
              refine W.mono (Q := (postN Try.f39.ntmps (fun (v75 : Bool) => mkSt [(1, .p false (.int .i64) i3), (2, .p false (.int .i64) x1), (4, .adr 0 0 2 0), (7, .adr 1 0 6 0), (9, .sl 2), (10, .p false (.int .i64) v67), (11, .p false (.int .i64) v69), (12, .p false (.int .i64) v69), (55, .p false .bool v75)] [(0, .box [.p β0 (.slice (.prod (.int .i64) (.prod (.int .i64) (.prod (.int .i64) (.int .u8))))) d1, .p β1 (.slice (.int .u8)) d2]), (1, .box [.p false (.int .i64) x2, .p false (.int .i64) x3, .p false (.int .u8) x4, .p false (.int .i64) x5, .p false (.int .i64) x6, .p false .flt x7]), (2, .arr 60 (.prod (.int .i64) (.prod (.int .i64) (.prod (.int .i64) (.int .u8)))) v54)] 3)) v75) ?_ (fun e σ' hq => ?_)
              · replace h := hp38
                clear hp38
                obtain ⟨c151, h⟩ := h_guard h
                rcases Bool.eq_false_or_eq_true ((d2.getD v69.toNat (0 : Int)) != (0 : Int)) with hb129 | hb129
                · replace h := h_if hb129 h
                  obtain ⟨c152, h⟩ := h_guard h
                  obtain ⟨r88, q76, h⟩ := h_bind h
                  refine W_regD tbok mixed ⟨[(6, true), (21, true)], [(17, ⟨.p false (.int .i64) r88, [false, false, false, false, false], false, [true, true, true, true, true], [], []⟩)]⟩ [] [0, 1, 2] [(1, .p false (.int .i64) i3), (2, .p false (.int .i64) x1), (4, .adr 0 0 2 0), (7, .adr 1 0 6 0), (9, .sl 2), (10, .p false (.int .i64) v67), (11, .p false (.int .i64) v69), (12, .p false (.int .i64) v69), (55, .p false .bool (decide (r88 ≤ x2)))] [(0, .box [.p β0 (.slice (.prod (.int .i64) (.prod (.int .i64) (.prod (.int .i64) (.int .u8))))) d1, .p β1 (.slice (.int .u8)) d2]), (1, .box [.p false (.int .i64) x2, .p false (.int .i64) x3, .p false (.int .u8) x4, .p false (.int .i64) x5, .p false (.int .i64) x6, .p false .flt x7]), (2, .arr 60 (.prod (.int .i64) (.prod (.int .i64) (.prod (.int .i64) (.int .u8)))) v54)] 3 0 [True, True, True, 0 ≤ v69 ∧ v69 < (d2.length : Int), True, True, True, ((d2.getD v69.toNat (0 : Int)) != (0 : Int)) = true ∧ True, ((d2.getD v69.toNat (0 : Int)) != (0 : Int)) = true ∧ True, ((d2.getD v69.toNat (0 : Int)) != (0 : Int)) = true ∧ True, ((d2.getD v69.toNat (0 : Int)) != (0 : Int)) = true ∧ True, ((d2.getD v69.toNat (0 : Int)) != (0 : Int)) = true ∧ True, ((d2.getD v69.toNat (0 : Int)) != (0 : Int)) = true ∧ True, ((d2.getD v69.toNat (0 : Int)) != (0 : Int)) = true ∧ 0 ≤ v69 ∧ v69 < (d2.length : Int), ((d2.getD v69.toNat (0 : Int)) != (0 : Int)) = true ∧ True, ((d2.getD v69.toNat (0 : Int)) != (0 : Int)) = true ∧ True, ((d2.getD v69.toNat (0 : Int)) != (0 : Int)) = true ∧ True, ((d2.getD v69.toNat (0 : Int)) != (0 : Int)) = true ∧ Pure Try.prog 41 [.agg [.p β0 (.slice (.prod (.int .i64) (.prod (.int .i64) (.prod (.int .i64) (.int .u8))))) d1, .p β1 (.slice (.int .u8)) d2], .p false (.int .i64) i3, .p false (.int .i64) v69, .p false (.int .u8) (d2.getD v69.toNat (0 : Int)), .p false (.int .i64) x3] (.p false (.int .i64) r88), ((d2.getD v69.toNat (0 : Int)) != (0 : Int)) = true ∧ True, ((d2.getD v69.toNat (0 : Int)) != (0 : Int)) = true ∧ True, ((d2.getD v69.toNat (0 : Int)) != (0 : Int)) = true ∧ True, ((d2.getD v69.toNat (0 : Int)) != (0 : Int)) = true] (by kernel_rfl) (by kernel_rfl) ⟨trivial, trivial, trivial, c151, trivial, trivial, trivial, ⟨hb129, trivial⟩, ⟨hb129, trivial⟩, ⟨hb129, trivial⟩, ⟨hb129, trivial⟩, ⟨hb129, trivial⟩, ⟨hb129, trivial⟩, ⟨hb129, c152⟩, ⟨hb129, trivial⟩, ⟨hb129, trivial⟩, ⟨hb129, trivial⟩, ⟨hb129, (stanzaref13_Cells_ok β0 β1 d1 d2 i3 v69 (d2.getD v69.toNat (0 : Int)) x3 _ q76)⟩, ⟨hb129, trivial⟩, ⟨hb129, trivial⟩, ⟨hb129, trivial⟩, hb129, trivial⟩ ?_
                  obtain rfl := Option.some.inj h
                  exact postN_to (goal_le (gs := []) (f := [0, 1, 2]) (by kernel_rfl) (by kernel_rfl))
                · replace h := h_else hb129 h
                  refine W_regD tbok mixed ⟨[(6, false), (21, false)], []⟩ [] [0, 1, 2] [(1, .p false (.int .i64) i3), (2, .p false (.int .i64) x1), (4, .adr 0 0 2 0), (7, .adr 1 0 6 0), (9, .sl 2), (10, .p false (.int .i64) v67), (11, .p false (.int .i64) v69), (12, .p false (.int .i64) v69), (55, .p false .bool false)] [(0, .box [.p β0 (.slice (.prod (.int .i64) (.prod (.int .i64) (.prod (.int .i64) (.int .u8))))) d1, .p β1 (.slice (.int .u8)) d2]), (1, .box [.p false (.int .i64) x2, .p false (.int .i64) x3, .p false (.int .u8) x4, .p false (.int .i64) x5, .p false (.int .i64) x6, .p false .flt x7]), (2, .arr 60 (.prod (.int .i64) (.prod (.int .i64) (.prod (.int .i64) (.int .u8)))) v54)] 3 0 [True, True, True, 0 ≤ v69 ∧ v69 < (d2.length : Int), True, True, True, ((d2.getD v69.toNat (0 : Int)) != (0 : Int)) = false, ((d2.getD v69.toNat (0 : Int)) != (0 : Int)) = false, ((d2.getD v69.toNat (0 : Int)) != (0 : Int)) = false, ((d2.getD v69.toNat (0 : Int)) != (0 : Int)) = false, ((d2.getD v69.toNat (0 : Int)) != (0 : Int)) = false, ((d2.getD v69.toNat (0 : Int)) != (0 : Int)) = false, ((d2.getD v69.toNat (0 : Int)) != (0 : Int)) = false, ((d2.getD v69.toNat (0 : Int)) != (0 : Int)) = false, ((d2.getD v69.toNat (0 : Int)) != (0 : Int)) = false, ((d2.getD v69.toNat (0 : Int)) != (0 : Int)) = false, ((d2.getD v69.toNat (0 : Int)) != (0 : Int)) = false, ((d2.getD v69.toNat (0 : Int)) != (0 : Int)) = false, ((d2.getD v69.toNat (0 : Int)) != (0 : Int)) = false, ((d2.getD v69.toNat (0 : Int)) != (0 : Int)) = false, ((d2.getD v69.toNat (0 : Int)) != (0 : Int)) = false] (by kernel_rfl) (by kernel_rfl) ⟨trivial, trivial, trivial, c151, trivial, trivial, trivial, hb129, hb129, hb129, hb129, hb129, hb129, hb129, hb129, hb129, hb129, hb129, hb129, hb129, hb129, hb129, trivial⟩ ?_
                  obtain rfl := Option.some.inj h
                  exact postN_to (goal_le (gs := []) (f := [0, 1, 2]) (by kernel_rfl) (by kernel_rfl))
              · clear hp38
                obtain ⟨rfl, hle⟩ := hq
                refine use_to ?_ hle
                refine to_then ?_
                refine W_cond (b := v75) (β := false) (by kernel_rfl) (fun hb130 => ?_) (fun hb130 => ?_)
                · replace h := h_if hb130 h
                  refine W_reg tbok ⟨[], []⟩ [] [0, 1, 2] [(1, .p false (.int .i64) i3), (2, .p false (.int .i64) x1), (4, .adr 0 0 2 0), (7, .adr 1 0 6 0), (9, .sl 2), (10, .p false (.int .i64) v69), (11, .p false (.int .i64) v69), (12, .p false (.int .i64) v69)] [(0, .box [.p β0 (.slice (.prod (.int .i64) (.prod (.int .i64) (.prod (.int .i64) (.int .u8))))) d1, .p β1 (.slice (.int .u8)) d2]), (1, .box [.p false (.int .i64) x2, .p false (.int .i64) x3, .p false (.int .u8) x4, .p false (.int .i64) x5, .p false (.int .i64) x6, .p false .flt x7]), (2, .arr 60 (.prod (.int .i64) (.prod (.int .i64) (.prod (.int .i64) (.int .u8)))) v54)] 3 0 [True, True] (by kernel_rfl) (by kernel_rfl) ⟨trivial, trivial, trivial⟩ ?_
                  obtain rfl := Option.some.inj h
                  exact postN_to (goal_le (gs := []) (f := [0, 1, 2]) (by kernel_rfl) (by kernel_rfl))
                · replace h := h_else hb130 h
                  refine W_skip_to ?_
                  obtain rfl := Option.some.inj h
                  exact postN_to (goal_le (gs := []) (f := [0, 1, 2]) (by kernel_rfl) (by kernel_rfl))
            · replace h := h_else hb126 h
              refine W_skip_to ?_
              obtain rfl := Option.some.inj h
              exact postN_to (goal_le (gs := []) (f := [0, 1, 2]) (by kernel_rfl) (by kernel_rfl))
          · clear hp39
            obtain ⟨v73, v74⟩ := r89
            obtain ⟨rfl, hle⟩ := hq
            refine use_to ?_ hle
            refine to_block ?_
            refine to_then ?_
            refine W_reg tbok ⟨[], []⟩ [] [0, 1, 2] [(1, .p false (.int .i64) i3), (2, .p false (.int .i64) x1), (4, .adr 0 0 2 0), (7, .adr 1 0 6 0), (9, .sl 2), (10, .p false (.int .i64) v73), (11, .p false (.int .i64) v74), (12, .p false (.int .i64) (IntKind.i64.wrap (v69 + (1 : Int))))] [(0, .box [.p β0 (.slice (.prod (.int .i64) (.prod (.int .i64) (.prod (.int .i64) (.int .u8))))) d1, .p β1 (.slice (.int .u8)) d2]), (1, .box [.p false (.int .i64) x2, .p false (.int .i64) x3, .p false (.int .u8) x4, .p false (.int .i64) x5, .p false (.int .i64) x6, .p false .flt x7]), (2, .arr 60 (.prod (.int .i64) (.prod (.int .i64) (.prod (.int .i64) (.int .u8)))) v54)] 3 0 [True, True, True] (by kernel_rfl) (by kernel_rfl) ⟨trivial, trivial, trivial, trivial⟩ ?_
            obtain rfl := Option.some.inj h
            exact roundB (goal_le (gs := []) (f := [0, 1, 2]) (by kernel_rfl) (by kernel_rfl))
        · replace h := h_else hb120 h
          refine W_exit_to ?_
          refine thenE ?_
          obtain rfl := Option.some.inj h
          refine roundE ?_
          exact postX_to (goal_le (gs := []) (f := [0, 1, 2]) (by kernel_rfl) (by kernel_rfl))
      · clear hp40
        obtain ⟨v70, v71⟩ := r90
        obtain ⟨rfl, hle⟩ := hq
        refine use_to ?_ hle
        refine blockE_eq ?_
        refine to_then ?_
        refine W_seq ?_
        refine W_reg tbok ⟨[], []⟩ [] [0, 1, 2] [(1, .p false (.int .i64) i3), (2, .p false (.int .i64) x1), (4, .adr 0 0 2 0), (7, .adr 1 0 6 0), (9, .sl 2), (10, .p false (.int .i64) v70), (11, .p false (.int .i64) v71), (13, .p false (.int .u8) (4 : Int))] [(0, .box [.p β0 (.slice (.prod (.int .i64) (.prod (.int .i64) (.prod (.int .i64) (.int .u8))))) d1, .p β1 (.slice (.int .u8)) d2]), (1, .box [.p false (.int .i64) x2, .p false (.int .i64) x3, .p false (.int .u8) x4, .p false (.int .i64) x5, .p false (.int .i64) x6, .p false .flt x7]), (2, .arr 60 (.prod (.int .i64) (.prod (.int .i64) (.prod (.int .i64) (.int .u8)))) v54)] 3 0 [True] (by kernel_rfl) (by kernel_rfl) ⟨trivial, trivial⟩ ?_
        refine to_then ?_
        refine W_seq ?_
        refine W_seq ?_
        refine W_reg tbok ⟨[], []⟩ [] [0, 1, 2] [(1, .p false (.int .i64) i3), (2, .p false (.int .i64) x1), (4, .adr 0 0 2 0), (7, .adr 1 0 6 0), (9, .sl 2), (10, .p false (.int .i64) v70), (11, .p false (.int .i64) v71), (13, .p false (.int .u8) (4 : Int)), (58, .p false .bool (decide (v70 ≥ (0 : Int))))] [(0, .box [.p β0 (.slice (.prod (.int .i64) (.prod (.int .i64) (.prod (.int .i64) (.int .u8))))) d1, .p β1 (.slice (.int .u8)) d2]), (1, .box [.p false (.int .i64) x2, .p false (.int .i64) x3, .p false (.int .u8) x4, .p false (.int .i64) x5, .p false (.int .i64) x6, .p false .flt x7]), (2, .arr 60 (.prod (.int .i64) (.prod (.int .i64) (.prod (.int .i64) (.int .u8)))) v54)] 3 0 [True, True] (by kernel_rfl) (by kernel_rfl) ⟨trivial, trivial, trivial⟩ ?_
        refine to_then ?_
        obtain ⟨r91, hp45, h⟩ := h_bind h
        refine W.mono (Q := (postN Try.f39.ntmps (fun ((v78, v79) : Int × Int) => mkSt [(1, .p false (.int .i64) i3), (2, .p false (.int .i64) x1), (4, .adr 0 0 2 0), (7, .adr 1 0 6 0), (9, .sl 2), (11, .p false (.int .i64) v78), (13, .p false (.int .u8) v79)] [(0, .box [.p β0 (.slice (.prod (.int .i64) (.prod (.int .i64) (.prod (.int .i64) (.int .u8))))) d1, .p β1 (.slice (.int .u8)) d2]), (1, .box [.p false (.int .i64) x2, .p false (.int .i64) x3, .p false (.int .u8) x4, .p false (.int .i64) x5, .p false (.int .i64) x6, .p false .flt x7]), (2, .arr 60 (.prod (.int .i64) (.prod (.int .i64) (.prod (.int .i64) (.int .u8)))) v54)] 3)) r91) ?_ (fun e σ' hq => ?_)
        · replace h := hp45
          clear hp45
          refine W_cond (b := (decide (v70 ≥ (0 : Int)))) (β := false) (by kernel_rfl) (fun hb138 => ?_) (fun hb138 => ?_)
          · replace h := h_if hb138 h
            refine W_seq ?_
            refine W_reg tbok ⟨[], []⟩ [] [0, 1, 2] [(1, .p false (.int .i64) i3), (2, .p false (.int .i64) x1), (4, .adr 0 0 2 0), (7, .adr 1 0 6 0), (9, .sl 2), (10, .p false (.int .i64) v70), (11, .p false (.int .i64) v70)] [(0, .box [.p β0 (.slice (.prod (.int .i64) (.prod (.int .i64) (.prod (.int .i64) (.int .u8))))) d1, .p β1 (.slice (.int .u8)) d2]), (1, .box [.p false (.int .i64) x2, .p false (.int .i64) x3, .p false (.int .u8) x4, .p false (.int .i64) x5, .p false (.int .i64) x6, .p false .flt x7]), (2, .arr 60 (.prod (.int .i64) (.prod (.int .i64) (.prod (.int .i64) (.int .u8)))) v54)] 3 0 [True, True] (by kernel_rfl) (by kernel_rfl) ⟨trivial, trivial, trivial⟩ ?_
            refine to_then ?_
            obtain ⟨c164, h⟩ := h_guard h
            refine W_reg tbok ⟨[], []⟩ [] [0, 1, 2] [(1, .p false (.int .i64) i3), (2, .p false (.int .i64) x1), (4, .adr 0 0 2 0), (7, .adr 1 0 6 0), (9, .sl 2), (11, .p false (.int .i64) v70), (13, .p false (.int .u8) (d2.getD v70.toNat (0 : Int)))] [(0, .box [.p β0 (.slice (.prod (.int .i64) (.prod (.int .i64) (.prod (.int .i64) (.int .u8))))) d1, .p β1 (.slice (.int .u8)) d2]), (1, .box [.p false (.int .i64) x2, .p false (.int .i64) x3, .p false (.int .u8) x4, .p false (.int .i64) x5, .p false (.int .i64) x6, .p false .flt x7]), (2, .arr 60 (.prod (.int .i64) (.prod (.int .i64) (.prod (.int .i64) (.int .u8)))) v54)] 3 0 [True, True, True, 0 ≤ v70 ∧ v70 < (d2.length : Int), True, True] (by kernel_rfl) (by kernel_rfl) ⟨trivial, trivial, trivial, c164, trivial, trivial, trivial⟩ ?_
            obtain rfl := Option.some.inj h
            exact postN_to (goal_le (gs := []) (f := [0, 1, 2]) (by kernel_rfl) (by kernel_rfl))
          · replace h := h_else hb138 h
            refine W_seq ?_
            refine W_seq ?_
            refine W_reg tbok ⟨[], []⟩ [] [0, 1, 2] [(1, .p false (.int .i64) i3), (2, .p false (.int .i64) x1), (4, .adr 0 0 2 0), (7, .adr 1 0 6 0), (9, .sl 2), (11, .p false (.int .i64) v71), (13, .p false (.int .u8) (4 : Int)), (66, .p false .bool (decide (v71 < (0 : Int))))] [(0, .box [.p β0 (.slice (.prod (.int .i64) (.prod (.int .i64) (.prod (.int .i64) (.int .u8))))) d1, .p β1 (.slice (.int .u8)) d2]), (1, .box [.p false (.int .i64) x2, .p false (.int .i64) x3, .p false (.int .u8) x4, .p false (.int .i64) x5, .p false (.int .i64) x6, .p false .flt x7]), (2, .arr 60 (.prod (.int .i64) (.prod (.int .i64) (.prod (.int .i64) (.int .u8)))) v54)] 3 0 [True, True] (by kernel_rfl) (by kernel_rfl) ⟨trivial, trivial, trivial⟩ ?_
            refine to_then ?_
            obtain ⟨v80, hp43, h⟩ := h_bind h
            refine W.mono (Q := (postN Try.f39.ntmps (fun (v80 : Int) => mkSt [(1, .p false (.int .i64) i3), (2, .p false (.int .i64) x1), (4, .adr 0 0 2 0), (7, .adr 1 0 6 0), (9, .sl 2), (11, .p false (.int .i64) v80), (13, .p false (.int .u8) (4 : Int))] [(0, .box [.p β0 (.slice (.prod (.int .i64) (.prod (.int .i64) (.prod (.int .i64) (.int .u8))))) d1, .p β1 (.slice (.int .u8)) d2]), (1, .box [.p false (.int .i64) x2, .p false (.int .i64) x3, .p false (.int .u8) x4, .p false (.int .i64) x5, .p false (.int .i64) x6, .p false .flt x7]), (2, .arr 60 (.prod (.int .i64) (.prod (.int .i64) (.prod (.int .i64) (.int .u8)))) v54)] 3)) v80) ?_ (fun e σ' hq => ?_)
            · replace h := hp43
              clear hp43
              refine W_cond (b := (decide (v71 < (0 : Int)))) (β := false) (by kernel_rfl) (fun hb140 => ?_) (fun hb140 => ?_)
              · replace h := h_if hb140 h
                refine W_reg tbok ⟨[], []⟩ [] [0, 1, 2] [(1, .p false (.int .i64) i3), (2, .p false (.int .i64) x1), (4, .adr 0 0 2 0), (7, .adr 1 0 6 0), (9, .sl 2), (11, .p false (.int .i64) (IntKind.i64.wrap (i3 + (1 : Int)))), (13, .p false (.int .u8) (4 : Int))] [(0, .box [.p β0 (.slice (.prod (.int .i64) (.prod (.int .i64) (.prod (.int .i64) (.int .u8))))) d1, .p β1 (.slice (.int .u8)) d2]), (1, .box [.p false (.int .i64) x2, .p false (.int .i64) x3, .p false (.int .u8) x4, .p false (.int .i64) x5, .p false (.int .i64) x6, .p false .flt x7]), (2, .arr 60 (.prod (.int .i64) (.prod (.int .i64) (.prod (.int .i64) (.int .u8)))) v54)] 3 0 [True, True, True] (by kernel_rfl) (by kernel_rfl) ⟨trivial, trivial, trivial, trivial⟩ ?_
                obtain rfl := Option.some.inj h
                exact postN_to (goal_le (gs := []) (f := [0, 1, 2]) (by kernel_rfl) (by kernel_rfl))
              · replace h := h_else hb140 h
                refine W_skip_to ?_
                obtain rfl := Option.some.inj h
                exact postN_to (goal_le (gs := []) (f := [0, 1, 2]) (by kernel_rfl) (by kernel_rfl))
            · clear hp43
              obtain ⟨rfl, hle⟩ := hq
              refine use_to ?_ hle
              refine to_then ?_
              refine W_seq ?_
              obtain ⟨v81, hp44, h⟩ := h_bind h
              refine W.mono (Q := (postN Try.f39.ntmps (fun (v81 : Bool) => mkSt [(1, .p false (.int .i64) i3), (2, .p false (.int .i64) x1), (4, .adr 0 0 2 0), (7, .adr 1 0 6 0), (9, .sl 2), (11, .p false (.int .i64) v80), (13, .p false (.int .u8) (4 : Int)), (82, .p false .bool v81)] [(0, .box [.p β0 (.slice (.prod (.int .i64) (.prod (.int .i64) (.prod (.int .i64) (.int .u8))))) d1, .p β1 (.slice (.int .u8)) d2]), (1, .box [.p false (.int .i64) x2, .p false (.int .i64) x3, .p false (.int .u8) x4, .p false (.int .i64) x5, .p false (.int .i64) x6, .p false .flt x7]), (2, .arr 60 (.prod (.int .i64) (.prod (.int .i64) (.prod (.int .i64) (.int .u8)))) v54)] 3)) v81) ?_ (fun e σ' hq => ?_)
              · replace h := hp44
                clear hp44
                obtain ⟨c169, h⟩ := h_guard h
                rcases Bool.eq_false_or_eq_true ((d2.getD v80.toNat (0 : Int)) == (2 : Int)) with hb143 | hb143
                · replace h := h_if hb143 h
                  refine W_reg tbok ⟨[(6, true), (13, true)], []⟩ [] [0, 1, 2] [(1, .p false (.int .i64) i3), (2, .p false (.int .i64) x1), (4, .adr 0 0 2 0), (7, .adr 1 0 6 0), (9, .sl 2), (11, .p false (.int .i64) v80), (13, .p false (.int .u8) (4 : Int)), (82, .p false .bool true)] [(0, .box [.p β0 (.slice (.prod (.int .i64) (.prod (.int .i64) (.prod (.int .i64) (.int .u8))))) d1, .p β1 (.slice (.int .u8)) d2]), (1, .box [.p false (.int .i64) x2, .p false (.int .i64) x3, .p false (.int .u8) x4, .p false (.int .i64) x5, .p false (.int .i64) x6, .p false .flt x7]), (2, .arr 60 (.prod (.int .i64) (.prod (.int .i64) (.prod (.int .i64) (.int .u8)))) v54)] 3 0 [True, True, True, 0 ≤ v80 ∧ v80 < (d2.length : Int), True, True, True, ((d2.getD v80.toNat (0 : Int)) == (2 : Int)) = true, ((d2.getD v80.toNat (0 : Int)) == (2 : Int)) = true, ((d2.getD v80.toNat (0 : Int)) == (2 : Int)) = true, ((d2.getD v80.toNat (0 : Int)) == (2 : Int)) = true, ((d2.getD v80.toNat (0 : Int)) == (2 : Int)) = true, ((d2.getD v80.toNat (0 : Int)) == (2 : Int)) = true, ((d2.getD v80.toNat (0 : Int)) == (2 : Int)) = true] (by kernel_rfl) (by kernel_rfl) ⟨trivial, trivial, trivial, c169, trivial, trivial, trivial, hb143, hb143, hb143, hb143, hb143, hb143, hb143, trivial⟩ ?_
                  obtain rfl := Option.some.inj h
                  exact postN_to (goal_le (gs := []) (f := [0, 1, 2]) (by kernel_rfl) (by kernel_rfl))
                · replace h := h_else hb143 h
                  obtain ⟨c170, h⟩ := h_guard h
                  refine W_reg tbok ⟨[(6, false), (13, false)], []⟩ [] [0, 1, 2] [(1, .p false (.int .i64) i3), (2, .p false (.int .i64) x1), (4, .adr 0 0 2 0), (7, .adr 1 0 6 0), (9, .sl 2), (11, .p false (.int .i64) v80), (13, .p false (.int .u8) (4 : Int)), (82, .p false .bool ((d2.getD v80.toNat (0 : Int)) == (1 : Int)))] [(0, .box [.p β0 (.slice (.prod (.int .i64) (.prod (.int .i64) (.prod (.int .i64) (.int .u8))))) d1, .p β1 (.slice (.int .u8)) d2]), (1, .box [.p false (.int .i64) x2, .p false (.int .i64) x3, .p false (.int .u8) x4, .p false (.int .i64) x5, .p false (.int .i64) x6, .p false .flt x7]), (2, .arr 60 (.prod (.int .i64) (.prod (.int .i64) (.prod (.int .i64) (.int .u8)))) v54)] 3 0 [True, True, True, 0 ≤ v80 ∧ v80 < (d2.length : Int), True, True, True, ((d2.getD v80.toNat (0 : Int)) == (2 : Int)) = false ∧ True, ((d2.getD v80.toNat (0 : Int)) == (2 : Int)) = false ∧ True, ((d2.getD v80.toNat (0 : Int)) == (2 : Int)) = false ∧ True, ((d2.getD v80.toNat (0 : Int)) == (2 : Int)) = false ∧ 0 ≤ v80 ∧ v80 < (d2.length : Int), ((d2.getD v80.toNat (0 : Int)) == (2 : Int)) = false ∧ True, ((d2.getD v80.toNat (0 : Int)) == (2 : Int)) = false ∧ True, ((d2.getD v80.toNat (0 : Int)) == (2 : Int)) = false] (by kernel_rfl) (by kernel_rfl) ⟨trivial, trivial, trivial, c169, trivial, trivial, trivial, ⟨hb143, trivial⟩, ⟨hb143, trivial⟩, ⟨hb143, trivial⟩, ⟨hb143, c170⟩, ⟨hb143, trivial⟩, ⟨hb143, trivial⟩, hb143, trivial⟩ ?_
                  obtain rfl := Option.some.inj h
                  exact postN_to (goal_le (gs := []) (f := [0, 1, 2]) (by kernel_rfl) (by kernel_rfl))
              · clear hp44
                obtain ⟨rfl, hle⟩ := hq
                refine use_to ?_ hle
                refine to_then ?_
                refine W_cond (b := v81) (β := false) (by kernel_rfl) (fun hb144 => ?_) (fun hb144 => ?_)
                · replace h := h_if hb144 h
                  obtain ⟨c172, h⟩ := h_guard h
                  refine W_reg tbok ⟨[], []⟩ [] [0, 1, 2] [(1, .p false (.int .i64) i3), (2, .p false (.int .i64) x1), (4, .adr 0 0 2 0), (7, .adr 1 0 6 0), (9, .sl 2), (11, .p false (.int .i64) v80), (13, .p false (.int .u8) (d2.getD v80.toNat (0 : Int)))] [(0, .box [.p β0 (.slice (.prod (.int .i64) (.prod (.int .i64) (.prod (.int .i64) (.int .u8))))) d1, .p β1 (.slice (.int .u8)) d2]), (1, .box [.p false (.int .i64) x2, .p false (.int .i64) x3, .p false (.int .u8) x4, .p false (.int .i64) x5, .p false (.int .i64) x6, .p false .flt x7]), (2, .arr 60 (.prod (.int .i64) (.prod (.int .i64) (.prod (.int .i64) (.int .u8)))) v54)] 3 0 [True, True, True, 0 ≤ v80 ∧ v80 < (d2.length : Int), True, True] (by kernel_rfl) (by kernel_rfl) ⟨trivial, trivial, trivial, c172, trivial, trivial, trivial⟩ ?_
                  obtain rfl := Option.some.inj h
                  exact postN_to (goal_le (gs := []) (f := [0, 1, 2]) (by kernel_rfl) (by kernel_rfl))
                · replace h := h_else hb144 h
                  refine W_skip_to ?_
                  obtain rfl := Option.some.inj h
                  exact postN_to (goal_le (gs := []) (f := [0, 1, 2]) (by kernel_rfl) (by kernel_rfl))
        · clear hp45
          obtain ⟨v78, v79⟩ := r91
          obtain ⟨rfl, hle⟩ := hq
          refine use_to ?_ hle
          refine to_then ?_
          refine W_seq ?_
          obtain ⟨r93, q78, h⟩ := h_bind h
          obtain ⟨c174, h⟩ := h_guard h
          refine W_reg tbok ⟨[], [(7, ⟨.agg [.p false (.int .i64) r93.1, .p false (.int .i64) r93.2.1, .p false (.int .i64) r93.2.2.1, .p false (.int .u8) r93.2.2.2], [false, false, false, false, false], false, [true, true, true, true, true], [], []⟩)]⟩ [] [0, 1, 75] [(2, .p false (.int .i64) x1), (4, .adr 0 0 2 0), (7, .adr 1 0 6 0), (9, .sl 2), (11, .p false (.int .i64) v78)] [(0, .box [.p β0 (.slice (.prod (.int .i64) (.prod (.int .i64) (.prod (.int .i64) (.int .u8))))) d1, .p β1 (.slice (.int .u8)) d2]), (1, .box [.p false (.int .i64) x2, .p false (.int .i64) x3, .p false (.int .u8) x4, .p false (.int .i64) x5, .p false (.int .i64) x6, .p false .flt x7]), (2, .arr 60 (.prod (.int .i64) (.prod (.int .i64) (.prod (.int .i64) (.int .u8)))) (v54 ++ ([(r93.1, (r93.2.1, (r93.2.2.1, r93.2.2.2)))] : List (Int × Int × Int × Int))))] 3 0 [True, True, True, True, True, True, True, Pure Try.prog 42 [.agg [.p β0 (.slice (.prod (.int .i64) (.prod (.int .i64) (.prod (.int .i64) (.int .u8))))) d1, .p β1 (.slice (.int .u8)) d2], .p false (.int .i64) i3, .p false (.int .i64) v78, .p false (.int .u8) v79, .p false (.int .i64) x3] (.agg [.p false (.int .i64) r93.1, .p false (.int .i64) r93.2.1, .p false (.int .i64) r93.2.2.1, .p false (.int .u8) r93.2.2.2]), True, (v54.length + ([(r93.1, (r93.2.1, (r93.2.2.1, r93.2.2.2)))] : List (Int × Int × Int × Int)).length) * 32 ≤ 140737488355328 ∧ v54.length + ([(r93.1, (r93.2.1, (r93.2.2.1, r93.2.2.2)))] : List (Int × Int × Int × Int)).length ≤ 9223372036854775807, True] (by kernel_rfl) (by kernel_rfl) ⟨trivial, trivial, trivial, trivial, trivial, trivial, trivial, (stanzaref13_Line_ok β0 β1 d1 d2 i3 v78 v79 x3 _ q78), trivial, c174, trivial, trivial⟩ ?_
          refine to_then ?_
          refine W_reg tbok ⟨[], []⟩ [] [0, 1, 2] [(1, .p false (.int .i64) v78), (2, .p false (.int .i64) x1), (4, .adr 0 0 2 0), (7, .adr 1 0 6 0), (9, .sl 2)] [(0, .box [.p β0 (.slice (.prod (.int .i64) (.prod (.int .i64) (.prod (.int .i64) (.int .u8))))) d1, .p β1 (.slice (.int .u8)) d2]), (1, .box [.p false (.int .i64) x2, .p false (.int .i64) x3, .p false (.int .u8) x4, .p false (.int .i64) x5, .p false (.int .i64) x6, .p false .flt x7]), (2, .arr 60 (.prod (.int .i64) (.prod (.int .i64) (.prod (.int .i64) (.int .u8)))) (v54 ++ ([(r93.1, (r93.2.1, (r93.2.2.1, r93.2.2.2)))] : List (Int × Int × Int × Int))))] 3 0 [True, True] (by kernel_rfl) (by kernel_rfl) ⟨trivial, trivial, trivial⟩ ?_
          refine to_block ?_
          obtain rfl := Option.some.inj h
          exact roundB (goal_le (gs := []) (f := [0, 1, 2]) (by kernel_rfl) (by kernel_rfl))
    · replace h := h_else hb97 h
      refine W_exit_to ?_
      refine thenE ?_
      obtain rfl := Option.some.inj h
      refine roundE ?_
      exact postX_to (goal_le (gs := []) (f := [2]) (by kernel_rfl) (by kernel_rfl))
  · clear hp46
    obtain ⟨rfl, hle⟩ := hq
    refine use_to ?_ hle
    refine blockE_eq ?_
    refine to_then ?_
    refine W_seq ?_
    refine W_reg tbok ⟨[], []⟩ [] [0] [(8, .sl 0)] [(0, .arr 60 (.prod (.int .i64) (.prod (.int .i64) (.prod (.int .i64) (.int .u8)))) v55)] 1 0 [True, True] (by kernel_rfl) (by kernel_rfl) ⟨trivial, trivial, trivial⟩ ?_
    refine to_then ?_
    refine W_ret ?_
    obtain rfl := Option.some.inj h
    exact Ret_intro [(.slice (.prod (.int .i64) (.prod (.int .i64) (.prod (.int .i64) (.int .u8)))))] (by kernel_rfl)

/-- 'stanza/stanzaref13.Part' -/
def stanzaref13_Part (p1 : List (Int × Int × Int × Int)) (p2 : List Int) (from1 : Int) (to1 : Int) (c1 : Int) (c2 : Int) (c3 : Int) (c4 : Int) (c5 : Int) (c6 : Nat) : Option ((List (Int × Int × Int × Int)) × Bool) :=
  (if (c3 == (0 : Int)) = true then ((stanzaref13_First p1 p2 from1 to1 c1 c2 c3 c4 c5 c6).bind fun (r2 : List (Int × Int × Int × Int)) =>
  some (r2, false))
  else none)

set_option maxRecDepth 100000 in
set_option maxHeartbeats 4000000 in
theorem stanzaref13_Part_ok (β0 β1 : Bool) (p1 : List (Int × Int × Int × Int)) (p2 : List Int) (from1 : Int) (to1 : Int) (c1 : Int) (c2 : Int) (c3 : Int) (c4 : Int) (c5 : Int) (c6 : Nat) (res : (List (Int × Int × Int × Int)) × Bool) (h : stanzaref13_Part p1 p2 from1 to1 c1 c2 c3 c4 c5 c6 = some res) :
    Pure Try.prog 37 [.agg [.p β0 (.slice (.prod (.int .i64) (.prod (.int .i64) (.prod (.int .i64) (.int .u8))))) p1, .p β1 (.slice (.int .u8)) p2], .p false (.int .i64) from1, .p false (.int .i64) to1, .agg [.p false (.int .i64) c1, .p false (.int .i64) c2, .p false (.int .u8) c3, .p false (.int .i64) c4, .p false (.int .i64) c5, .p false .flt c6]] (wrapR (encs false [⟨(.slice (.prod (.int .i64) (.prod (.int .i64) (.prod (.int .i64) (.int .u8))))), res.1⟩, ⟨.bool, res.2⟩])) := by
  refine Pure.of_body tbok Try.func37 (by kernel_rfl) rfl (Nat.le_of_ble_eq_true rfl) (fun Bw w0 => ?_) rfl
  unfold stanzaref13_Part at h
  refine W_seq ?_
  refine W_reg tbok ⟨[], []⟩ [] [0, 8] [(1, .p false (.int .i64) from1), (2, .p false (.int .i64) to1), (4, .adr 0 0 2 0), (7, .adr 1 0 6 0)] [(0, .box [.p β0 (.slice (.prod (.int .i64) (.prod (.int .i64) (.prod (.int .i64) (.int .u8))))) p1, .p β1 (.slice (.int .u8)) p2]), (1, .box [.p false (.int .i64) c1, .p false (.int .i64) c2, .p false (.int .u8) c3, .p false (.int .i64) c4, .p false (.int .i64) c5, .p false .flt c6])] 2 0 [True, True, True, True] (by kernel_rfl) (by kernel_rfl) ⟨trivial, trivial, trivial, trivial, trivial⟩ ?_
  refine to_then ?_
  refine W_seq ?_
  refine W_seq ?_
  refine W_reg tbok ⟨[], []⟩ [] [0, 1] [(1, .p false (.int .i64) from1), (2, .p false (.int .i64) to1), (4, .adr 0 0 2 0), (7, .adr 1 0 6 0), (14, .p false .bool (c3 == (0 : Int)))] [(0, .box [.p β0 (.slice (.prod (.int .i64) (.prod (.int .i64) (.prod (.int .i64) (.int .u8))))) p1, .p β1 (.slice (.int .u8)) p2]), (1, .box [.p false (.int .i64) c1, .p false (.int .i64) c2, .p false (.int .u8) c3, .p false (.int .i64) c4, .p false (.int .i64) c5, .p false .flt c6])] 2 0 [True, True, True] (by kernel_rfl) (by kernel_rfl) ⟨trivial, trivial, trivial, trivial⟩ ?_
  refine to_then ?_
  refine W_cond (b := (c3 == (0 : Int))) (β := false) (by kernel_rfl) (fun hb1 => ?_) (fun hb1 => ?_)
  · replace h := h_if hb1 h
    refine W_seq ?_
    obtain ⟨r2, q2, h⟩ := h_bind h
    refine W_reg tbok ⟨[], [(4, ⟨.p false (.slice (.prod (.int .i64) (.prod (.int .i64) (.prod (.int .i64) (.int .u8))))) r2, [false, false, false, false], false, [true, true, true, true], [], []⟩)]⟩ [] [] [(8, .p false (.slice (.prod (.int .i64) (.prod (.int .i64) (.prod (.int .i64) (.int .u8))))) r2), (9, .p false .bool false)] [] 0 0 [True, True, True, True, Pure Try.prog 39 [.agg [.p β0 (.slice (.prod (.int .i64) (.prod (.int .i64) (.prod (.int .i64) (.int .u8))))) p1, .p β1 (.slice (.int .u8)) p2], .p false (.int .i64) from1, .p false (.int .i64) to1, .agg [.p false (.int .i64) c1, .p false (.int .i64) c2, .p false (.int .u8) c3, .p false (.int .i64) c4, .p false (.int .i64) c5, .p false .flt c6]] (.p false (.slice (.prod (.int .i64) (.prod (.int .i64) (.prod (.int .i64) (.int .u8))))) r2), True, True] (by kernel_rfl) (by kernel_rfl) ⟨trivial, trivial, trivial, trivial, (stanzaref13_First_ok β0 β1 p1 p2 from1 to1 c1 c2 c3 c4 c5 c6 _ q2), trivial, trivial, trivial⟩ ?_
    refine to_then ?_
    refine W_ret ?_
    refine thenQ_ret ?_
    obtain rfl := Option.some.inj h
    exact Ret_intro [(.slice (.prod (.int .i64) (.prod (.int .i64) (.prod (.int .i64) (.int .u8))))), .bool] (by kernel_rfl)
  · replace h := h_else hb1 h
    refine W_skip_to ?_
    refine to_then ?_
    refine W_seq ?_
    cases h

/-- a loop of 'stanza/stanzaref13.Break': one round -/
def stanzaref13_Break_L1 (p1 : List (Int × Int × Int × Int)) (p2 : List Int) (c1 : Int) (c2 : Int) (c3 : Int) (c4 : Int) (c5 : Int) (c6 : Nat) (r2 : List Int) : ((List (Int × Int × Int × Int)) × Bool × Int × Int) → Option (((List (Int × Int × Int × Int)) × Bool × Int × Int) ⊕ ((List (Int × Int × Int × Int)) × Bool)) := fun ((out2, loose3, from2, i2) : (List (Int × Int × Int × Int)) × Bool × Int × Int) =>
  (if (decide (i2 < (r2.length : Int))) = true then (if 0 ≤ i2 ∧ i2 < (r2.length : Int) then ((stanzaref13_Part p1 p2 from2 (r2.getD i2.toNat (0 : Int)) c1 c2 c3 c4 c5 c6).bind fun ((r13, r14) : (List (Int × Int × Int × Int)) × Bool) =>
  (if (out2.length + r13.length) * 32 ≤ 140737488355328 ∧ out2.length + r13.length ≤ 9223372036854775807 then (((if loose3 = true then some (true)
  else some (r14))).bind fun (loose5 : Bool) => (if 0 ≤ i2 ∧ i2 < (r2.length : Int) then some (Sum.inl ((out2 ++ r13), loose5, (r2.getD i2.toNat (0 : Int)), (IntKind.i64.wrap (i2 + (1 : Int))))) else none)) else none)) else none)
  else some (Sum.inr (out2, loose3)))

/-- 'stanza/stanzaref13.Break' -/
def stanzaref13_Break (p1 : List (Int × Int × Int × Int)) (p2 : List Int) (c1 : Int) (c2 : Int) (c3 : Int) (c4 : Int) (c5 : Int) (c6 : Nat) : Option ((List (Int × Int × Int × Int)) × Bool) :=
  ((stanzaref10_Parts p1 p2).bind fun (r2 : List Int) =>
  ((iter (stanzaref13_Break_L1 p1 p2 c1 c2 c3 c4 c5 c6 r2) (([] : List (Int × Int × Int × Int)), false, (0 : Int), (0 : Int))).bind fun ((out3, loose4) : (List (Int × Int × Int × Int)) × Bool) => some (out3, loose4)))

set_option maxRecDepth 100000 in
set_option maxHeartbeats 4000000 in
theorem stanzaref13_Break_ok (β0 β1 : Bool) (p1 : List (Int × Int × Int × Int)) (p2 : List Int) (c1 : Int) (c2 : Int) (c3 : Int) (c4 : Int) (c5 : Int) (c6 : Nat) (res : (List (Int × Int × Int × Int)) × Bool) (h : stanzaref13_Break p1 p2 c1 c2 c3 c4 c5 c6 = some res) :
    Pure Try.prog 29 [.agg [.p β0 (.slice (.prod (.int .i64) (.prod (.int .i64) (.prod (.int .i64) (.int .u8))))) p1, .p β1 (.slice (.int .u8)) p2], .agg [.p false (.int .i64) c1, .p false (.int .i64) c2, .p false (.int .u8) c3, .p false (.int .i64) c4, .p false (.int .i64) c5, .p false .flt c6]] (wrapR (encs false [⟨(.slice (.prod (.int .i64) (.prod (.int .i64) (.prod (.int .i64) (.int .u8))))), res.1⟩, ⟨.bool, res.2⟩])) := by
  refine Pure.of_body tbok Try.func29 (by kernel_rfl) rfl (Nat.le_of_ble_eq_true rfl) (fun Bw w0 => ?_) rfl
  unfold stanzaref13_Break at h
  refine W_seq ?_
  refine W_reg tbok ⟨[], []⟩ [] [0, 8] [(2, .adr 0 0 2 0), (3, .adr 1 0 6 0)] [(0, .box [.p β0 (.slice (.prod (.int .i64) (.prod (.int .i64) (.prod (.int .i64) (.int .u8))))) p1, .p β1 (.slice (.int .u8)) p2]), (1, .box [.p false (.int .i64) c1, .p false (.int .i64) c2, .p false (.int .u8) c3, .p false (.int .i64) c4, .p false (.int .i64) c5, .p false .flt c6])] 2 0 [True, True, True, True] (by kernel_rfl) (by kernel_rfl) ⟨trivial, trivial, trivial, trivial, trivial⟩ ?_
  refine to_then ?_
  refine W_seq ?_
  refine W_reg tbok ⟨[], []⟩ [] [0, 1] [(2, .adr 0 0 2 0), (3, .adr 1 0 6 0), (6, .nils)] [(0, .box [.p β0 (.slice (.prod (.int .i64) (.prod (.int .i64) (.prod (.int .i64) (.int .u8))))) p1, .p β1 (.slice (.int .u8)) p2]), (1, .box [.p false (.int .i64) c1, .p false (.int .i64) c2, .p false (.int .u8) c3, .p false (.int .i64) c4, .p false (.int .i64) c5, .p false .flt c6])] 2 0 [True] (by kernel_rfl) (by kernel_rfl) ⟨trivial, trivial⟩ ?_
  refine to_then ?_
  refine W_seq ?_
  refine W_reg tbok ⟨[], []⟩ [] [0, 1] [(2, .adr 0 0 2 0), (3, .adr 1 0 6 0), (6, .nils), (7, .p false .bool false)] [(0, .box [.p β0 (.slice (.prod (.int .i64) (.prod (.int .i64) (.prod (.int .i64) (.int .u8))))) p1, .p β1 (.slice (.int .u8)) p2]), (1, .box [.p false (.int .i64) c1, .p false (.int .i64) c2, .p false (.int .u8) c3, .p false (.int .i64) c4, .p false (.int .i64) c5, .p false .flt c6])] 2 0 [True] (by kernel_rfl) (by kernel_rfl) ⟨trivial, trivial⟩ ?_
  refine to_then ?_
  refine W_seq ?_
  refine W_reg tbok ⟨[], []⟩ [] [0, 1] [(2, .adr 0 0 2 0), (3, .adr 1 0 6 0), (6, .nils), (7, .p false .bool false), (8, .p false (.int .i64) (0 : Int))] [(0, .box [.p β0 (.slice (.prod (.int .i64) (.prod (.int .i64) (.prod (.int .i64) (.int .u8))))) p1, .p β1 (.slice (.int .u8)) p2]), (1, .box [.p false (.int .i64) c1, .p false (.int .i64) c2, .p false (.int .u8) c3, .p false (.int .i64) c4, .p false (.int .i64) c5, .p false .flt c6])] 2 0 [True] (by kernel_rfl) (by kernel_rfl) ⟨trivial, trivial⟩ ?_
  refine to_then ?_
  refine W_seq ?_
  obtain ⟨r2, q2, h⟩ := h_bind h
  refine W_reg tbok ⟨[], [(1, ⟨.p false (.slice (.int .i64)) r2, [false], false, [true], [], []⟩)]⟩ [] [0, 1] [(2, .adr 0 0 2 0), (3, .adr 1 0 6 0), (6, .nils), (7, .p false .bool false), (8, .p false (.int .i64) (0 : Int)), (9, .p false (.slice (.int .i64)) r2)] [(0, .box [.p β0 (.slice (.prod (.int .i64) (.prod (.int .i64) (.prod (.int .i64) (.int .u8))))) p1, .p β1 (.slice (.int .u8)) p2]), (1, .box [.p false (.int .i64) c1, .p false (.int .i64) c2, .p false (.int .u8) c3, .p false (.int .i64) c4, .p false (.int .i64) c5, .p false .flt c6])] 2 0 [True, Pure Try.prog 36 [.agg [.p β0 (.slice (.prod (.int .i64) (.prod (.int .i64) (.prod (.int .i64) (.int .u8))))) p1, .p β1 (.slice (.int .u8)) p2]] (.p false (.slice (.int .i64)) r2), True] (by kernel_rfl) (by kernel_rfl) ⟨trivial, (stanzaref10_Parts_ok β0 β1 p1 p2 _ q2), trivial, trivial⟩ ?_
  refine to_then ?_
  refine W_seq ?_
  refine W_seq ?_
  refine W_reg tbok ⟨[], []⟩ [] [0, 1] [(2, .adr 0 0 2 0), (3, .adr 1 0 6 0), (6, .nils), (7, .p false .bool false), (8, .p false (.int .i64) (0 : Int)), (9, .p false (.slice (.int .i64)) r2), (10, .p false (.int .i64) (0 : Int))] [(0, .box [.p β0 (.slice (.prod (.int .i64) (.prod (.int .i64) (.prod (.int .i64) (.int .u8))))) p1, .p β1 (.slice (.int .u8)) p2]), (1, .box [.p false (.int .i64) c1, .p false (.int .i64) c2, .p false (.int .u8) c3, .p false (.int .i64) c4, .p false (.int .i64) c5, .p false .flt c6])] 2 0 [True] (by kernel_rfl) (by kernel_rfl) ⟨trivial, trivial⟩ ?_
  refine to_then ?_
  refine W_block ?_
  obtain ⟨r15, hp3, h⟩ := h_bind h
  refine W.mono (Q := (postX Try.f29.ntmps 0 (fun ((out3, loose4) : (List (Int × Int × Int × Int)) × Bool) => mkSt [(6, .sl 0), (7, .p false .bool loose4)] [(0, .arr 60 (.prod (.int .i64) (.prod (.int .i64) (.prod (.int .i64) (.int .u8)))) out3)] 1)) r15) (W_iter (f := fun ((out2, loose3, from2, i2) : (List (Int × Int × Int × Int)) × Bool × Int × Int) => mkSt [(2, .adr 0 0 2 0), (3, .adr 1 0 6 0), (6, .sl 2), (7, .p false .bool loose3), (8, .p false (.int .i64) from2), (9, .p false (.slice (.int .i64)) r2), (10, .p false (.int .i64) i2)] [(0, .box [.p β0 (.slice (.prod (.int .i64) (.prod (.int .i64) (.prod (.int .i64) (.int .u8))))) p1, .p β1 (.slice (.int .u8)) p2]), (1, .box [.p false (.int .i64) c1, .p false (.int .i64) c2, .p false (.int .u8) c3, .p false (.int .i64) c4, .p false (.int .i64) c5, .p false .flt c6]), (2, .arr 60 (.prod (.int .i64) (.prod (.int .i64) (.prod (.int .i64) (.int .u8)))) out2)] 3) (Q := (postX Try.f29.ntmps 0 (fun ((out3, loose4) : (List (Int × Int × Int × Int)) × Bool) => mkSt [(6, .sl 0), (7, .p false .bool loose4)] [(0, .arr 60 (.prod (.int .i64) (.prod (.int .i64) (.prod (.int .i64) (.int .u8)))) out3)] 1))) hp3 (goal_le (gs := [.nilS 6 2 60 (.prod (.int .i64) (.prod (.int .i64) (.prod (.int .i64) (.int .u8))))]) (f := [0, 1, 2]) (by kernel_rfl) (by kernel_rfl)) (fun y o ho => ?_)) (fun e σ' hq => ?_)
  · obtain ⟨out2, loose3, from2, i2⟩ := y
    replace h := ho
    clear ho hp3
    unfold stanzaref13_Break_L1 at h
    refine W_seq ?_
    refine W_seq ?_
    refine W_reg tbok ⟨[], []⟩ [] [0, 1, 2] [(2, .adr 0 0 2 0), (3, .adr 1 0 6 0), (6, .sl 2), (7, .p false .bool loose3), (8, .p false (.int .i64) from2), (9, .p false (.slice (.int .i64)) r2), (10, .p false (.int .i64) i2), (18, .p false .bool (decide (i2 < (r2.length : Int))))] [(0, .box [.p β0 (.slice (.prod (.int .i64) (.prod (.int .i64) (.prod (.int .i64) (.int .u8))))) p1, .p β1 (.slice (.int .u8)) p2]), (1, .box [.p false (.int .i64) c1, .p false (.int .i64) c2, .p false (.int .u8) c3, .p false (.int .i64) c4, .p false (.int .i64) c5, .p false .flt c6]), (2, .arr 60 (.prod (.int .i64) (.prod (.int .i64) (.prod (.int .i64) (.int .u8)))) out2)] 3 0 [True, True, True, True] (by kernel_rfl) (by kernel_rfl) ⟨trivial, trivial, trivial, trivial, trivial⟩ ?_
    refine to_then ?_
    refine W_cond (b := (decide (i2 < (r2.length : Int)))) (β := false) (by kernel_rfl) (fun hb6 => ?_) (fun hb6 => ?_)
    · replace h := h_if hb6 h
      refine W_skip_to ?_
      refine to_then ?_
      refine W_seq ?_
      refine W_block ?_
      refine W_seq ?_
      obtain ⟨c14, h⟩ := h_guard h
      obtain ⟨⟨r13, r14⟩, q8, h⟩ := h_bind h
      refine W_regD tbok mixed ⟨[], [(7, ⟨.tup [.p false (.slice (.prod (.int .i64) (.prod (.int .i64) (.prod (.int .i64) (.int .u8))))) r13, .p false .bool r14], [false, false, false, false], false, [true, true, true, true], [], []⟩)]⟩ [] [0, 1, 2] [(2, .adr 0 0 2 0), (3, .adr 1 0 6 0), (6, .sl 2), (7, .p false .bool loose3), (9, .p false (.slice (.int .i64)) r2), (10, .p false (.int .i64) i2), (11, .p false (.slice (.prod (.int .i64) (.prod (.int .i64) (.prod (.int .i64) (.int .u8))))) r13), (12, .p false .bool r14)] [(0, .box [.p β0 (.slice (.prod (.int .i64) (.prod (.int .i64) (.prod (.int .i64) (.int .u8))))) p1, .p β1 (.slice (.int .u8)) p2]), (1, .box [.p false (.int .i64) c1, .p false (.int .i64) c2, .p false (.int .u8) c3, .p false (.int .i64) c4, .p false (.int .i64) c5, .p false .flt c6]), (2, .arr 60 (.prod (.int .i64) (.prod (.int .i64) (.prod (.int .i64) (.int .u8)))) out2)] 3 0 [True, True, True, True, 0 ≤ i2 ∧ i2 < (r2.length : Int), True, True, Pure Try.prog 37 [.agg [.p β0 (.slice (.prod (.int .i64) (.prod (.int .i64) (.prod (.int .i64) (.int .u8))))) p1, .p β1 (.slice (.int .u8)) p2], .p false (.int .i64) from2, .p false (.int .i64) (r2.getD i2.toNat (0 : Int)), .agg [.p false (.int .i64) c1, .p false (.int .i64) c2, .p false (.int .u8) c3, .p false (.int .i64) c4, .p false (.int .i64) c5, .p false .flt c6]] (.tup [.p false (.slice (.prod (.int .i64) (.prod (.int .i64) (.prod (.int .i64) (.int .u8))))) r13, .p false .bool r14]), True, True, True, True, True] (by kernel_rfl) (by kernel_rfl) ⟨trivial, trivial, trivial, trivial, c14, trivial, trivial, (stanzaref13_Part_ok β0 β1 p1 p2 from2 (r2.getD i2.toNat (0 : Int)) c1 c2 c3 c4 c5 c6 _ q8), trivial, trivial, trivial, trivial, trivial, trivial⟩ ?_
      refine to_then ?_
      refine W_seq ?_
      obtain ⟨c16, h⟩ := h_guard h
      refine W_reg tbok ⟨[], []⟩ [] [0, 1, 19] [(2, .adr 0 0 2 0), (3, .adr 1 0 6 0), (6, .sl 2), (7, .p false .bool loose3), (9, .p false (.slice (.int .i64)) r2), (10, .p false (.int .i64) i2), (12, .p false .bool r14)] [(0, .box [.p β0 (.slice (.prod (.int .i64) (.prod (.int .i64) (.prod (.int .i64) (.int .u8))))) p1, .p β1 (.slice (.int .u8)) p2]), (1, .box [.p false (.int .i64) c1, .p false (.int .i64) c2, .p false (.int .u8) c3, .p false (.int .i64) c4, .p false (.int .i64) c5, .p false .flt c6]), (2, .arr 60 (.prod (.int .i64) (.prod (.int .i64) (.prod (.int .i64) (.int .u8)))) (out2 ++ r13))] 3 0 [True, True, (out2.length + r13.length) * 32 ≤ 140737488355328 ∧ out2.length + r13.length ≤ 9223372036854775807, True] (by kernel_rfl) (by kernel_rfl) ⟨trivial, trivial, c16, trivial, trivial⟩ ?_
      refine to_then ?_
      refine W_seq ?_
      obtain ⟨loose5, hp2, h⟩ := h_bind h
      refine W.mono (Q := (postN Try.f29.ntmps (fun (loose5 : Bool) => mkSt [(2, .adr 0 0 2 0), (3, .adr 1 0 6 0), (6, .sl 2), (7, .p false .bool loose5), (9, .p false (.slice (.int .i64)) r2), (10, .p false (.int .i64) i2)] [(0, .box [.p β0 (.slice (.prod (.int .i64) (.prod (.int .i64) (.prod (.int .i64) (.int .u8))))) p1, .p β1 (.slice (.int .u8)) p2]), (1, .box [.p false (.int .i64) c1, .p false (.int .i64) c2, .p false (.int .u8) c3, .p false (.int .i64) c4, .p false (.int .i64) c5, .p false .flt c6]), (2, .arr 60 (.prod (.int .i64) (.prod (.int .i64) (.prod (.int .i64) (.int .u8)))) (out2 ++ r13))] 3)) loose5) ?_ (fun e σ' hq => ?_)
      · replace h := hp2
        clear hp2
        rcases Bool.eq_false_or_eq_true loose3 with hb9 | hb9
        · replace h := h_if hb9 h
          refine W_reg tbok ⟨[(1, true), (3, true)], []⟩ [] [0, 1, 2] [(2, .adr 0 0 2 0), (3, .adr 1 0 6 0), (6, .sl 2), (7, .p false .bool true), (9, .p false (.slice (.int .i64)) r2), (10, .p false (.int .i64) i2)] [(0, .box [.p β0 (.slice (.prod (.int .i64) (.prod (.int .i64) (.prod (.int .i64) (.int .u8))))) p1, .p β1 (.slice (.int .u8)) p2]), (1, .box [.p false (.int .i64) c1, .p false (.int .i64) c2, .p false (.int .u8) c3, .p false (.int .i64) c4, .p false (.int .i64) c5, .p false .flt c6]), (2, .arr 60 (.prod (.int .i64) (.prod (.int .i64) (.prod (.int .i64) (.int .u8)))) (out2 ++ r13))] 3 0 [True, True, loose3 = true, loose3 = true, True] (by kernel_rfl) (by kernel_rfl) ⟨trivial, trivial, hb9, hb9, trivial, trivial⟩ ?_
          obtain rfl := Option.some.inj h
          exact postN_to (goal_le (gs := []) (f := [0, 1, 2]) (by kernel_rfl) (by kernel_rfl))
        · replace h := h_else hb9 h
          refine W_reg tbok ⟨[(1, false), (3, false)], []⟩ [] [0, 1, 2] [(2, .adr 0 0 2 0), (3, .adr 1 0 6 0), (6, .sl 2), (7, .p false .bool r14), (9, .p false (.slice (.int .i64)) r2), (10, .p false (.int .i64) i2)] [(0, .box [.p β0 (.slice (.prod (.int .i64) (.prod (.int .i64) (.prod (.int .i64) (.int .u8))))) p1, .p β1 (.slice (.int .u8)) p2]), (1, .box [.p false (.int .i64) c1, .p false (.int .i64) c2, .p false (.int .u8) c3, .p false (.int .i64) c4, .p false (.int .i64) c5, .p false .flt c6]), (2, .arr 60 (.prod (.int .i64) (.prod (.int .i64) (.prod (.int .i64) (.int .u8)))) (out2 ++ r13))] 3 0 [True, True, loose3 = false ∧ True, loose3 = false, True] (by kernel_rfl) (by kernel_rfl) ⟨trivial, trivial, ⟨hb9, trivial⟩, hb9, trivial, trivial⟩ ?_
          obtain rfl := Option.some.inj h
          exact postN_to (goal_le (gs := []) (f := [0, 1, 2]) (by kernel_rfl) (by kernel_rfl))
      · clear hp2
        obtain ⟨rfl, hle⟩ := hq
        refine use_to ?_ hle
        refine to_then ?_
        obtain ⟨c18, h⟩ := h_guard h
        refine W_reg tbok ⟨[], []⟩ [] [0, 1, 2] [(2, .adr 0 0 2 0), (3, .adr 1 0 6 0), (6, .sl 2), (7, .p false .bool loose5), (8, .p false (.int .i64) (r2.getD i2.toNat (0 : Int))), (9, .p false (.slice (.int .i64)) r2), (10, .p false (.int .i64) i2)] [(0, .box [.p β0 (.slice (.prod (.int .i64) (.prod (.int .i64) (.prod (.int .i64) (.int .u8))))) p1, .p β1 (.slice (.int .u8)) p2]), (1, .box [.p false (.int .i64) c1, .p false (.int .i64) c2, .p false (.int .u8) c3, .p false (.int .i64) c4, .p false (.int .i64) c5, .p false .flt c6]), (2, .arr 60 (.prod (.int .i64) (.prod (.int .i64) (.prod (.int .i64) (.int .u8)))) (out2 ++ r13))] 3 0 [True, True, 0 ≤ i2 ∧ i2 < (r2.length : Int), True, True] (by kernel_rfl) (by kernel_rfl) ⟨trivial, trivial, c18, trivial, trivial, trivial⟩ ?_
        refine to_block ?_
        refine to_then ?_
        refine W_reg tbok ⟨[], []⟩ [] [0, 1, 2] [(2, .adr 0 0 2 0), (3, .adr 1 0 6 0), (6, .sl 2), (7, .p false .bool loose5), (8, .p false (.int .i64) (r2.getD i2.toNat (0 : Int))), (9, .p false (.slice (.int .i64)) r2), (10, .p false (.int .i64) (IntKind.i64.wrap (i2 + (1 : Int))))] [(0, .box [.p β0 (.slice (.prod (.int .i64) (.prod (.int .i64) (.prod (.int .i64) (.int .u8))))) p1, .p β1 (.slice (.int .u8)) p2]), (1, .box [.p false (.int .i64) c1, .p false (.int .i64) c2, .p false (.int .u8) c3, .p false (.int .i64) c4, .p false (.int .i64) c5, .p false .flt c6]), (2, .arr 60 (.prod (.int .i64) (.prod (.int .i64) (.prod (.int .i64) (.int .u8)))) (out2 ++ r13))] 3 0 [True, True, True] (by kernel_rfl) (by kernel_rfl) ⟨trivial, trivial, trivial, trivial⟩ ?_
        obtain rfl := Option.some.inj h
        exact roundB (goal_le (gs := []) (f := [0, 1, 2]) (by kernel_rfl) (by kernel_rfl))
    · replace h := h_else hb6 h
      refine W_exit_to ?_
      refine thenE ?_
      obtain rfl := Option.some.inj h
      refine roundE ?_
      exact postX_to (goal_le (gs := []) (f := [2]) (by kernel_rfl) (by kernel_rfl))
  · clear hp3
    obtain ⟨out3, loose4⟩ := r15
    obtain ⟨rfl, hle⟩ := hq
    refine use_to ?_ hle
    refine blockE_eq ?_
    refine to_then ?_
    refine W_seq ?_
    refine W_reg tbok ⟨[], []⟩ [] [0] [(4, .sl 0), (5, .p false .bool loose4)] [(0, .arr 60 (.prod (.int .i64) (.prod (.int .i64) (.prod (.int .i64) (.int .u8)))) out3)] 1 0 [True, True, True, True] (by kernel_rfl) (by kernel_rfl) ⟨trivial, trivial, trivial, trivial, trivial⟩ ?_
    refine to_then ?_
    refine W_ret ?_
    obtain rfl := Option.some.inj h
    exact Ret_intro [(.slice (.prod (.int .i64) (.prod (.int .i64) (.prod (.int .i64) (.int .u8))))), .bool] (by kernel_rfl)

/-- a loop of 'stanza/stanzalaw17.made': one round -/
def stanzalaw17_made_L1 (r23 : (List (Int × Int × Int × Int)) × List Int) : (Int × Int) → Option ((Int × Int) ⊕ (Int)) := fun ((n5, v4) : Int × Int) =>
  (if (decide (v4 < (r23.1.length : Int))) = true then (if 0 ≤ v4 ∧ v4 < (r23.1.length : Int) then some (Sum.inl ((IntKind.i64.wrap (n5 + ((r23.1.getD v4.toNat ((0 : Int), ((0 : Int), ((0 : Int), (0 : Int))))).2.1))), (IntKind.i64.wrap (v4 + (1 : Int))))) else none)
  else some (Sum.inr n5))

/-- 'stanza/stanzalaw17.made' -/
def stanzalaw17_made (l1 : List (Int × Int × Int × Int)) (w1 : Int) (w2 : Int) (w3 : Int) (w4 : Int) (w5 : Int) (w6 : Nat) : Option (((List (Int × Int × Int × Int)) × List Int) × (List (Int × Int × Int × Int)) × Int × Int × (List (Int × Int × Int × Int)) × (List Int) × (List (Int × Int × Int × Int)) × List (List Int)) :=
  (if 0 ≤ (0 : Int) ∧ (0 : Int) ≤ (min (l1.length : Int) (100 : Int)) ∧ (min (l1.length : Int) (100 : Int)) ≤ (l1.length : Int) then ((stanzahand03_Para ((l1.take (min (l1.length : Int) (100 : Int)).toNat).drop (0 : Int).toNat)).bind fun (r23 : (List (Int × Int × Int × Int)) × List Int) =>
  ((stanzahand03_Config w1 w2 w3 w4 w5 w6).bind fun (r24 : Int × Int × Int × Int × Int × Nat) =>
  ((stanzaref13_Break r23.1 r23.2 r24.1 r24.2.1 (0 : Int) r24.2.2.2.1 r24.2.2.2.2.1 r24.2.2.2.2.2).bind fun ((r27, r28) : (List (Int × Int × Int × Int)) × Bool) =>
  ((iter (stanzalaw17_made_L1 r23) ((0 : Int), (0 : Int))).bind fun (n6 : Int) => ((place_Make r23.1 r23.2 r27 r24.2.1).bind fun ((r33, r34, r35, r36) : (List (Int × Int × Int × Int)) × (List Int) × (List (Int × Int × Int × Int)) × List (List Int)) =>
  some ((r23.1, r23.2), r27, n6, r24.2.1, r33, r34, r35, r36)))))) else none)

set_option maxRecDepth 100000 in
set_option maxHeartbeats 4000000 in
theorem stanzalaw17_made_ok (β0 : Bool) (l1 : List (Int × Int × Int × Int)) (w1 : Int) (w2 : Int) (w3 : Int) (w4 : Int) (w5 : Int) (w6 : Nat) (res : ((List (Int × Int × Int × Int)) × List Int) × (List (Int × Int × Int × Int)) × Int × Int × (List (Int × Int × Int × Int)) × (List Int) × (List (Int × Int × Int × Int)) × List (List Int)) (h : stanzalaw17_made l1 w1 w2 w3 w4 w5 w6 = some res) :
    Owns Try.prog 14 [.p β0 (.slice (.prod (.int .u8) (.prod (.int .u8) (.prod (.int .u8) (.int .u8))))) l1, .agg [.p false (.int .u8) w1, .p false (.int .u8) w2, .p false (.int .u8) w3, .p false (.int .u16) w4, .p false (.int .u16) w5, .p false .flt w6]] [] (.tup [.agg [.p false (.slice (.prod (.int .i64) (.prod (.int .i64) (.prod (.int .i64) (.int .u8))))) res.1.1, .p false (.slice (.int .u8)) res.1.2], .p false (.slice (.prod (.int .i64) (.prod (.int .i64) (.prod (.int .i64) (.int .u8))))) res.2.1, .adr 0 0 4 0, .p false (.int .i64) res.2.2.1, .p false (.int .i64) res.2.2.2.1]) [(0, .box [.p false (.slice (.prod (.int .i64) (.prod (.int .i64) (.prod (.int .i64) (.int .u8))))) res.2.2.2.2.1, .p false (.slice (.int .u8)) res.2.2.2.2.2.1, .p false (.slice (.prod (.int .i64) (.prod (.int .i64) (.prod (.int .i64) (.int .u8))))) res.2.2.2.2.2.2.1, .sl 1]), (1, .arr 46 (.slice (.int .i64)) res.2.2.2.2.2.2.2)] := by
  refine Owns.of_body tbok Try.func14 (by kernel_rfl) rfl (Nat.le_of_ble_eq_true rfl) (fun Bw w0 => ?_)
  unfold stanzalaw17_made at h
  refine W_seq ?_
  refine W_reg tbok ⟨[], []⟩ [] [0, 8] [(0, .p β0 (.slice (.prod (.int .u8) (.prod (.int .u8) (.prod (.int .u8) (.int .u8))))) l1), (3, .adr 0 0 6 0), (4, .adr 1 0 2 0)] [(0, .box [.p false (.int .u8) w1, .p false (.int .u8) w2, .p false (.int .u8) w3, .p false (.int .u16) w4, .p false (.int .u16) w5, .p false .flt w6]), (1, .box [.nils, .nils])] 2 0 [True, True, True, True, True, True] (by kernel_rfl) (by kernel_rfl) ⟨trivial, trivial, trivial, trivial, trivial, trivial, trivial⟩ ?_
  refine to_then ?_
  refine W_seq ?_
  obtain ⟨c10, h⟩ := h_guard h
  obtain ⟨r23, q11, h⟩ := h_bind h
  obtain ⟨r24, q12, h⟩ := h_bind h
  refine W_regD tbok mixed ⟨[], [(5, ⟨.agg [.p false (.slice (.prod (.int .i64) (.prod (.int .i64) (.prod (.int .i64) (.int .u8))))) r23.1, .p false (.slice (.int .u8)) r23.2], [false], false, [true], [], []⟩), (7, ⟨.agg [.p false (.int .i64) r24.1, .p false (.int .i64) r24.2.1, .p false (.int .u8) r24.2.2.1, .p false (.int .i64) r24.2.2.2.1, .p false (.int .i64) r24.2.2.2.2.1, .p false .flt r24.2.2.2.2.2], [false], false, [true], [], []⟩)]⟩ [] [1, 66, 74] [(4, .adr 0 0 2 0), (9, .adr 1 0 2 0), (10, .adr 2 0 6 0)] [(0, .box [.nils, .nils]), (1, .box [.p false (.slice (.prod (.int .i64) (.prod (.int .i64) (.prod (.int .i64) (.int .u8))))) r23.1, .p false (.slice (.int .u8)) r23.2]), (2, .box [.p false (.int .i64) r24.1, .p false (.int .i64) r24.2.1, .p false (.int .u8) r24.2.2.1, .p false (.int .i64) r24.2.2.2.1, .p false (.int .i64) r24.2.2.2.2.1, .p false .flt r24.2.2.2.2.2])] 3 0 [True, True, True, True, 0 ≤ (0 : Int) ∧ (0 : Int) ≤ (min (l1.length : Int) (100 : Int)) ∧ (min (l1.length : Int) (100 : Int)) ≤ (l1.length : Int), Pure Try.prog 18 [.p β0 (.slice (.prod (.int .u8) (.prod (.int .u8) (.prod (.int .u8) (.int .u8))))) ((l1.take (min (l1.length : Int) (100 : Int)).toNat).drop (0 : Int).toNat)] (.agg [.p false (.slice (.prod (.int .i64) (.prod (.int .i64) (.prod (.int .i64) (.int .u8))))) r23.1, .p false (.slice (.int .u8)) r23.2]), True, Pure Try.prog 28 [.agg [.p false (.int .u8) w1, .p false (.int .u8) w2, .p false (.int .u8) w3, .p false (.int .u16) w4, .p false (.int .u16) w5, .p false .flt w6]] (.agg [.p false (.int .i64) r24.1, .p false (.int .i64) r24.2.1, .p false (.int .u8) r24.2.2.1, .p false (.int .i64) r24.2.2.2.1, .p false (.int .i64) r24.2.2.2.2.1, .p false .flt r24.2.2.2.2.2]), True, True, True, True] (by kernel_rfl) (by kernel_rfl) ⟨trivial, trivial, trivial, trivial, c10, (stanzahand03_Para_ok β0 ((l1.take (min (l1.length : Int) (100 : Int)).toNat).drop (0 : Int).toNat) _ q11), trivial, (stanzahand03_Config_ok w1 w2 w3 w4 w5 w6 _ q12), trivial, trivial, trivial, trivial, trivial⟩ ?_
  refine to_then ?_
  refine W_seq ?_
  refine W_reg tbok ⟨[], []⟩ [] [0, 1, 2] [(4, .adr 0 0 2 0), (9, .adr 1 0 2 0), (10, .adr 2 0 6 0)] [(0, .box [.nils, .nils]), (1, .box [.p false (.slice (.prod (.int .i64) (.prod (.int .i64) (.prod (.int .i64) (.int .u8))))) r23.1, .p false (.slice (.int .u8)) r23.2]), (2, .box [.p false (.int .i64) r24.1, .p false (.int .i64) r24.2.1, .p false (.int .u8) (0 : Int), .p false (.int .i64) r24.2.2.2.1, .p false (.int .i64) r24.2.2.2.2.1, .p false .flt r24.2.2.2.2.2])] 3 0 [True, True] (by kernel_rfl) (by kernel_rfl) ⟨trivial, trivial, trivial⟩ ?_
  refine to_then ?_
  refine W_seq ?_
  obtain ⟨⟨r27, r28⟩, q14, h⟩ := h_bind h
  refine W_reg tbok ⟨[], [(2, ⟨.tup [.p false (.slice (.prod (.int .i64) (.prod (.int .i64) (.prod (.int .i64) (.int .u8))))) r27, .p false .bool r28], [false, false], false, [true, true], [], []⟩)]⟩ [] [0, 1, 2] [(4, .adr 0 0 2 0), (9, .adr 1 0 2 0), (10, .adr 2 0 6 0), (11, .p false (.slice (.prod (.int .i64) (.prod (.int .i64) (.prod (.int .i64) (.int .u8))))) r27)] [(0, .box [.nils, .nils]), (1, .box [.p false (.slice (.prod (.int .i64) (.prod (.int .i64) (.prod (.int .i64) (.int .u8))))) r23.1, .p false (.slice (.int .u8)) r23.2]), (2, .box [.p false (.int .i64) r24.1, .p false (.int .i64) r24.2.1, .p false (.int .u8) (0 : Int), .p false (.int .i64) r24.2.2.2.1, .p false (.int .i64) r24.2.2.2.2.1, .p false .flt r24.2.2.2.2.2])] 3 0 [True, True, Pure Try.prog 29 [.agg [.p false (.slice (.prod (.int .i64) (.prod (.int .i64) (.prod (.int .i64) (.int .u8))))) r23.1, .p false (.slice (.int .u8)) r23.2], .agg [.p false (.int .i64) r24.1, .p false (.int .i64) r24.2.1, .p false (.int .u8) (0 : Int), .p false (.int .i64) r24.2.2.2.1, .p false (.int .i64) r24.2.2.2.2.1, .p false .flt r24.2.2.2.2.2]] (.tup [.p false (.slice (.prod (.int .i64) (.prod (.int .i64) (.prod (.int .i64) (.int .u8))))) r27, .p false .bool r28]), True, True, True, True, True] (by kernel_rfl) (by kernel_rfl) ⟨trivial, trivial, (stanzaref13_Break_ok false false r23.1 r23.2 r24.1 r24.2.1 (0 : Int) r24.2.2.2.1 r24.2.2.2.2.1 r24.2.2.2.2.2 _ q14), trivial, trivial, trivial, trivial, trivial, trivial⟩ ?_
  refine to_then ?_
  refine W_seq ?_
  refine W_reg tbok ⟨[], []⟩ [] [0, 1, 2] [(4, .adr 0 0 2 0), (9, .adr 1 0 2 0), (10, .adr 2 0 6 0), (11, .p false (.slice (.prod (.int .i64) (.prod (.int .i64) (.prod (.int .i64) (.int .u8))))) r27), (13, .p false (.int .i64) (0 : Int))] [(0, .box [.nils, .nils]), (1, .box [.p false (.slice (.prod (.int .i64) (.prod (.int .i64) (.prod (.int .i64) (.int .u8))))) r23.1, .p false (.slice (.int .u8)) r23.2]), (2, .box [.p false (.int .i64) r24.1, .p false (.int .i64) r24.2.1, .p false (.int .u8) (0 : Int), .p false (.int .i64) r24.2.2.2.1, .p false (.int .i64) r24.2.2.2.2.1, .p false .flt r24.2.2.2.2.2])] 3 0 [True] (by kernel_rfl) (by kernel_rfl) ⟨trivial, trivial⟩ ?_
  refine to_then ?_
  refine W_seq ?_
  refine W_seq ?_
  refine W_reg tbok ⟨[], []⟩ [] [0, 1, 2] [(4, .adr 0 0 2 0), (9, .adr 1 0 2 0), (10, .adr 2 0 6 0), (11, .p false (.slice (.prod (.int .i64) (.prod (.int .i64) (.prod (.int .i64) (.int .u8))))) r27), (13, .p false (.int .i64) (0 : Int)), (32, .p false (.slice (.prod (.int .i64) (.prod (.int .i64) (.prod (.int .i64) (.int .u8))))) r23.1), (33, .p false (.int .i64) (r23.1.length : Int)), (34, .p false (.int .i64) (0 : Int))] [(0, .box [.nils, .nils]), (1, .box [.p false (.slice (.prod (.int .i64) (.prod (.int .i64) (.prod (.int .i64) (.int .u8))))) r23.1, .p false (.slice (.int .u8)) r23.2]), (2, .box [.p false (.int .i64) r24.1, .p false (.int .i64) r24.2.1, .p false (.int .u8) (0 : Int), .p false (.int .i64) r24.2.2.2.1, .p false (.int .i64) r24.2.2.2.2.1, .p false .flt r24.2.2.2.2.2])] 3 0 [True, True, True, True] (by kernel_rfl) (by kernel_rfl) ⟨trivial, trivial, trivial, trivial, trivial⟩ ?_
  refine to_then ?_
  refine W_block ?_
  obtain ⟨n6, hp2, h⟩ := h_bind h
  refine W.mono (Q := (postX Try.f14.ntmps 0 (fun (n6 : Int) => mkSt [(4, .adr 0 0 2 0), (9, .adr 1 0 2 0), (10, .adr 2 0 6 0), (11, .p false (.slice (.prod (.int .i64) (.prod (.int .i64) (.prod (.int .i64) (.int .u8))))) r27), (13, .p false (.int .i64) n6)] [(0, .box [.nils, .nils]), (1, .box [.p false (.slice (.prod (.int .i64) (.prod (.int .i64) (.prod (.int .i64) (.int .u8))))) r23.1, .p false (.slice (.int .u8)) r23.2]), (2, .box [.p false (.int .i64) r24.1, .p false (.int .i64) r24.2.1, .p false (.int .u8) (0 : Int), .p false (.int .i64) r24.2.2.2.1, .p false (.int .i64) r24.2.2.2.2.1, .p false .flt r24.2.2.2.2.2])] 3)) n6) (W_iter (f := fun ((n5, v4) : Int × Int) => mkSt [(4, .adr 0 0 2 0), (9, .adr 1 0 2 0), (10, .adr 2 0 6 0), (11, .p false (.slice (.prod (.int .i64) (.prod (.int .i64) (.prod (.int .i64) (.int .u8))))) r27), (13, .p false (.int .i64) n5), (32, .p false (.slice (.prod (.int .i64) (.prod (.int .i64) (.prod (.int .i64) (.int .u8))))) r23.1), (33, .p false (.int .i64) (r23.1.length : Int)), (34, .p false (.int .i64) v4)] [(0, .box [.nils, .nils]), (1, .box [.p false (.slice (.prod (.int .i64) (.prod (.int .i64) (.prod (.int .i64) (.int .u8))))) r23.1, .p false (.slice (.int .u8)) r23.2]), (2, .box [.p false (.int .i64) r24.1, .p false (.int .i64) r24.2.1, .p false (.int .u8) (0 : Int), .p false (.int .i64) r24.2.2.2.1, .p false (.int .i64) r24.2.2.2.2.1, .p false .flt r24.2.2.2.2.2])] 3) (Q := (postX Try.f14.ntmps 0 (fun (n6 : Int) => mkSt [(4, .adr 0 0 2 0), (9, .adr 1 0 2 0), (10, .adr 2 0 6 0), (11, .p false (.slice (.prod (.int .i64) (.prod (.int .i64) (.prod (.int .i64) (.int .u8))))) r27), (13, .p false (.int .i64) n6)] [(0, .box [.nils, .nils]), (1, .box [.p false (.slice (.prod (.int .i64) (.prod (.int .i64) (.prod (.int .i64) (.int .u8))))) r23.1, .p false (.slice (.int .u8)) r23.2]), (2, .box [.p false (.int .i64) r24.1, .p false (.int .i64) r24.2.1, .p false (.int .u8) (0 : Int), .p false (.int .i64) r24.2.2.2.1, .p false (.int .i64) r24.2.2.2.2.1, .p false .flt r24.2.2.2.2.2])] 3))) hp2 (goal_le (gs := []) (f := [0, 1, 2]) (by kernel_rfl) (by kernel_rfl)) (fun y o ho => ?_)) (fun e σ' hq => ?_)
  · obtain ⟨n5, v4⟩ := y
    replace h := ho
    clear ho hp2
    unfold stanzalaw17_made_L1 at h
    refine W_seq ?_
    refine W_reg tbok ⟨[], []⟩ [] [0, 1, 2] [(4, .adr 0 0 2 0), (9, .adr 1 0 2 0), (10, .adr 2 0 6 0), (11, .p false (.slice (.prod (.int .i64) (.prod (.int .i64) (.prod (.int .i64) (.int .u8))))) r27), (13, .p false (.int .i64) n5), (32, .p false (.slice (.prod (.int .i64) (.prod (.int .i64) (.prod (.int .i64) (.int .u8))))) r23.1), (33, .p false (.int .i64) (r23.1.length : Int)), (34, .p false (.int .i64) v4), (35, .p false .bool (decide (v4 < (r23.1.length : Int))))] [(0, .box [.nils, .nils]), (1, .box [.p false (.slice (.prod (.int .i64) (.prod (.int .i64) (.prod (.int .i64) (.int .u8))))) r23.1, .p false (.slice (.int .u8)) r23.2]), (2, .box [.p false (.int .i64) r24.1, .p false (.int .i64) r24.2.1, .p false (.int .u8) (0 : Int), .p false (.int .i64) r24.2.2.2.1, .p false (.int .i64) r24.2.2.2.2.1, .p false .flt r24.2.2.2.2.2])] 3 0 [True] (by kernel_rfl) (by kernel_rfl) ⟨trivial, trivial⟩ ?_
    refine to_then ?_
    refine W_seq ?_
    refine W_cond (b := (decide (v4 < (r23.1.length : Int)))) (β := false) (by kernel_rfl) (fun hb6 => ?_) (fun hb6 => ?_)
    · replace h := h_if hb6 h
      refine W_skip_to ?_
      refine to_then ?_
      refine W_seq ?_
      refine W_block ?_
      refine W_seq ?_
      obtain ⟨c16, h⟩ := h_guard h
      refine W_reg tbok ⟨[], []⟩ [] [0, 1, 2, 19] [(4, .adr 0 0 2 0), (9, .adr 1 0 2 0), (10, .adr 2 0 6 0), (11, .p false (.slice (.prod (.int .i64) (.prod (.int .i64) (.prod (.int .i64) (.int .u8))))) r27), (13, .p false (.int .i64) n5), (15, .adr 3 0 4 0), (32, .p false (.slice (.prod (.int .i64) (.prod (.int .i64) (.prod (.int .i64) (.int .u8))))) r23.1), (33, .p false (.int .i64) (r23.1.length : Int)), (34, .p false (.int .i64) v4)] [(0, .box [.nils, .nils]), (1, .box [.p false (.slice (.prod (.int .i64) (.prod (.int .i64) (.prod (.int .i64) (.int .u8))))) r23.1, .p false (.slice (.int .u8)) r23.2]), (2, .box [.p false (.int .i64) r24.1, .p false (.int .i64) r24.2.1, .p false (.int .u8) (0 : Int), .p false (.int .i64) r24.2.2.2.1, .p false (.int .i64) r24.2.2.2.2.1, .p false .flt r24.2.2.2.2.2]), (3, .box [.p false (.int .i64) ((r23.1.getD v4.toNat ((0 : Int), ((0 : Int), ((0 : Int), (0 : Int))))).1), .p false (.int .i64) ((r23.1.getD v4.toNat ((0 : Int), ((0 : Int), ((0 : Int), (0 : Int))))).2.1), .p false (.int .i64) ((r23.1.getD v4.toNat ((0 : Int), ((0 : Int), ((0 : Int), (0 : Int))))).2.2.1), .p false (.int .u8) ((r23.1.getD v4.toNat ((0 : Int), ((0 : Int), ((0 : Int), (0 : Int))))).2.2.2)])] 4 0 [0 ≤ v4 ∧ v4 < (r23.1.length : Int), True, True, True] (by kernel_rfl) (by kernel_rfl) ⟨c16, trivial, trivial, trivial, trivial⟩ ?_
      refine to_then ?_
      refine W_reg tbok ⟨[], []⟩ [] [0, 1, 2] [(4, .adr 0 0 2 0), (9, .adr 1 0 2 0), (10, .adr 2 0 6 0), (11, .p false (.slice (.prod (.int .i64) (.prod (.int .i64) (.prod (.int .i64) (.int .u8))))) r27), (13, .p false (.int .i64) (IntKind.i64.wrap (n5 + ((r23.1.getD v4.toNat ((0 : Int), ((0 : Int), ((0 : Int), (0 : Int))))).2.1)))), (32, .p false (.slice (.prod (.int .i64) (.prod (.int .i64) (.prod (.int .i64) (.int .u8))))) r23.1), (33, .p false (.int .i64) (r23.1.length : Int)), (34, .p false (.int .i64) v4)] [(0, .box [.nils, .nils]), (1, .box [.p false (.slice (.prod (.int .i64) (.prod (.int .i64) (.prod (.int .i64) (.int .u8))))) r23.1, .p false (.slice (.int .u8)) r23.2]), (2, .box [.p false (.int .i64) r24.1, .p false (.int .i64) r24.2.1, .p false (.int .u8) (0 : Int), .p false (.int .i64) r24.2.2.2.1, .p false (.int .i64) r24.2.2.2.2.1, .p false .flt r24.2.2.2.2.2])] 3 0 [True, True, True, True, True] (by kernel_rfl) (by kernel_rfl) ⟨trivial, trivial, trivial, trivial, trivial, trivial⟩ ?_
      refine to_block ?_
      refine to_then ?_
      refine W_reg tbok ⟨[], []⟩ [] [0, 1, 2] [(4, .adr 0 0 2 0), (9, .adr 1 0 2 0), (10, .adr 2 0 6 0), (11, .p false (.slice (.prod (.int .i64) (.prod (.int .i64) (.prod (.int .i64) (.int .u8))))) r27), (13, .p false (.int .i64) (IntKind.i64.wrap (n5 + ((r23.1.getD v4.toNat ((0 : Int), ((0 : Int), ((0 : Int), (0 : Int))))).2.1)))), (32, .p false (.slice (.prod (.int .i64) (.prod (.int .i64) (.prod (.int .i64) (.int .u8))))) r23.1), (33, .p false (.int .i64) (r23.1.length : Int)), (34, .p false (.int .i64) (IntKind.i64.wrap (v4 + (1 : Int))))] [(0, .box [.nils, .nils]), (1, .box [.p false (.slice (.prod (.int .i64) (.prod (.int .i64) (.prod (.int .i64) (.int .u8))))) r23.1, .p false (.slice (.int .u8)) r23.2]), (2, .box [.p false (.int .i64) r24.1, .p false (.int .i64) r24.2.1, .p false (.int .u8) (0 : Int), .p false (.int .i64) r24.2.2.2.1, .p false (.int .i64) r24.2.2.2.2.1, .p false .flt r24.2.2.2.2.2])] 3 0 [True, True] (by kernel_rfl) (by kernel_rfl) ⟨trivial, trivial, trivial⟩ ?_
      obtain rfl := Option.some.inj h
      exact roundB (goal_le (gs := []) (f := [0, 1, 2]) (by kernel_rfl) (by kernel_rfl))
    · replace h := h_else hb6 h
      refine W_exit_to ?_
      refine thenE ?_
      obtain rfl := Option.some.inj h
      refine roundE ?_
      exact postX_to (goal_le (gs := []) (f := [0, 1, 2]) (by kernel_rfl) (by kernel_rfl))
  · clear hp2
    obtain ⟨rfl, hle⟩ := hq
    refine use_to ?_ hle
    refine blockE_eq ?_
    refine to_then ?_
    refine W_seq ?_
    obtain ⟨⟨r33, r34, r35, r36⟩, q16, h⟩ := h_bind h
    refine W_regD tbok mixed ⟨[], [(6, ⟨.adr 0 0 4 0, [false, false, false], true, [true, true, true], [], [(0, .box [.p false (.slice (.prod (.int .i64) (.prod (.int .i64) (.prod (.int .i64) (.int .u8))))) r33, .p false (.slice (.int .u8)) r34, .p false (.slice (.prod (.int .i64) (.prod (.int .i64) (.prod (.int .i64) (.int .u8))))) r35, .sl 1]), (1, .arr 46 (.slice (.int .i64)) r36)]⟩)]⟩ [] [0, 51, 52] [(4, .adr 0 0 2 0), (5, .p false (.slice (.prod (.int .i64) (.prod (.int .i64) (.prod (.int .i64) (.int .u8))))) r27), (6, .adr 1 0 4 0), (7, .p false (.int .i64) n6), (8, .p false (.int .i64) r24.2.1)] [(0, .box [.p false (.slice (.prod (.int .i64) (.prod (.int .i64) (.prod (.int .i64) (.int .u8))))) r23.1, .p false (.slice (.int .u8)) r23.2]), (1, .box [.p false (.slice (.prod (.int .i64) (.prod (.int .i64) (.prod (.int .i64) (.int .u8))))) r33, .p false (.slice (.int .u8)) r34, .p false (.slice (.prod (.int .i64) (.prod (.int .i64) (.prod (.int .i64) (.int .u8))))) r35, .sl 2]), (2, .arr 46 (.slice (.int .i64)) r36)] 3 0 [True, True, True, True, True, True, Owns Try.prog 19 [.agg [.p false (.slice (.prod (.int .i64) (.prod (.int .i64) (.prod (.int .i64) (.int .u8))))) r23.1, .p false (.slice (.int .u8)) r23.2], .p false (.slice (.prod (.int .i64) (.prod (.int .i64) (.prod (.int .i64) (.int .u8))))) r27, .p false (.int .i64) r24.2.1] [] (.adr 0 0 4 0) [(0, .box [.p false (.slice (.prod (.int .i64) (.prod (.int .i64) (.prod (.int .i64) (.int .u8))))) r33, .p false (.slice (.int .u8)) r34, .p false (.slice (.prod (.int .i64) (.prod (.int .i64) (.prod (.int .i64) (.int .u8))))) r35, .sl 1]), (1, .arr 46 (.slice (.int .i64)) r36)], True, True, True, True, True, True, True, True] (by kernel_rfl) (by kernel_rfl) ⟨trivial, trivial, trivial, trivial, trivial, trivial, (place_Make_ok r23.1 r23.2 r27 r24.2.1 _ q16), trivial, trivial, trivial, trivial, trivial, trivial, trivial, trivial, trivial⟩ ?_
    refine to_then ?_
    refine W_ret ?_
    obtain rfl := Option.some.inj h
    exact RetO_intro [some (.prod (.slice (.prod (.int .i64) (.prod (.int .i64) (.prod (.int .i64) (.int .u8))))) (.slice (.int .u8))), some (.slice (.prod (.int .i64) (.prod (.int .i64) (.prod (.int .i64) (.int .u8))))), none, some (.int .i64), some (.int .i64)] [] [1, 2, 0] [(4, .adr 2 0 2 0), (5, .p false (.slice (.prod (.int .i64) (.prod (.int .i64) (.prod (.int .i64) (.int .u8))))) r27), (6, .adr 0 0 4 0), (7, .p false (.int .i64) n6), (8, .p false (.int .i64) r24.2.1)] [(0, .box [.p false (.slice (.prod (.int .i64) (.prod (.int .i64) (.prod (.int .i64) (.int .u8))))) r33, .p false (.slice (.int .u8)) r34, .p false (.slice (.prod (.int .i64) (.prod (.int .i64) (.prod (.int .i64) (.int .u8))))) r35, .sl 1]), (1, .arr 46 (.slice (.int .i64)) r36), (2, .box [.p false (.slice (.prod (.int .i64) (.prod (.int .i64) (.prod (.int .i64) (.int .u8))))) r23.1, .p false (.slice (.int .u8)) r23.2])] 3 0 (by kernel_rfl) (by kernel_rfl) (by kernel_rfl)

end
end Go.Proofs.Ytdjjifeipeelhaa.T
