/- Functions of the program as functions on data, and that the program's own come to them. -/
import Derived.Test.YtcdmdcfpjeomfaaTvT07x0
namespace Go.Proofs.Ytcdmdcfpjeomfaa.T
open Go Go.Tv Go.Proofs
noncomputable section

/-- 'stanza/scal.need' -/
def scal_need (c1 : Int) : Option (Int × Int × Int) :=
  (if (decide (c1 < (128 : Int))) = true then some ((1 : Int), (0 : Int), (0 : Int))
  else (((if (decide (c1 < (194 : Int))) = true then some (true)
  else some ((decide (c1 > (244 : Int)))))).bind fun (v1 : Bool) => (if v1 = true then some ((0 : Int), (0 : Int), (0 : Int))
  else (if (decide (c1 < (224 : Int))) = true then some ((2 : Int), (128 : Int), (191 : Int))
  else (if (c1 == (224 : Int)) = true then some ((3 : Int), (160 : Int), (191 : Int))
  else (if (c1 == (237 : Int)) = true then some ((3 : Int), (128 : Int), (159 : Int))
  else (if (decide (c1 < (240 : Int))) = true then some ((3 : Int), (128 : Int), (191 : Int))
  else (if (c1 == (240 : Int)) = true then some ((4 : Int), (144 : Int), (191 : Int))
  else (if (c1 == (244 : Int)) = true then some ((4 : Int), (128 : Int), (143 : Int))
  else some ((4 : Int), (128 : Int), (191 : Int)))))))))))

set_option maxRecDepth 100000 in
set_option maxHeartbeats 4000000 in
theorem scal_need_ok (c1 : Int) (res : Int × Int × Int) (h : scal_need c1 = some res) :
    Pure Try.prog 30 [.p false (.int .u8) c1] (wrapR (encs false [⟨(.int .i64), res.1⟩, ⟨(.int .u8), res.2.1⟩, ⟨(.int .u8), res.2.2⟩])) := by
  refine Pure.of_body tbok Try.func30 (by kernel_rfl) rfl (Nat.le_of_ble_eq_true rfl) (fun Bw w0 => ?_) rfl
  unfold scal_need at h
  refine W_seq ?_
  refine W_reg tbok ⟨[], []⟩ [] [] [(0, .p false (.int .u8) c1)] [] 0 0 [True, True, True] (by kernel_rfl) (by kernel_rfl) ⟨trivial, trivial, trivial, trivial⟩ ?_
  refine to_then ?_
  refine W_seq ?_
  refine W_block ?_
  refine W_seq ?_
  refine W_reg tbok ⟨[], []⟩ [] [] [(0, .p false (.int .u8) c1), (5, .p false .bool (decide (c1 < (128 : Int))))] [] 0 0 [True, True, True] (by kernel_rfl) (by kernel_rfl) ⟨trivial, trivial, trivial, trivial⟩ ?_
  refine to_then ?_
  refine W_cond (b := (decide (c1 < (128 : Int)))) (β := false) (by kernel_rfl) (fun hb1 => ?_) (fun hb1 => ?_)
  · replace h := h_if hb1 h
    refine W_seq ?_
    refine W_reg tbok ⟨[], []⟩ [] [] [(2, .p false (.int .i64) (1 : Int)), (3, .p false (.int .u8) (0 : Int)), (4, .p false (.int .u8) (0 : Int))] [] 0 0 [True, True, True] (by kernel_rfl) (by kernel_rfl) ⟨trivial, trivial, trivial, trivial⟩ ?_
    refine to_then ?_
    refine W_ret ?_
    refine blockQ_ret ?_
    refine thenQ_ret ?_
    obtain rfl := Option.some.inj h
    exact Ret_intro [(.int .i64), (.int .u8), (.int .u8)] (by kernel_rfl)
  · replace h := h_else hb1 h
    refine W_seq ?_
    obtain ⟨v1, hp1, h⟩ := h_bind h
    refine W.mono (Q := (postN Try.f30.ntmps (fun (v1 : Bool) => mkSt [(0, .p false (.int .u8) c1), (8, .p false .bool v1)] [] 0)) v1) ?_ (fun e σ' hq => ?_)
    · replace h := hp1
      clear hp1
      rcases Bool.eq_false_or_eq_true (decide (c1 < (194 : Int))) with hb4 | hb4
      · replace h := h_if hb4 h
        refine W_reg tbok ⟨[(2, true), (5, true)], []⟩ [] [] [(0, .p false (.int .u8) c1), (8, .p false .bool true)] [] 0 0 [True, True, True, (decide (c1 < (194 : Int))) = true, (decide (c1 < (194 : Int))) = true, (decide (c1 < (194 : Int))) = true, True] (by kernel_rfl) (by kernel_rfl) ⟨trivial, trivial, trivial, hb4, hb4, hb4, trivial, trivial⟩ ?_
        obtain rfl := Option.some.inj h
        exact postN_to (goal_le (gs := []) (f := []) (by kernel_rfl) (by kernel_rfl))
      · replace h := h_else hb4 h
        refine W_reg tbok ⟨[(2, false), (5, false)], []⟩ [] [] [(0, .p false (.int .u8) c1), (8, .p false .bool (decide (c1 > (244 : Int))))] [] 0 0 [True, True, True, (decide (c1 < (194 : Int))) = false ∧ True, (decide (c1 < (194 : Int))) = false ∧ True, (decide (c1 < (194 : Int))) = false, True] (by kernel_rfl) (by kernel_rfl) ⟨trivial, trivial, trivial, ⟨hb4, trivial⟩, ⟨hb4, trivial⟩, hb4, trivial, trivial⟩ ?_
        obtain rfl := Option.some.inj h
        exact postN_to (goal_le (gs := []) (f := []) (by kernel_rfl) (by kernel_rfl))
    · clear hp1
      obtain ⟨rfl, hle⟩ := hq
      refine use_to ?_ hle
      refine to_then ?_
      refine W_cond (b := v1) (β := false) (by kernel_rfl) (fun hb5 => ?_) (fun hb5 => ?_)
      · replace h := h_if hb5 h
        refine W_seq ?_
        refine W_reg tbok ⟨[], []⟩ [] [] [(2, .p false (.int .i64) (0 : Int)), (3, .p false (.int .u8) (0 : Int)), (4, .p false (.int .u8) (0 : Int))] [] 0 0 [True, True, True] (by kernel_rfl) (by kernel_rfl) ⟨trivial, trivial, trivial, trivial⟩ ?_
        refine to_then ?_
        refine W_ret ?_
        refine blockQ_ret ?_
        refine thenQ_ret ?_
        obtain rfl := Option.some.inj h
        exact Ret_intro [(.int .i64), (.int .u8), (.int .u8)] (by kernel_rfl)
      · replace h := h_else hb5 h
        refine W_seq ?_
        refine W_reg tbok ⟨[], []⟩ [] [] [(0, .p false (.int .u8) c1), (15, .p false .bool (decide (c1 < (224 : Int))))] [] 0 0 [True, True, True] (by kernel_rfl) (by kernel_rfl) ⟨trivial, trivial, trivial, trivial⟩ ?_
        refine to_then ?_
        refine W_cond (b := (decide (c1 < (224 : Int)))) (β := false) (by kernel_rfl) (fun hb6 => ?_) (fun hb6 => ?_)
        · replace h := h_if hb6 h
          refine W_seq ?_
          refine W_reg tbok ⟨[], []⟩ [] [] [(2, .p false (.int .i64) (2 : Int)), (3, .p false (.int .u8) (128 : Int)), (4, .p false (.int .u8) (191 : Int))] [] 0 0 [True, True, True] (by kernel_rfl) (by kernel_rfl) ⟨trivial, trivial, trivial, trivial⟩ ?_
          refine to_then ?_
          refine W_ret ?_
          refine blockQ_ret ?_
          refine thenQ_ret ?_
          obtain rfl := Option.some.inj h
          exact Ret_intro [(.int .i64), (.int .u8), (.int .u8)] (by kernel_rfl)
        · replace h := h_else hb6 h
          refine W_seq ?_
          refine W_reg tbok ⟨[], []⟩ [] [] [(0, .p false (.int .u8) c1), (18, .p false .bool (c1 == (224 : Int)))] [] 0 0 [True, True, True] (by kernel_rfl) (by kernel_rfl) ⟨trivial, trivial, trivial, trivial⟩ ?_
          refine to_then ?_
          refine W_cond (b := (c1 == (224 : Int))) (β := false) (by kernel_rfl) (fun hb7 => ?_) (fun hb7 => ?_)
          · replace h := h_if hb7 h
            refine W_seq ?_
            refine W_reg tbok ⟨[], []⟩ [] [] [(2, .p false (.int .i64) (3 : Int)), (3, .p false (.int .u8) (160 : Int)), (4, .p false (.int .u8) (191 : Int))] [] 0 0 [True, True, True] (by kernel_rfl) (by kernel_rfl) ⟨trivial, trivial, trivial, trivial⟩ ?_
            refine to_then ?_
            refine W_ret ?_
            refine blockQ_ret ?_
            refine thenQ_ret ?_
            obtain rfl := Option.some.inj h
            exact Ret_intro [(.int .i64), (.int .u8), (.int .u8)] (by kernel_rfl)
          · replace h := h_else hb7 h
            refine W_seq ?_
            refine W_reg tbok ⟨[], []⟩ [] [] [(0, .p false (.int .u8) c1), (21, .p false .bool (c1 == (237 : Int)))] [] 0 0 [True, True, True] (by kernel_rfl) (by kernel_rfl) ⟨trivial, trivial, trivial, trivial⟩ ?_
            refine to_then ?_
            refine W_cond (b := (c1 == (237 : Int))) (β := false) (by kernel_rfl) (fun hb8 => ?_) (fun hb8 => ?_)
            · replace h := h_if hb8 h
              refine W_seq ?_
              refine W_reg tbok ⟨[], []⟩ [] [] [(2, .p false (.int .i64) (3 : Int)), (3, .p false (.int .u8) (128 : Int)), (4, .p false (.int .u8) (159 : Int))] [] 0 0 [True, True, True] (by kernel_rfl) (by kernel_rfl) ⟨trivial, trivial, trivial, trivial⟩ ?_
              refine to_then ?_
              refine W_ret ?_
              refine blockQ_ret ?_
              refine thenQ_ret ?_
              obtain rfl := Option.some.inj h
              exact Ret_intro [(.int .i64), (.int .u8), (.int .u8)] (by kernel_rfl)
            · replace h := h_else hb8 h
              refine W_seq ?_
              refine W_reg tbok ⟨[], []⟩ [] [] [(0, .p false (.int .u8) c1), (24, .p false .bool (decide (c1 < (240 : Int))))] [] 0 0 [True, True, True] (by kernel_rfl) (by kernel_rfl) ⟨trivial, trivial, trivial, trivial⟩ ?_
              refine to_then ?_
              refine W_cond (b := (decide (c1 < (240 : Int)))) (β := false) (by kernel_rfl) (fun hb9 => ?_) (fun hb9 => ?_)
              · replace h := h_if hb9 h
                refine W_seq ?_
                refine W_reg tbok ⟨[], []⟩ [] [] [(2, .p false (.int .i64) (3 : Int)), (3, .p false (.int .u8) (128 : Int)), (4, .p false (.int .u8) (191 : Int))] [] 0 0 [True, True, True] (by kernel_rfl) (by kernel_rfl) ⟨trivial, trivial, trivial, trivial⟩ ?_
                refine to_then ?_
                refine W_ret ?_
                refine blockQ_ret ?_
                refine thenQ_ret ?_
                obtain rfl := Option.some.inj h
                exact Ret_intro [(.int .i64), (.int .u8), (.int .u8)] (by kernel_rfl)
              · replace h := h_else hb9 h
                refine W_seq ?_
                refine W_reg tbok ⟨[], []⟩ [] [] [(0, .p false (.int .u8) c1), (27, .p false .bool (c1 == (240 : Int)))] [] 0 0 [True, True, True] (by kernel_rfl) (by kernel_rfl) ⟨trivial, trivial, trivial, trivial⟩ ?_
                refine to_then ?_
                refine W_cond (b := (c1 == (240 : Int))) (β := false) (by kernel_rfl) (fun hb10 => ?_) (fun hb10 => ?_)
                · replace h := h_if hb10 h
                  refine W_seq ?_
                  refine W_reg tbok ⟨[], []⟩ [] [] [(2, .p false (.int .i64) (4 : Int)), (3, .p false (.int .u8) (144 : Int)), (4, .p false (.int .u8) (191 : Int))] [] 0 0 [True, True, True] (by kernel_rfl) (by kernel_rfl) ⟨trivial, trivial, trivial, trivial⟩ ?_
                  refine to_then ?_
                  refine W_ret ?_
                  refine blockQ_ret ?_
                  refine thenQ_ret ?_
                  obtain rfl := Option.some.inj h
                  exact Ret_intro [(.int .i64), (.int .u8), (.int .u8)] (by kernel_rfl)
                · replace h := h_else hb10 h
                  refine W_seq ?_
                  refine W_reg tbok ⟨[], []⟩ [] [] [(30, .p false .bool (c1 == (244 : Int)))] [] 0 0 [True, True, True] (by kernel_rfl) (by kernel_rfl) ⟨trivial, trivial, trivial, trivial⟩ ?_
                  refine to_then ?_
                  refine W_cond (b := (c1 == (244 : Int))) (β := false) (by kernel_rfl) (fun hb11 => ?_) (fun hb11 => ?_)
                  · replace h := h_if hb11 h
                    refine W_seq ?_
                    refine W_reg tbok ⟨[], []⟩ [] [] [(2, .p false (.int .i64) (4 : Int)), (3, .p false (.int .u8) (128 : Int)), (4, .p false (.int .u8) (143 : Int))] [] 0 0 [True, True, True] (by kernel_rfl) (by kernel_rfl) ⟨trivial, trivial, trivial, trivial⟩ ?_
                    refine to_then ?_
                    refine W_ret ?_
                    refine blockQ_ret ?_
                    refine thenQ_ret ?_
                    obtain rfl := Option.some.inj h
                    exact Ret_intro [(.int .i64), (.int .u8), (.int .u8)] (by kernel_rfl)
                  · replace h := h_else hb11 h
                    refine W_skip_to ?_
                    refine to_block ?_
                    refine to_then ?_
                    refine W_seq ?_
                    refine W_reg tbok ⟨[], []⟩ [] [] [(2, .p false (.int .i64) (4 : Int)), (3, .p false (.int .u8) (128 : Int)), (4, .p false (.int .u8) (191 : Int))] [] 0 0 [True, True, True] (by kernel_rfl) (by kernel_rfl) ⟨trivial, trivial, trivial, trivial⟩ ?_
                    refine to_then ?_
                    refine W_ret ?_
                    obtain rfl := Option.some.inj h
                    exact Ret_intro [(.int .i64), (.int .u8), (.int .u8)] (by kernel_rfl)

/-- a loop of 'stanza/scal.One': one round -/
def scal_One_L1 (d1 : List Int) (i1 : Int) (r4 : Int) : (Int × Int × Int × Int × Int) → Option ((Int × Int × Int × Int × Int) ⊕ ((Int × Int) ⊕ (Int × Int × Int))) := fun ((v10, v11, v12, v13, v14) : Int × Int × Int × Int × Int) =>
  (if (decide (v14 < r4)) = true then (((if (decide ((IntKind.i64.wrap (i1 + v14)) ≥ (d1.length : Int))) = true then some (true)
  else (if 0 ≤ (IntKind.i64.wrap (i1 + v14)) ∧ (IntKind.i64.wrap (i1 + v14)) < (d1.length : Int) then (if (decide ((d1.getD ((IntKind.i64.wrap (i1 + v14)).toNat) (0 : Int)) < v10)) = true then some (true)
  else (if 0 ≤ (IntKind.i64.wrap (i1 + v14)) ∧ (IntKind.i64.wrap (i1 + v14)) < (d1.length : Int) then some ((decide ((d1.getD ((IntKind.i64.wrap (i1 + v14)).toNat) (0 : Int)) > v11))) else none)) else none))).bind fun (v17 : Bool) => (if v17 = true then some (Sum.inr (Sum.inr ((65533 : Int), (i1, v12))))
  else (if 0 ≤ (6 : Int) then (if 0 ≤ (IntKind.i64.wrap (i1 + v14)) ∧ (IntKind.i64.wrap (i1 + v14)) < (d1.length : Int) then some (Sum.inl ((128 : Int), (191 : Int), (IntKind.i64.wrap (v14 + (1 : Int))), (bitsOf .or .i32 (IntKind.i32.wrap (v13 * 2 ^ (min (6 : Int).toNat IntKind.i32.bits))) (IntKind.i32.wrap (bitsOf .and .u8 (d1.getD ((IntKind.i64.wrap (i1 + v14)).toNat) (0 : Int)) (63 : Int)))), (IntKind.i64.wrap (v14 + (1 : Int))))) else none) else none)))
  else some (Sum.inr (Sum.inl (v12, v13))))

/-- 'stanza/scal.One' -/
def scal_One (d1 : List Int) (i1 : Int) : Option (Int × Int × Int) :=
  (((if (decide (i1 < (0 : Int))) = true then some (true)
  else some ((decide (i1 ≥ (d1.length : Int)))))).bind fun (v1 : Bool) => (if v1 = true then some ((0 : Int), ((0 : Int), (0 : Int)))
  else (if 0 ≤ i1 ∧ i1 < (d1.length : Int) then ((scal_need (d1.getD i1.toNat (0 : Int))).bind fun ((r4, r5, r6) : Int × Int × Int) =>
  (if (decide (r4 < (2 : Int))) = true then (((if (r4 == (1 : Int)) = true then (if 0 ≤ i1 ∧ i1 < (d1.length : Int) then some ((IntKind.i32.wrap (d1.getD i1.toNat (0 : Int)))) else none)
  else some ((65533 : Int)))).bind fun (v2 : Int) => some (v2, (i1, (1 : Int))))
  else (if 0 ≤ i1 ∧ i1 < (d1.length : Int) then (if 0 ≤ r4 then ((iter (scal_One_L1 d1 i1 r4) (r5, r6, (1 : Int), (bitsOf .and .i32 (IntKind.i32.wrap (d1.getD i1.toNat (0 : Int))) (Int.fdiv (127 : Int) (2 ^ (min r4.toNat IntKind.i32.bits)))), (1 : Int))).bind fun (r8 : ((Int × Int) ⊕ (Int × Int × Int))) => match r8 with
  | .inl (v15, v16) => some (v16, (i1, v15))
  | .inr (r7) => some r7) else none) else none))) else none)))

set_option maxRecDepth 100000 in
set_option maxHeartbeats 4000000 in
theorem scal_One_ok (β0 : Bool) (d1 : List Int) (i1 : Int) (res : Int × Int × Int) (h : scal_One d1 i1 = some res) :
    Pure Try.prog 25 [.p β0 (.slice (.int .u8)) d1, .p false (.int .i64) i1] (wrapR (encs false [⟨(.prod (.int .i32) (.prod (.int .i64) (.int .i64))), res⟩])) := by
  refine Pure.of_body tbok Try.func25 (by kernel_rfl) rfl (Nat.le_of_ble_eq_true rfl) (fun Bw w0 => ?_) rfl
  unfold scal_One at h
  refine W_seq ?_
  refine W_reg tbok ⟨[], []⟩ [] [0] [(0, .p β0 (.slice (.int .u8)) d1), (1, .p false (.int .i64) i1), (4, .adr 0 0 3 0)] [(0, .box [.p false (.int .i32) (0 : Int), .p false (.int .i64) (0 : Int), .p false (.int .i64) (0 : Int)])] 1 0 [True] (by kernel_rfl) (by kernel_rfl) ⟨trivial, trivial⟩ ?_
  refine to_then ?_
  refine W_seq ?_
  refine W_seq ?_
  obtain ⟨v1, hp1, h⟩ := h_bind h
  refine W.mono (Q := (postN Try.f25.ntmps (fun (v1 : Bool) => mkSt [(0, .p β0 (.slice (.int .u8)) d1), (1, .p false (.int .i64) i1), (4, .adr 0 0 3 0), (18, .p false .bool v1)] [(0, .box [.p false (.int .i32) (0 : Int), .p false (.int .i64) (0 : Int), .p false (.int .i64) (0 : Int)])] 1)) v1) ?_ (fun e σ' hq => ?_)
  · replace h := hp1
    clear hp1
    rcases Bool.eq_false_or_eq_true (decide (i1 < (0 : Int))) with hb3 | hb3
    · replace h := h_if hb3 h
      refine W_reg tbok ⟨[(2, true), (7, true)], []⟩ [] [0] [(0, .p β0 (.slice (.int .u8)) d1), (1, .p false (.int .i64) i1), (4, .adr 0 0 3 0), (18, .p false .bool true)] [(0, .box [.p false (.int .i32) (0 : Int), .p false (.int .i64) (0 : Int), .p false (.int .i64) (0 : Int)])] 1 0 [True, True, True, (decide (i1 < (0 : Int))) = true, (decide (i1 < (0 : Int))) = true, (decide (i1 < (0 : Int))) = true, (decide (i1 < (0 : Int))) = true, (decide (i1 < (0 : Int))) = true] (by kernel_rfl) (by kernel_rfl) ⟨trivial, trivial, trivial, hb3, hb3, hb3, hb3, hb3, trivial⟩ ?_
      obtain rfl := Option.some.inj h
      exact postN_to (goal_le (gs := []) (f := [0]) (by kernel_rfl) (by kernel_rfl))
    · replace h := h_else hb3 h
      refine W_reg tbok ⟨[(2, false), (7, false)], []⟩ [] [0] [(0, .p β0 (.slice (.int .u8)) d1), (1, .p false (.int .i64) i1), (4, .adr 0 0 3 0), (18, .p false .bool (decide (i1 ≥ (d1.length : Int))))] [(0, .box [.p false (.int .i32) (0 : Int), .p false (.int .i64) (0 : Int), .p false (.int .i64) (0 : Int)])] 1 0 [True, True, True, (decide (i1 < (0 : Int))) = false ∧ True, (decide (i1 < (0 : Int))) = false ∧ True, (decide (i1 < (0 : Int))) = false ∧ True, (decide (i1 < (0 : Int))) = false ∧ True, (decide (i1 < (0 : Int))) = false] (by kernel_rfl) (by kernel_rfl) ⟨trivial, trivial, trivial, ⟨hb3, trivial⟩, ⟨hb3, trivial⟩, ⟨hb3, trivial⟩, ⟨hb3, trivial⟩, hb3, trivial⟩ ?_
      obtain rfl := Option.some.inj h
      exact postN_to (goal_le (gs := []) (f := [0]) (by kernel_rfl) (by kernel_rfl))
  · clear hp1
    obtain ⟨rfl, hle⟩ := hq
    refine use_to ?_ hle
    refine to_then ?_
    refine W_cond (b := v1) (β := false) (by kernel_rfl) (fun hb4 => ?_) (fun hb4 => ?_)
    · replace h := h_if hb4 h
      refine W_seq ?_
      refine W_reg tbok ⟨[], []⟩ [] [0] [(4, .adr 0 0 3 0)] [(0, .box [.p false (.int .i32) (0 : Int), .p false (.int .i64) (0 : Int), .p false (.int .i64) (0 : Int)])] 1 0 [True, True] (by kernel_rfl) (by kernel_rfl) ⟨trivial, trivial, trivial⟩ ?_
      refine to_then ?_
      refine W_ret ?_
      refine thenQ_ret ?_
      obtain rfl := Option.some.inj h
      exact Ret_intro [(.prod (.int .i32) (.prod (.int .i64) (.int .i64)))] (by kernel_rfl)
    · replace h := h_else hb4 h
      refine W_skip_to ?_
      refine to_then ?_
      refine W_seq ?_
      obtain ⟨c2, h⟩ := h_guard h
      obtain ⟨⟨r4, r5, r6⟩, q2, h⟩ := h_bind h
      refine W_reg tbok ⟨[], [(4, ⟨.tup [.p false (.int .i64) r4, .p false (.int .u8) r5, .p false (.int .u8) r6], [false], false, [true], [], []⟩)]⟩ [] [0] [(0, .p β0 (.slice (.int .u8)) d1), (1, .p false (.int .i64) i1), (4, .adr 0 0 3 0), (5, .p false (.int .i64) r4), (6, .p false (.int .u8) r5), (7, .p false (.int .u8) r6)] [(0, .box [.p false (.int .i32) (0 : Int), .p false (.int .i64) (0 : Int), .p false (.int .i64) (0 : Int)])] 1 0 [True, True, 0 ≤ i1 ∧ i1 < (d1.length : Int), True, Pure Try.prog 30 [.p false (.int .u8) (d1.getD i1.toNat (0 : Int))] (.tup [.p false (.int .i64) r4, .p false (.int .u8) r5, .p false (.int .u8) r6]), True, True, True, True, True, True, True] (by kernel_rfl) (by kernel_rfl) ⟨trivial, trivial, c2, trivial, (scal_need_ok (d1.getD i1.toNat (0 : Int)) _ q2), trivial, trivial, trivial, trivial, trivial, trivial, trivial, trivial⟩ ?_
      refine to_then ?_
      refine W_seq ?_
      refine W_reg tbok ⟨[], []⟩ [] [0, 17] [(0, .p β0 (.slice (.int .u8)) d1), (1, .p false (.int .i64) i1), (4, .adr 0 0 3 0), (5, .p false (.int .i64) r4), (6, .p false (.int .u8) r5), (7, .p false (.int .u8) r6), (8, .adr 1 0 3 0)] [(0, .box [.p false (.int .i32) (0 : Int), .p false (.int .i64) (0 : Int), .p false (.int .i64) (0 : Int)]), (1, .box [.p false (.int .i32) (65533 : Int), .p false (.int .i64) i1, .p false (.int .i64) (1 : Int)])] 2 0 [True, True, True, True] (by kernel_rfl) (by kernel_rfl) ⟨trivial, trivial, trivial, trivial, trivial⟩ ?_
      refine to_then ?_
      refine W_seq ?_
      refine W_seq ?_
      refine W_reg tbok ⟨[], []⟩ [] [0, 1] [(0, .p β0 (.slice (.int .u8)) d1), (1, .p false (.int .i64) i1), (4, .adr 0 0 3 0), (5, .p false (.int .i64) r4), (6, .p false (.int .u8) r5), (7, .p false (.int .u8) r6), (8, .adr 1 0 3 0), (32, .p false .bool (decide (r4 < (2 : Int))))] [(0, .box [.p false (.int .i32) (0 : Int), .p false (.int .i64) (0 : Int), .p false (.int .i64) (0 : Int)]), (1, .box [.p false (.int .i32) (65533 : Int), .p false (.int .i64) i1, .p false (.int .i64) (1 : Int)])] 2 0 [True, True] (by kernel_rfl) (by kernel_rfl) ⟨trivial, trivial, trivial⟩ ?_
      refine to_then ?_
      refine W_cond (b := (decide (r4 < (2 : Int)))) (β := false) (by kernel_rfl) (fun hb5 => ?_) (fun hb5 => ?_)
      · replace h := h_if hb5 h
        refine W_seq ?_
        refine W_seq ?_
        refine W_reg tbok ⟨[], []⟩ [] [0, 1] [(0, .p β0 (.slice (.int .u8)) d1), (1, .p false (.int .i64) i1), (4, .adr 0 0 3 0), (8, .adr 1 0 3 0), (34, .p false .bool (r4 == (1 : Int)))] [(0, .box [.p false (.int .i32) (0 : Int), .p false (.int .i64) (0 : Int), .p false (.int .i64) (0 : Int)]), (1, .box [.p false (.int .i32) (65533 : Int), .p false (.int .i64) i1, .p false (.int .i64) (1 : Int)])] 2 0 [True, True] (by kernel_rfl) (by kernel_rfl) ⟨trivial, trivial, trivial⟩ ?_
        refine to_then ?_
        obtain ⟨v2, hp2, h⟩ := h_bind h
        refine W.mono (Q := (postN Try.f25.ntmps (fun (v2 : Int) => mkSt [(4, .adr 0 0 3 0), (8, .adr 1 0 3 0)] [(0, .box [.p false (.int .i32) (0 : Int), .p false (.int .i64) (0 : Int), .p false (.int .i64) (0 : Int)]), (1, .box [.p false (.int .i32) v2, .p false (.int .i64) i1, .p false (.int .i64) (1 : Int)])] 2)) v2) ?_ (fun e σ' hq => ?_)
        · replace h := hp2
          clear hp2
          refine W_cond (b := (r4 == (1 : Int))) (β := false) (by kernel_rfl) (fun hb7 => ?_) (fun hb7 => ?_)
          · replace h := h_if hb7 h
            obtain ⟨c6, h⟩ := h_guard h
            refine W_reg tbok ⟨[], []⟩ [] [0, 1] [(4, .adr 0 0 3 0), (8, .adr 1 0 3 0)] [(0, .box [.p false (.int .i32) (0 : Int), .p false (.int .i64) (0 : Int), .p false (.int .i64) (0 : Int)]), (1, .box [.p false (.int .i32) (IntKind.i32.wrap (d1.getD i1.toNat (0 : Int))), .p false (.int .i64) i1, .p false (.int .i64) (1 : Int)])] 2 0 [True, True, 0 ≤ i1 ∧ i1 < (d1.length : Int), True, True, True, True] (by kernel_rfl) (by kernel_rfl) ⟨trivial, trivial, c6, trivial, trivial, trivial, trivial, trivial⟩ ?_
            obtain rfl := Option.some.inj h
            exact postN_to (goal_le (gs := []) (f := [0, 1]) (by kernel_rfl) (by kernel_rfl))
          · replace h := h_else hb7 h
            refine W_skip_to ?_
            obtain rfl := Option.some.inj h
            exact postN_to (goal_le (gs := []) (f := [0, 1]) (by kernel_rfl) (by kernel_rfl))
        · clear hp2
          obtain ⟨rfl, hle⟩ := hq
          refine use_to ?_ hle
          refine to_then ?_
          refine W_seq ?_
          refine W_reg tbok ⟨[], []⟩ [] [0] [(4, .adr 0 0 3 0)] [(0, .box [.p false (.int .i32) v2, .p false (.int .i64) i1, .p false (.int .i64) (1 : Int)])] 1 0 [True, True] (by kernel_rfl) (by kernel_rfl) ⟨trivial, trivial, trivial⟩ ?_
          refine to_then ?_
          refine W_ret ?_
          refine thenQ_ret ?_
          obtain rfl := Option.some.inj h
          exact Ret_intro [(.prod (.int .i32) (.prod (.int .i64) (.int .i64)))] (by kernel_rfl)
      · replace h := h_else hb5 h
        refine W_skip_to ?_
        refine to_then ?_
        refine W_seq ?_
        obtain ⟨c9, h⟩ := h_guard h
        obtain ⟨c10, h⟩ := h_guard h
        refine W_regD tbok mixed ⟨[], []⟩ [] [0, 1] [(0, .p β0 (.slice (.int .u8)) d1), (1, .p false (.int .i64) i1), (4, .adr 0 0 3 0), (5, .p false (.int .i64) r4), (6, .p false (.int .u8) r5), (7, .p false (.int .u8) r6), (8, .adr 1 0 3 0), (9, .p false (.int .i32) (bitsOf .and .i32 (IntKind.i32.wrap (d1.getD i1.toNat (0 : Int))) (Int.fdiv (127 : Int) (2 ^ (min r4.toNat IntKind.i32.bits)))))] [(0, .box [.p false (.int .i32) (0 : Int), .p false (.int .i64) (0 : Int), .p false (.int .i64) (0 : Int)]), (1, .box [.p false (.int .i32) (65533 : Int), .p false (.int .i64) i1, .p false (.int .i64) (1 : Int)])] 2 0 [True, True, 0 ≤ i1 ∧ i1 < (d1.length : Int), True, True, True, 0 ≤ r4, True, True] (by kernel_rfl) (by kernel_rfl) ⟨trivial, trivial, c9, trivial, trivial, trivial, c10, trivial, trivial, trivial⟩ ?_
        refine to_then ?_
        refine W_seq ?_
        refine W_seq ?_
        refine W_reg tbok ⟨[], []⟩ [] [0, 1] [(0, .p β0 (.slice (.int .u8)) d1), (1, .p false (.int .i64) i1), (4, .adr 0 0 3 0), (5, .p false (.int .i64) r4), (6, .p false (.int .u8) r5), (7, .p false (.int .u8) r6), (8, .adr 1 0 3 0), (9, .p false (.int .i32) (bitsOf .and .i32 (IntKind.i32.wrap (d1.getD i1.toNat (0 : Int))) (Int.fdiv (127 : Int) (2 ^ (min r4.toNat IntKind.i32.bits))))), (10, .p false (.int .i64) (1 : Int))] [(0, .box [.p false (.int .i32) (0 : Int), .p false (.int .i64) (0 : Int), .p false (.int .i64) (0 : Int)]), (1, .box [.p false (.int .i32) (65533 : Int), .p false (.int .i64) i1, .p false (.int .i64) (1 : Int)])] 2 0 [True] (by kernel_rfl) (by kernel_rfl) ⟨trivial, trivial⟩ ?_
        refine to_then ?_
        refine W_block ?_
        obtain ⟨r8, hp6, h⟩ := h_bind h
        refine W.mono (Q := (postS (postX Try.f25.ntmps 0 (fun ((v15, v16) : Int × Int) => mkSt [(4, .adr 0 0 3 0), (8, .adr 1 0 3 0), (9, .p false (.int .i32) v16)] [(0, .box [.p false (.int .i32) (0 : Int), .p false (.int .i64) (0 : Int), .p false (.int .i64) (0 : Int)]), (1, .box [.p false (.int .i32) (65533 : Int), .p false (.int .i64) i1, .p false (.int .i64) v15])] 2)) (postR tb Try.f25.results.toList (fun (r7 : Int × Int × Int) => [⟨(.prod (.int .i32) (.prod (.int .i64) (.int .i64))), r7⟩]))) r8) (W_iter (f := fun ((v10, v11, v12, v13, v14) : Int × Int × Int × Int × Int) => mkSt [(0, .p β0 (.slice (.int .u8)) d1), (1, .p false (.int .i64) i1), (4, .adr 0 0 3 0), (5, .p false (.int .i64) r4), (6, .p false (.int .u8) v10), (7, .p false (.int .u8) v11), (8, .adr 1 0 3 0), (9, .p false (.int .i32) v13), (10, .p false (.int .i64) v14)] [(0, .box [.p false (.int .i32) (0 : Int), .p false (.int .i64) (0 : Int), .p false (.int .i64) (0 : Int)]), (1, .box [.p false (.int .i32) (65533 : Int), .p false (.int .i64) i1, .p false (.int .i64) v12])] 2) (Q := (postS (postX Try.f25.ntmps 0 (fun ((v15, v16) : Int × Int) => mkSt [(4, .adr 0 0 3 0), (8, .adr 1 0 3 0), (9, .p false (.int .i32) v16)] [(0, .box [.p false (.int .i32) (0 : Int), .p false (.int .i64) (0 : Int), .p false (.int .i64) (0 : Int)]), (1, .box [.p false (.int .i32) (65533 : Int), .p false (.int .i64) i1, .p false (.int .i64) v15])] 2)) (postR tb Try.f25.results.toList (fun (r7 : Int × Int × Int) => [⟨(.prod (.int .i32) (.prod (.int .i64) (.int .i64))), r7⟩])))) hp6 (goal_le (gs := []) (f := [0, 1]) (by kernel_rfl) (by kernel_rfl)) (fun y o ho => ?_)) (fun e σ' hq => ?_)
        · obtain ⟨v10, v11, v12, v13, v14⟩ := y
          replace h := ho
          clear ho hp6
          unfold scal_One_L1 at h
          refine W_seq ?_
          refine W_seq ?_
          refine W_reg tbok ⟨[], []⟩ [] [0, 1] [(0, .p β0 (.slice (.int .u8)) d1), (1, .p false (.int .i64) i1), (4, .adr 0 0 3 0), (5, .p false (.int .i64) r4), (6, .p false (.int .u8) v10), (7, .p false (.int .u8) v11), (8, .adr 1 0 3 0), (9, .p false (.int .i32) v13), (10, .p false (.int .i64) v14), (52, .p false .bool (decide (v14 < r4)))] [(0, .box [.p false (.int .i32) (0 : Int), .p false (.int .i64) (0 : Int), .p false (.int .i64) (0 : Int)]), (1, .box [.p false (.int .i32) (65533 : Int), .p false (.int .i64) i1, .p false (.int .i64) v12])] 2 0 [True, True, True] (by kernel_rfl) (by kernel_rfl) ⟨trivial, trivial, trivial, trivial⟩ ?_
          refine to_then ?_
          refine W_cond (b := (decide (v14 < r4))) (β := false) (by kernel_rfl) (fun hb24 => ?_) (fun hb24 => ?_)
          · replace h := h_if hb24 h
            refine W_skip_to ?_
            refine to_then ?_
            refine W_seq ?_
            refine W_block ?_
            refine W_seq ?_
            refine W_seq ?_
            obtain ⟨v17, hp5, h⟩ := h_bind h
            refine W.mono (Q := (postN Try.f25.ntmps (fun (v17 : Bool) => mkSt [(0, .p β0 (.slice (.int .u8)) d1), (1, .p false (.int .i64) i1), (4, .adr 0 0 3 0), (5, .p false (.int .i64) r4), (8, .adr 1 0 3 0), (9, .p false (.int .i32) v13), (10, .p false (.int .i64) v14), (80, .p false .bool v17)] [(0, .box [.p false (.int .i32) (0 : Int), .p false (.int .i64) (0 : Int), .p false (.int .i64) (0 : Int)]), (1, .box [.p false (.int .i32) (65533 : Int), .p false (.int .i64) i1, .p false (.int .i64) v12])] 2)) v17) ?_ (fun e σ' hq => ?_)
            · replace h := hp5
              clear hp5
              rcases Bool.eq_false_or_eq_true (decide ((IntKind.i64.wrap (i1 + v14)) ≥ (d1.length : Int))) with hb29 | hb29
              · replace h := h_if hb29 h
                refine W_reg tbok ⟨[(6, true), (15, true), (16, true), (25, true)], []⟩ [] [0, 1] [(0, .p β0 (.slice (.int .u8)) d1), (1, .p false (.int .i64) i1), (4, .adr 0 0 3 0), (5, .p false (.int .i64) r4), (8, .adr 1 0 3 0), (9, .p false (.int .i32) v13), (10, .p false (.int .i64) v14), (80, .p false .bool true)] [(0, .box [.p false (.int .i32) (0 : Int), .p false (.int .i64) (0 : Int), .p false (.int .i64) (0 : Int)]), (1, .box [.p false (.int .i32) (65533 : Int), .p false (.int .i64) i1, .p false (.int .i64) v12])] 2 0 [True, True, True, True, True, True, True, (decide ((IntKind.i64.wrap (i1 + v14)) ≥ (d1.length : Int))) = true, (decide ((IntKind.i64.wrap (i1 + v14)) ≥ (d1.length : Int))) = true, (decide ((IntKind.i64.wrap (i1 + v14)) ≥ (d1.length : Int))) = true, (decide ((IntKind.i64.wrap (i1 + v14)) ≥ (d1.length : Int))) = true, (decide ((IntKind.i64.wrap (i1 + v14)) ≥ (d1.length : Int))) = true, (decide ((IntKind.i64.wrap (i1 + v14)) ≥ (d1.length : Int))) = true, (decide ((IntKind.i64.wrap (i1 + v14)) ≥ (d1.length : Int))) = true, (decide ((IntKind.i64.wrap (i1 + v14)) ≥ (d1.length : Int))) = true, (decide ((IntKind.i64.wrap (i1 + v14)) ≥ (d1.length : Int))) = true, True, true = true, true = true, true = true, true = true, true = true, true = true, true = true, true = true, true = true] (by kernel_rfl) (by kernel_rfl) ⟨trivial, trivial, trivial, trivial, trivial, trivial, trivial, hb29, hb29, hb29, hb29, hb29, hb29, hb29, hb29, hb29, trivial, rfl, rfl, rfl, rfl, rfl, rfl, rfl, rfl, rfl, trivial⟩ ?_
                obtain rfl := Option.some.inj h
                exact postN_to (goal_le (gs := []) (f := [0, 1]) (by kernel_rfl) (by kernel_rfl))
              · replace h := h_else hb29 h
                obtain ⟨c35, h⟩ := h_guard h
                rcases Bool.eq_false_or_eq_true (decide ((d1.getD ((IntKind.i64.wrap (i1 + v14)).toNat) (0 : Int)) < v10)) with hb30 | hb30
                · replace h := h_if hb30 h
                  refine W_reg tbok ⟨[(6, false), (15, false), (16, true), (25, true)], []⟩ [] [0, 1] [(0, .p β0 (.slice (.int .u8)) d1), (1, .p false (.int .i64) i1), (4, .adr 0 0 3 0), (5, .p false (.int .i64) r4), (8, .adr 1 0 3 0), (9, .p false (.int .i32) v13), (10, .p false (.int .i64) v14), (80, .p false .bool true)] [(0, .box [.p false (.int .i32) (0 : Int), .p false (.int .i64) (0 : Int), .p false (.int .i64) (0 : Int)]), (1, .box [.p false (.int .i32) (65533 : Int), .p false (.int .i64) i1, .p false (.int .i64) v12])] 2 0 [True, True, True, True, True, True, True, (decide ((IntKind.i64.wrap (i1 + v14)) ≥ (d1.length : Int))) = false ∧ True, (decide ((IntKind.i64.wrap (i1 + v14)) ≥ (d1.length : Int))) = false ∧ True, (decide ((IntKind.i64.wrap (i1 + v14)) ≥ (d1.length : Int))) = false ∧ True, (decide ((IntKind.i64.wrap (i1 + v14)) ≥ (d1.length : Int))) = false ∧ True, (decide ((IntKind.i64.wrap (i1 + v14)) ≥ (d1.length : Int))) = false ∧ 0 ≤ (IntKind.i64.wrap (i1 + v14)) ∧ (IntKind.i64.wrap (i1 + v14)) < (d1.length : Int), (decide ((IntKind.i64.wrap (i1 + v14)) ≥ (d1.length : Int))) = false ∧ True, (decide ((IntKind.i64.wrap (i1 + v14)) ≥ (d1.length : Int))) = false ∧ True, (decide ((IntKind.i64.wrap (i1 + v14)) ≥ (d1.length : Int))) = false ∧ True, (decide ((IntKind.i64.wrap (i1 + v14)) ≥ (d1.length : Int))) = false, True, (decide ((d1.getD ((IntKind.i64.wrap (i1 + v14)).toNat) (0 : Int)) < v10)) = true, (decide ((d1.getD ((IntKind.i64.wrap (i1 + v14)).toNat) (0 : Int)) < v10)) = true, (decide ((d1.getD ((IntKind.i64.wrap (i1 + v14)).toNat) (0 : Int)) < v10)) = true, (decide ((d1.getD ((IntKind.i64.wrap (i1 + v14)).toNat) (0 : Int)) < v10)) = true, (decide ((d1.getD ((IntKind.i64.wrap (i1 + v14)).toNat) (0 : Int)) < v10)) = true, (decide ((d1.getD ((IntKind.i64.wrap (i1 + v14)).toNat) (0 : Int)) < v10)) = true, (decide ((d1.getD ((IntKind.i64.wrap (i1 + v14)).toNat) (0 : Int)) < v10)) = true, (decide ((d1.getD ((IntKind.i64.wrap (i1 + v14)).toNat) (0 : Int)) < v10)) = true, (decide ((d1.getD ((IntKind.i64.wrap (i1 + v14)).toNat) (0 : Int)) < v10)) = true] (by kernel_rfl) (by kernel_rfl) ⟨trivial, trivial, trivial, trivial, trivial, trivial, trivial, ⟨hb29, trivial⟩, ⟨hb29, trivial⟩, ⟨hb29, trivial⟩, ⟨hb29, trivial⟩, ⟨hb29, c35⟩, ⟨hb29, trivial⟩, ⟨hb29, trivial⟩, ⟨hb29, trivial⟩, hb29, trivial, hb30, hb30, hb30, hb30, hb30, hb30, hb30, hb30, hb30, trivial⟩ ?_
                  obtain rfl := Option.some.inj h
                  exact postN_to (goal_le (gs := []) (f := [0, 1]) (by kernel_rfl) (by kernel_rfl))
                · replace h := h_else hb30 h
                  obtain ⟨c36, h⟩ := h_guard h
                  refine W_reg tbok ⟨[(6, false), (15, false), (16, false), (25, false)], []⟩ [] [0, 1] [(0, .p β0 (.slice (.int .u8)) d1), (1, .p false (.int .i64) i1), (4, .adr 0 0 3 0), (5, .p false (.int .i64) r4), (8, .adr 1 0 3 0), (9, .p false (.int .i32) v13), (10, .p false (.int .i64) v14), (80, .p false .bool (decide ((d1.getD ((IntKind.i64.wrap (i1 + v14)).toNat) (0 : Int)) > v11)))] [(0, .box [.p false (.int .i32) (0 : Int), .p false (.int .i64) (0 : Int), .p false (.int .i64) (0 : Int)]), (1, .box [.p false (.int .i32) (65533 : Int), .p false (.int .i64) i1, .p false (.int .i64) v12])] 2 0 [True, True, True, True, True, True, True, (decide ((IntKind.i64.wrap (i1 + v14)) ≥ (d1.length : Int))) = false ∧ True, (decide ((IntKind.i64.wrap (i1 + v14)) ≥ (d1.length : Int))) = false ∧ True, (decide ((IntKind.i64.wrap (i1 + v14)) ≥ (d1.length : Int))) = false ∧ True, (decide ((IntKind.i64.wrap (i1 + v14)) ≥ (d1.length : Int))) = false ∧ True, (decide ((IntKind.i64.wrap (i1 + v14)) ≥ (d1.length : Int))) = false ∧ 0 ≤ (IntKind.i64.wrap (i1 + v14)) ∧ (IntKind.i64.wrap (i1 + v14)) < (d1.length : Int), (decide ((IntKind.i64.wrap (i1 + v14)) ≥ (d1.length : Int))) = false ∧ True, (decide ((IntKind.i64.wrap (i1 + v14)) ≥ (d1.length : Int))) = false ∧ True, (decide ((IntKind.i64.wrap (i1 + v14)) ≥ (d1.length : Int))) = false ∧ True, (decide ((IntKind.i64.wrap (i1 + v14)) ≥ (d1.length : Int))) = false, True, (decide ((d1.getD ((IntKind.i64.wrap (i1 + v14)).toNat) (0 : Int)) < v10)) = false ∧ True, (decide ((d1.getD ((IntKind.i64.wrap (i1 + v14)).toNat) (0 : Int)) < v10)) = false ∧ True, (decide ((d1.getD ((IntKind.i64.wrap (i1 + v14)).toNat) (0 : Int)) < v10)) = false ∧ True, (decide ((d1.getD ((IntKind.i64.wrap (i1 + v14)).toNat) (0 : Int)) < v10)) = false ∧ True, (decide ((d1.getD ((IntKind.i64.wrap (i1 + v14)).toNat) (0 : Int)) < v10)) = false ∧ 0 ≤ (IntKind.i64.wrap (i1 + v14)) ∧ (IntKind.i64.wrap (i1 + v14)) < (d1.length : Int), (decide ((d1.getD ((IntKind.i64.wrap (i1 + v14)).toNat) (0 : Int)) < v10)) = false ∧ True, (decide ((d1.getD ((IntKind.i64.wrap (i1 + v14)).toNat) (0 : Int)) < v10)) = false ∧ True, (decide ((d1.getD ((IntKind.i64.wrap (i1 + v14)).toNat) (0 : Int)) < v10)) = false ∧ True, (decide ((d1.getD ((IntKind.i64.wrap (i1 + v14)).toNat) (0 : Int)) < v10)) = false] (by kernel_rfl) (by kernel_rfl) ⟨trivial, trivial, trivial, trivial, trivial, trivial, trivial, ⟨hb29, trivial⟩, ⟨hb29, trivial⟩, ⟨hb29, trivial⟩, ⟨hb29, trivial⟩, ⟨hb29, c35⟩, ⟨hb29, trivial⟩, ⟨hb29, trivial⟩, ⟨hb29, trivial⟩, hb29, trivial, ⟨hb30, trivial⟩, ⟨hb30, trivial⟩, ⟨hb30, trivial⟩, ⟨hb30, trivial⟩, ⟨hb30, c36⟩, ⟨hb30, trivial⟩, ⟨hb30, trivial⟩, ⟨hb30, trivial⟩, hb30, trivial⟩ ?_
                  obtain rfl := Option.some.inj h
                  exact postN_to (goal_le (gs := []) (f := [0, 1]) (by kernel_rfl) (by kernel_rfl))
            · clear hp5
              obtain ⟨rfl, hle⟩ := hq
              refine use_to ?_ hle
              refine to_then ?_
              refine W_cond (b := v17) (β := false) (by kernel_rfl) (fun hb31 => ?_) (fun hb31 => ?_)
              · replace h := h_if hb31 h
                refine W_seq ?_
                refine W_reg tbok ⟨[], []⟩ [] [0] [(4, .adr 0 0 3 0)] [(0, .box [.p false (.int .i32) (65533 : Int), .p false (.int .i64) i1, .p false (.int .i64) v12])] 1 0 [True, True] (by kernel_rfl) (by kernel_rfl) ⟨trivial, trivial, trivial⟩ ?_
                refine to_then ?_
                refine W_ret ?_
                obtain rfl := Option.some.inj h
                refine thenQ_ret ?_
                refine blockQ_ret ?_
                refine thenQ_ret ?_
                refine round_ret ?_
                refine postS_rr ?_
                exact postR_mk (Ret_intro [(.prod (.int .i32) (.prod (.int .i64) (.int .i64)))] (by kernel_rfl))
              · replace h := h_else hb31 h
                refine W_skip_to ?_
                refine to_then ?_
                refine W_seq ?_
                obtain ⟨c39, h⟩ := h_guard h
                obtain ⟨c40, h⟩ := h_guard h
                refine W_reg tbok ⟨[], []⟩ [] [0, 1] [(0, .p β0 (.slice (.int .u8)) d1), (1, .p false (.int .i64) i1), (4, .adr 0 0 3 0), (5, .p false (.int .i64) r4), (8, .adr 1 0 3 0), (9, .p false (.int .i32) (bitsOf .or .i32 (IntKind.i32.wrap (v13 * 2 ^ (min (6 : Int).toNat IntKind.i32.bits))) (IntKind.i32.wrap (bitsOf .and .u8 (d1.getD ((IntKind.i64.wrap (i1 + v14)).toNat) (0 : Int)) (63 : Int))))), (10, .p false (.int .i64) v14)] [(0, .box [.p false (.int .i32) (0 : Int), .p false (.int .i64) (0 : Int), .p false (.int .i64) (0 : Int)]), (1, .box [.p false (.int .i32) (65533 : Int), .p false (.int .i64) i1, .p false (.int .i64) v12])] 2 0 [True, 0 ≤ (6 : Int), True, True, True, True, 0 ≤ (IntKind.i64.wrap (i1 + v14)) ∧ (IntKind.i64.wrap (i1 + v14)) < (d1.length : Int), True, True, True, True, True] (by kernel_rfl) (by kernel_rfl) ⟨trivial, c39, trivial, trivial, trivial, trivial, c40, trivial, trivial, trivial, trivial, trivial, trivial⟩ ?_
                refine to_then ?_
                refine W_seq ?_
                refine W_reg tbok ⟨[], []⟩ [] [0, 1] [(0, .p β0 (.slice (.int .u8)) d1), (1, .p false (.int .i64) i1), (4, .adr 0 0 3 0), (5, .p false (.int .i64) r4), (8, .adr 1 0 3 0), (9, .p false (.int .i32) (bitsOf .or .i32 (IntKind.i32.wrap (v13 * 2 ^ (min (6 : Int).toNat IntKind.i32.bits))) (IntKind.i32.wrap (bitsOf .and .u8 (d1.getD ((IntKind.i64.wrap (i1 + v14)).toNat) (0 : Int)) (63 : Int))))), (10, .p false (.int .i64) v14)] [(0, .box [.p false (.int .i32) (0 : Int), .p false (.int .i64) (0 : Int), .p false (.int .i64) (0 : Int)]), (1, .box [.p false (.int .i32) (65533 : Int), .p false (.int .i64) i1, .p false (.int .i64) (IntKind.i64.wrap (v14 + (1 : Int)))])] 2 0 [True, True, True, True] (by kernel_rfl) (by kernel_rfl) ⟨trivial, trivial, trivial, trivial, trivial⟩ ?_
                refine to_then ?_
                refine W_reg tbok ⟨[], []⟩ [] [0, 1] [(0, .p β0 (.slice (.int .u8)) d1), (1, .p false (.int .i64) i1), (4, .adr 0 0 3 0), (5, .p false (.int .i64) r4), (6, .p false (.int .u8) (128 : Int)), (7, .p false (.int .u8) (191 : Int)), (8, .adr 1 0 3 0), (9, .p false (.int .i32) (bitsOf .or .i32 (IntKind.i32.wrap (v13 * 2 ^ (min (6 : Int).toNat IntKind.i32.bits))) (IntKind.i32.wrap (bitsOf .and .u8 (d1.getD ((IntKind.i64.wrap (i1 + v14)).toNat) (0 : Int)) (63 : Int))))), (10, .p false (.int .i64) v14)] [(0, .box [.p false (.int .i32) (0 : Int), .p false (.int .i64) (0 : Int), .p false (.int .i64) (0 : Int)]), (1, .box [.p false (.int .i32) (65533 : Int), .p false (.int .i64) i1, .p false (.int .i64) (IntKind.i64.wrap (v14 + (1 : Int)))])] 2 0 [True, True] (by kernel_rfl) (by kernel_rfl) ⟨trivial, trivial, trivial⟩ ?_
                refine to_block ?_
                refine to_then ?_
                refine W_reg tbok ⟨[], []⟩ [] [0, 1] [(0, .p β0 (.slice (.int .u8)) d1), (1, .p false (.int .i64) i1), (4, .adr 0 0 3 0), (5, .p false (.int .i64) r4), (6, .p false (.int .u8) (128 : Int)), (7, .p false (.int .u8) (191 : Int)), (8, .adr 1 0 3 0), (9, .p false (.int .i32) (bitsOf .or .i32 (IntKind.i32.wrap (v13 * 2 ^ (min (6 : Int).toNat IntKind.i32.bits))) (IntKind.i32.wrap (bitsOf .and .u8 (d1.getD ((IntKind.i64.wrap (i1 + v14)).toNat) (0 : Int)) (63 : Int))))), (10, .p false (.int .i64) (IntKind.i64.wrap (v14 + (1 : Int))))] [(0, .box [.p false (.int .i32) (0 : Int), .p false (.int .i64) (0 : Int), .p false (.int .i64) (0 : Int)]), (1, .box [.p false (.int .i32) (65533 : Int), .p false (.int .i64) i1, .p false (.int .i64) (IntKind.i64.wrap (v14 + (1 : Int)))])] 2 0 [True, True, True] (by kernel_rfl) (by kernel_rfl) ⟨trivial, trivial, trivial, trivial⟩ ?_
                obtain rfl := Option.some.inj h
                exact roundB (goal_le (gs := []) (f := [0, 1]) (by kernel_rfl) (by kernel_rfl))
          · replace h := h_else hb24 h
            refine W_exit_to ?_
            refine thenE ?_
            obtain rfl := Option.some.inj h
            refine roundE ?_
            refine postS_l ?_
            exact postX_to (goal_le (gs := []) (f := [0, 1]) (by kernel_rfl) (by kernel_rfl))
        · clear hp6
          rcases r8 with ⟨v15, v16⟩ | r7
          · obtain ⟨rfl, hle⟩ := hq
            refine use_to ?_ hle
            refine blockE_eq ?_
            refine to_then ?_
            refine W_seq ?_
            refine W_reg tbok ⟨[], []⟩ [] [0, 1] [(4, .adr 0 0 3 0), (8, .adr 1 0 3 0)] [(0, .box [.p false (.int .i32) (0 : Int), .p false (.int .i64) (0 : Int), .p false (.int .i64) (0 : Int)]), (1, .box [.p false (.int .i32) v16, .p false (.int .i64) i1, .p false (.int .i64) v15])] 2 0 [True, True, True] (by kernel_rfl) (by kernel_rfl) ⟨trivial, trivial, trivial, trivial⟩ ?_
            refine to_then ?_
            refine W_seq ?_
            refine W_reg tbok ⟨[], []⟩ [] [0] [(4, .adr 0 0 3 0)] [(0, .box [.p false (.int .i32) v16, .p false (.int .i64) i1, .p false (.int .i64) v15])] 1 0 [True, True] (by kernel_rfl) (by kernel_rfl) ⟨trivial, trivial, trivial⟩ ?_
            refine to_then ?_
            refine W_ret ?_
            obtain rfl := Option.some.inj h
            exact Ret_intro [(.prod (.int .i32) (.prod (.int .i64) (.int .i64)))] (by kernel_rfl)
          · obtain ⟨rfl, hr⟩ := hq
            refine blockQ_ret ?_
            refine thenQ_ret ?_
            obtain rfl := Option.some.inj h
            exact hr

/-- a loop of 'stanza/scal.All': one round -/
def scal_All_L1 (b1 : List Int) : ((List (Int × Int × Int)) × Int) → Option (((List (Int × Int × Int)) × Int) ⊕ (List (Int × Int × Int))) := fun ((out2, at2) : (List (Int × Int × Int)) × Int) =>
  (if (decide (at2 < (b1.length : Int))) = true then ((scal_One b1 at2).bind fun (r6 : Int × Int × Int) =>
  (if (out2.length + ([(r6.1, (r6.2.1, r6.2.2))] : List (Int × Int × Int)).length) * 24 ≤ 140737488355328 ∧ out2.length + ([(r6.1, (r6.2.1, r6.2.2))] : List (Int × Int × Int)).length ≤ 9223372036854775807 then some (Sum.inl ((out2 ++ ([(r6.1, (r6.2.1, r6.2.2))] : List (Int × Int × Int))), (IntKind.i64.wrap (at2 + r6.2.2)))) else none))
  else some (Sum.inr out2))

/-- 'stanza/scal.All' -/
def scal_All (b1 : List Int) : Option (List (Int × Int × Int)) :=
  ((iter (scal_All_L1 b1) (([] : List (Int × Int × Int)), (0 : Int))).bind fun (out3 : List (Int × Int × Int)) => some out3)

set_option maxRecDepth 100000 in
set_option maxHeartbeats 4000000 in
theorem scal_All_ok (β0 : Bool) (b1 : List Int) (res : List (Int × Int × Int)) (h : scal_All b1 = some res) :
    Pure Try.prog 14 [.p β0 (.slice (.int .u8)) b1] (wrapR (encs false [⟨(.slice (.prod (.int .i32) (.prod (.int .i64) (.int .i64)))), res⟩])) := by
  refine Pure.of_body tbok Try.func14 (by kernel_rfl) rfl (Nat.le_of_ble_eq_true rfl) (fun Bw w0 => ?_) rfl
  unfold scal_All at h
  refine W_seq ?_
  refine W_reg tbok ⟨[], []⟩ [] [] [(0, .p β0 (.slice (.int .u8)) b1)] [] 0 0 [True] (by kernel_rfl) (by kernel_rfl) ⟨trivial, trivial⟩ ?_
  refine to_then ?_
  refine W_seq ?_
  refine W_reg tbok ⟨[], []⟩ [] [] [(0, .p β0 (.slice (.int .u8)) b1), (3, .nils)] [] 0 0 [True] (by kernel_rfl) (by kernel_rfl) ⟨trivial, trivial⟩ ?_
  refine to_then ?_
  refine W_seq ?_
  refine W_seq ?_
  refine W_reg tbok ⟨[], []⟩ [] [] [(0, .p β0 (.slice (.int .u8)) b1), (3, .nils), (4, .p false (.int .i64) (0 : Int))] [] 0 0 [True] (by kernel_rfl) (by kernel_rfl) ⟨trivial, trivial⟩ ?_
  refine to_then ?_
  refine W_block ?_
  obtain ⟨out3, hp1, h⟩ := h_bind h
  refine W.mono (Q := (postX Try.f14.ntmps 0 (fun (out3 : List (Int × Int × Int)) => mkSt [(3, .sl 0)] [(0, .arr 48 (.prod (.int .i32) (.prod (.int .i64) (.int .i64))) out3)] 1)) out3) (W_iter (f := fun ((out2, at2) : (List (Int × Int × Int)) × Int) => mkSt [(0, .p β0 (.slice (.int .u8)) b1), (3, .sl 0), (4, .p false (.int .i64) at2)] [(0, .arr 48 (.prod (.int .i32) (.prod (.int .i64) (.int .i64))) out2)] 1) (Q := (postX Try.f14.ntmps 0 (fun (out3 : List (Int × Int × Int)) => mkSt [(3, .sl 0)] [(0, .arr 48 (.prod (.int .i32) (.prod (.int .i64) (.int .i64))) out3)] 1))) hp1 (goal_le (gs := [.nilS 3 0 48 (.prod (.int .i32) (.prod (.int .i64) (.int .i64)))]) (f := [0]) (by kernel_rfl) (by kernel_rfl)) (fun y o ho => ?_)) (fun e σ' hq => ?_)
  · obtain ⟨out2, at2⟩ := y
    replace h := ho
    clear ho hp1
    unfold scal_All_L1 at h
    refine W_seq ?_
    refine W_seq ?_
    refine W_reg tbok ⟨[], []⟩ [] [0] [(0, .p β0 (.slice (.int .u8)) b1), (3, .sl 0), (4, .p false (.int .i64) at2), (9, .p false .bool (decide (at2 < (b1.length : Int))))] [(0, .arr 48 (.prod (.int .i32) (.prod (.int .i64) (.int .i64))) out2)] 1 0 [True, True, True, True] (by kernel_rfl) (by kernel_rfl) ⟨trivial, trivial, trivial, trivial, trivial⟩ ?_
    refine to_then ?_
    refine W_cond (b := (decide (at2 < (b1.length : Int)))) (β := false) (by kernel_rfl) (fun hb3 => ?_) (fun hb3 => ?_)
    · replace h := h_if hb3 h
      refine W_skip_to ?_
      refine to_then ?_
      refine W_block ?_
      refine W_seq ?_
      obtain ⟨r6, q6, h⟩ := h_bind h
      refine W_reg tbok ⟨[], [(2, ⟨.agg [.p false (.int .i32) r6.1, .p false (.int .i64) r6.2.1, .p false (.int .i64) r6.2.2], [false, false], false, [true, true], [], []⟩)]⟩ [] [0, 25] [(0, .p β0 (.slice (.int .u8)) b1), (3, .sl 0), (4, .p false (.int .i64) at2), (5, .adr 1 0 3 0)] [(0, .arr 48 (.prod (.int .i32) (.prod (.int .i64) (.int .i64))) out2), (1, .box [.p false (.int .i32) r6.1, .p false (.int .i64) r6.2.1, .p false (.int .i64) r6.2.2])] 2 0 [True, True, Pure Try.prog 25 [.p β0 (.slice (.int .u8)) b1, .p false (.int .i64) at2] (.agg [.p false (.int .i32) r6.1, .p false (.int .i64) r6.2.1, .p false (.int .i64) r6.2.2]), True, True] (by kernel_rfl) (by kernel_rfl) ⟨trivial, trivial, (scal_One_ok β0 b1 at2 _ q6), trivial, trivial, trivial⟩ ?_
      refine to_then ?_
      refine W_seq ?_
      obtain ⟨c6, h⟩ := h_guard h
      refine W_reg tbok ⟨[], []⟩ [] [26, 1] [(0, .p β0 (.slice (.int .u8)) b1), (3, .sl 0), (4, .p false (.int .i64) at2), (5, .adr 1 0 3 0)] [(0, .arr 48 (.prod (.int .i32) (.prod (.int .i64) (.int .i64))) (out2 ++ ([(r6.1, (r6.2.1, r6.2.2))] : List (Int × Int × Int)))), (1, .box [.p false (.int .i32) r6.1, .p false (.int .i64) r6.2.1, .p false (.int .i64) r6.2.2])] 2 0 [True, True, True, (out2.length + ([(r6.1, (r6.2.1, r6.2.2))] : List (Int × Int × Int)).length) * 24 ≤ 140737488355328 ∧ out2.length + ([(r6.1, (r6.2.1, r6.2.2))] : List (Int × Int × Int)).length ≤ 9223372036854775807, True] (by kernel_rfl) (by kernel_rfl) ⟨trivial, trivial, trivial, c6, trivial, trivial⟩ ?_
      refine to_then ?_
      refine W_reg tbok ⟨[], []⟩ [] [0] [(0, .p β0 (.slice (.int .u8)) b1), (3, .sl 0), (4, .p false (.int .i64) (IntKind.i64.wrap (at2 + r6.2.2)))] [(0, .arr 48 (.prod (.int .i32) (.prod (.int .i64) (.int .i64))) (out2 ++ ([(r6.1, (r6.2.1, r6.2.2))] : List (Int × Int × Int))))] 1 0 [True, True, True, True, True] (by kernel_rfl) (by kernel_rfl) ⟨trivial, trivial, trivial, trivial, trivial, trivial⟩ ?_
      refine to_block ?_
      obtain rfl := Option.some.inj h
      exact roundB (goal_le (gs := []) (f := [0]) (by kernel_rfl) (by kernel_rfl))
    · replace h := h_else hb3 h
      refine W_exit_to ?_
      refine thenE ?_
      obtain rfl := Option.some.inj h
      refine roundE ?_
      exact postX_to (goal_le (gs := []) (f := [0]) (by kernel_rfl) (by kernel_rfl))
  · clear hp1
    obtain ⟨rfl, hle⟩ := hq
    refine use_to ?_ hle
    refine blockE_eq ?_
    refine to_then ?_
    refine W_seq ?_
    refine W_reg tbok ⟨[], []⟩ [] [0] [(2, .sl 0)] [(0, .arr 48 (.prod (.int .i32) (.prod (.int .i64) (.int .i64))) out3)] 1 0 [True, True] (by kernel_rfl) (by kernel_rfl) ⟨trivial, trivial, trivial⟩ ?_
    refine to_then ?_
    refine W_ret ?_
    obtain rfl := Option.some.inj h
    exact Ret_intro [(.slice (.prod (.int .i32) (.prod (.int .i64) (.int .i64))))] (by kernel_rfl)

/-- 'stanza/pats.blank' -/
def pats_blank (r1 : Int) : Option (Bool) :=
  (((if (r1 == (32 : Int)) = true then some (true)
  else (if (r1 == (9 : Int)) = true then some (true)
  else (if (r1 == (10 : Int)) = true then some (true)
  else some ((r1 == (13 : Int))))))).bind fun (v1 : Bool) => some v1)

set_option maxRecDepth 100000 in
set_option maxHeartbeats 4000000 in
theorem pats_blank_ok (r1 : Int) (res : Bool) (h : pats_blank r1 = some res) :
    Pure Try.prog 15 [.p false (.int .i32) r1] (wrapR (encs false [⟨.bool, res⟩])) := by
  refine Pure.of_body tbok Try.func15 (by kernel_rfl) rfl (Nat.le_of_ble_eq_true rfl) (fun Bw w0 => ?_) rfl
  unfold pats_blank at h
  refine W_seq ?_
  refine W_reg tbok ⟨[], []⟩ [] [] [(0, .p false (.int .i32) r1)] [] 0 0 [True] (by kernel_rfl) (by kernel_rfl) ⟨trivial, trivial⟩ ?_
  refine to_then ?_
  refine W_seq ?_
  obtain ⟨v1, hp1, h⟩ := h_bind h
  refine W.mono (Q := (postN Try.f15.ntmps (fun (v1 : Bool) => mkSt [(2, .p false .bool v1)] [] 0)) v1) ?_ (fun e σ' hq => ?_)
  · replace h := hp1
    clear hp1
    rcases Bool.eq_false_or_eq_true (r1 == (32 : Int)) with hb7 | hb7
    · replace h := h_if hb7 h
      refine W_reg tbok ⟨[(2, true), (5, true), (6, true), (9, true), (10, true), (13, true)], []⟩ [] [] [(2, .p false .bool true)] [] 0 0 [True, True, True, (r1 == (32 : Int)) = true, (r1 == (32 : Int)) = true, (r1 == (32 : Int)) = true, True, true = true, true = true, true = true, True, true = true, true = true, true = true, True] (by kernel_rfl) (by kernel_rfl) ⟨trivial, trivial, trivial, hb7, hb7, hb7, trivial, rfl, rfl, rfl, trivial, rfl, rfl, rfl, trivial, trivial⟩ ?_
      obtain rfl := Option.some.inj h
      exact postN_to (goal_le (gs := []) (f := []) (by kernel_rfl) (by kernel_rfl))
    · replace h := h_else hb7 h
      rcases Bool.eq_false_or_eq_true (r1 == (9 : Int)) with hb8 | hb8
      · replace h := h_if hb8 h
        refine W_reg tbok ⟨[(2, false), (5, false), (6, true), (9, true), (10, true), (13, true)], []⟩ [] [] [(2, .p false .bool true)] [] 0 0 [True, True, True, (r1 == (32 : Int)) = false ∧ True, (r1 == (32 : Int)) = false ∧ True, (r1 == (32 : Int)) = false, True, (r1 == (9 : Int)) = true, (r1 == (9 : Int)) = true, (r1 == (9 : Int)) = true, True, true = true, true = true, true = true, True] (by kernel_rfl) (by kernel_rfl) ⟨trivial, trivial, trivial, ⟨hb7, trivial⟩, ⟨hb7, trivial⟩, hb7, trivial, hb8, hb8, hb8, trivial, rfl, rfl, rfl, trivial, trivial⟩ ?_
        obtain rfl := Option.some.inj h
        exact postN_to (goal_le (gs := []) (f := []) (by kernel_rfl) (by kernel_rfl))
      · replace h := h_else hb8 h
        rcases Bool.eq_false_or_eq_true (r1 == (10 : Int)) with hb9 | hb9
        · replace h := h_if hb9 h
          refine W_reg tbok ⟨[(2, false), (5, false), (6, false), (9, false), (10, true), (13, true)], []⟩ [] [] [(2, .p false .bool true)] [] 0 0 [True, True, True, (r1 == (32 : Int)) = false ∧ True, (r1 == (32 : Int)) = false ∧ True, (r1 == (32 : Int)) = false, True, (r1 == (9 : Int)) = false ∧ True, (r1 == (9 : Int)) = false ∧ True, (r1 == (9 : Int)) = false, True, (r1 == (10 : Int)) = true, (r1 == (10 : Int)) = true, (r1 == (10 : Int)) = true, True] (by kernel_rfl) (by kernel_rfl) ⟨trivial, trivial, trivial, ⟨hb7, trivial⟩, ⟨hb7, trivial⟩, hb7, trivial, ⟨hb8, trivial⟩, ⟨hb8, trivial⟩, hb8, trivial, hb9, hb9, hb9, trivial, trivial⟩ ?_
          obtain rfl := Option.some.inj h
          exact postN_to (goal_le (gs := []) (f := []) (by kernel_rfl) (by kernel_rfl))
        · replace h := h_else hb9 h
          refine W_reg tbok ⟨[(2, false), (5, false), (6, false), (9, false), (10, false), (13, false)], []⟩ [] [] [(2, .p false .bool (r1 == (13 : Int)))] [] 0 0 [True, True, True, (r1 == (32 : Int)) = false ∧ True, (r1 == (32 : Int)) = false ∧ True, (r1 == (32 : Int)) = false, True, (r1 == (9 : Int)) = false ∧ True, (r1 == (9 : Int)) = false ∧ True, (r1 == (9 : Int)) = false, True, (r1 == (10 : Int)) = false ∧ True, (r1 == (10 : Int)) = false ∧ True, (r1 == (10 : Int)) = false, True] (by kernel_rfl) (by kernel_rfl) ⟨trivial, trivial, trivial, ⟨hb7, trivial⟩, ⟨hb7, trivial⟩, hb7, trivial, ⟨hb8, trivial⟩, ⟨hb8, trivial⟩, hb8, trivial, ⟨hb9, trivial⟩, ⟨hb9, trivial⟩, hb9, trivial, trivial⟩ ?_
          obtain rfl := Option.some.inj h
          exact postN_to (goal_le (gs := []) (f := []) (by kernel_rfl) (by kernel_rfl))
  · clear hp1
    obtain ⟨rfl, hle⟩ := hq
    refine use_to ?_ hle
    refine to_then ?_
    refine W_ret ?_
    obtain rfl := Option.some.inj h
    exact Ret_intro [.bool] (by kernel_rfl)

/-- 'stanza/pats.hyphened$1' -/
def pats_hyphened_1 (s1 : Int) (s2 : Int) (s3 : Int) : Option (Bool) :=
  some (s1 == (45 : Int))

set_option maxRecDepth 100000 in
set_option maxHeartbeats 4000000 in
theorem pats_hyphened_1_ok (s1 : Int) (s2 : Int) (s3 : Int) (res : Bool) (h : pats_hyphened_1 s1 s2 s3 = some res) :
    Pure Try.prog 27 [.agg [.p false (.int .i32) s1, .p false (.int .i64) s2, .p false (.int .i64) s3]] (wrapR (encs false [⟨.bool, res⟩])) := by
  refine Pure.of_body tbok Try.func27 (by kernel_rfl) rfl (Nat.le_of_ble_eq_true rfl) (fun Bw w0 => ?_) rfl
  unfold pats_hyphened_1 at h
  refine W_seq ?_
  refine W_reg tbok ⟨[], []⟩ [] [0] [(1, .adr 0 0 3 0)] [(0, .box [.p false (.int .i32) s1, .p false (.int .i64) s2, .p false (.int .i64) s3])] 1 0 [True, True] (by kernel_rfl) (by kernel_rfl) ⟨trivial, trivial, trivial⟩ ?_
  refine to_then ?_
  refine W_seq ?_
  refine W_reg tbok ⟨[], []⟩ [] [] [(2, .p false .bool (s1 == (45 : Int)))] [] 0 0 [True, True, True, True] (by kernel_rfl) (by kernel_rfl) ⟨trivial, trivial, trivial, trivial, trivial⟩ ?_
  refine to_then ?_
  refine W_ret ?_
  obtain rfl := Option.some.inj h
  exact Ret_intro [.bool] (by kernel_rfl)

/-- a loop of 'slices.IndexFunc[[]stanza/api.Scalar,stanza/api.Scalar]': one round -/
def api_Scalar_v1_L1 (s1 : List (Int × Int × Int)) : (Int) → Option ((Int) ⊕ ((Unit) ⊕ (Int))) := fun (v2 : Int) =>
  (if (decide (v2 < (s1.length : Int))) = true then (if 0 ≤ v2 ∧ v2 < (s1.length : Int) then ((pats_hyphened_1 ((s1.getD v2.toNat ((0 : Int), ((0 : Int), (0 : Int)))).1) ((s1.getD v2.toNat ((0 : Int), ((0 : Int), (0 : Int)))).2.1) ((s1.getD v2.toNat ((0 : Int), ((0 : Int), (0 : Int)))).2.2)).bind fun (r7 : Bool) =>
  (if r7 = true then some (Sum.inr (Sum.inr v2))
  else some (Sum.inl (IntKind.i64.wrap (v2 + (1 : Int)))))) else none)
  else some (Sum.inr (Sum.inl ())))

/-- 'slices.IndexFunc[[]stanza/api.Scalar,stanza/api.Scalar]' -/
def api_Scalar_v1 (s1 : List (Int × Int × Int)) : Option (Int) :=
  ((iter (api_Scalar_v1_L1 s1) (0 : Int)).bind fun (r8 : ((Unit) ⊕ (Int))) => match r8 with
  | .inl _ => some (-1 : Int)
  | .inr (r5) => some r5)

set_option maxRecDepth 100000 in
set_option maxHeartbeats 4000000 in
theorem api_Scalar_v1_ok (β0 : Bool) (s1 : List (Int × Int × Int)) (res : Int) (h : api_Scalar_v1 s1 = some res) :
    Pure Try.prog 31 [.p β0 (.slice (.prod (.int .i32) (.prod (.int .i64) (.int .i64)))) s1, .fn 27 []] (wrapR (encs false [⟨(.int .i64), res⟩])) := by
  refine Pure.of_body tbok Try.func31 (by kernel_rfl) rfl (Nat.le_of_ble_eq_true rfl) (fun Bw w0 => ?_) rfl
  unfold api_Scalar_v1 at h
  refine W_seq ?_
  refine W_reg tbok ⟨[], []⟩ [] [] [(0, .p β0 (.slice (.prod (.int .i32) (.prod (.int .i64) (.int .i64)))) s1), (1, .fn 27 [])] [] 0 0 [True] (by kernel_rfl) (by kernel_rfl) ⟨trivial, trivial⟩ ?_
  refine to_then ?_
  refine W_seq ?_
  refine W_seq ?_
  refine W_reg tbok ⟨[], []⟩ [] [] [(0, .p β0 (.slice (.prod (.int .i32) (.prod (.int .i64) (.int .i64)))) s1), (1, .fn 27 []), (7, .p false (.int .i64) (s1.length : Int)), (8, .p false (.int .i64) (0 : Int))] [] 0 0 [True, True, True] (by kernel_rfl) (by kernel_rfl) ⟨trivial, trivial, trivial, trivial⟩ ?_
  refine to_then ?_
  refine W_block ?_
  obtain ⟨r8, hp1, h⟩ := h_bind h
  refine W.mono (Q := (postS (postX Try.f31.ntmps 0 (fun (_ : Unit) => mkSt [] [] 0)) (postR tb Try.f31.results.toList (fun (r5 : Int) => [⟨(.int .i64), r5⟩]))) r8) (W_iter (f := fun (v2 : Int) => mkSt [(0, .p β0 (.slice (.prod (.int .i32) (.prod (.int .i64) (.int .i64)))) s1), (1, .fn 27 []), (7, .p false (.int .i64) (s1.length : Int)), (8, .p false (.int .i64) v2)] [] 0) (Q := (postS (postX Try.f31.ntmps 0 (fun (_ : Unit) => mkSt [] [] 0)) (postR tb Try.f31.results.toList (fun (r5 : Int) => [⟨(.int .i64), r5⟩])))) hp1 (goal_le (gs := []) (f := []) (by kernel_rfl) (by kernel_rfl)) (fun v2 o ho => ?_)) (fun e σ' hq => ?_)
  · replace h := ho
    clear ho hp1
    unfold api_Scalar_v1_L1 at h
    refine W_seq ?_
    refine W_reg tbok ⟨[], []⟩ [] [] [(0, .p β0 (.slice (.prod (.int .i32) (.prod (.int .i64) (.int .i64)))) s1), (1, .fn 27 []), (7, .p false (.int .i64) (s1.length : Int)), (8, .p false (.int .i64) v2), (9, .p false .bool (decide (v2 < (s1.length : Int))))] [] 0 0 [True] (by kernel_rfl) (by kernel_rfl) ⟨trivial, trivial⟩ ?_
    refine to_then ?_
    refine W_seq ?_
    refine W_cond (b := (decide (v2 < (s1.length : Int)))) (β := false) (by kernel_rfl) (fun hb5 => ?_) (fun hb5 => ?_)
    · replace h := h_if hb5 h
      refine W_skip_to ?_
      refine to_then ?_
      refine W_seq ?_
      refine W_block ?_
      refine W_seq ?_
      refine W_reg tbok ⟨[], []⟩ [] [] [(0, .p β0 (.slice (.prod (.int .i32) (.prod (.int .i64) (.int .i64)))) s1), (1, .fn 27 []), (5, .p false (.int .i64) v2), (7, .p false (.int .i64) (s1.length : Int)), (8, .p false (.int .i64) v2)] [] 0 0 [True, True] (by kernel_rfl) (by kernel_rfl) ⟨trivial, trivial, trivial⟩ ?_
      refine to_then ?_
      refine W_seq ?_
      obtain ⟨c6, h⟩ := h_guard h
      obtain ⟨r7, q6, h⟩ := h_bind h
      refine W_reg tbok ⟨[], [(5, ⟨.p false .bool r7, [false], false, [true], [], []⟩)]⟩ [] [] [(0, .p β0 (.slice (.prod (.int .i32) (.prod (.int .i64) (.int .i64)))) s1), (1, .fn 27 []), (5, .p false (.int .i64) v2), (7, .p false (.int .i64) (s1.length : Int)), (8, .p false (.int .i64) v2), (16, .p false .bool r7)] [] 0 0 [True, True, True, 0 ≤ v2 ∧ v2 < (s1.length : Int), True, Pure Try.prog 27 [.agg [.p false (.int .i32) ((s1.getD v2.toNat ((0 : Int), ((0 : Int), (0 : Int)))).1), .p false (.int .i64) ((s1.getD v2.toNat ((0 : Int), ((0 : Int), (0 : Int)))).2.1), .p false (.int .i64) ((s1.getD v2.toNat ((0 : Int), ((0 : Int), (0 : Int)))).2.2)]] (.p false .bool r7)] (by kernel_rfl) (by kernel_rfl) ⟨trivial, trivial, trivial, c6, trivial, (pats_hyphened_1_ok ((s1.getD v2.toNat ((0 : Int), ((0 : Int), (0 : Int)))).1) ((s1.getD v2.toNat ((0 : Int), ((0 : Int), (0 : Int)))).2.1) ((s1.getD v2.toNat ((0 : Int), ((0 : Int), (0 : Int)))).2.2) _ q6), trivial⟩ ?_
      refine to_then ?_
      refine W_cond (b := r7) (β := false) (by kernel_rfl) (fun hb6 => ?_) (fun hb6 => ?_)
      · replace h := h_if hb6 h
        refine W_seq ?_
        refine W_reg tbok ⟨[], []⟩ [] [] [(4, .p false (.int .i64) v2)] [] 0 0 [True, True] (by kernel_rfl) (by kernel_rfl) ⟨trivial, trivial, trivial⟩ ?_
        refine to_then ?_
        refine W_ret ?_
        obtain rfl := Option.some.inj h
        refine blockQ_ret ?_
        refine thenQ_ret ?_
        refine round_ret ?_
        refine postS_rr ?_
        exact postR_mk (Ret_intro [(.int .i64)] (by kernel_rfl))
      · replace h := h_else hb6 h
        refine W_skip_to ?_
        refine to_block ?_
        refine to_then ?_
        refine W_reg tbok ⟨[], []⟩ [] [] [(0, .p β0 (.slice (.prod (.int .i32) (.prod (.int .i64) (.int .i64)))) s1), (1, .fn 27 []), (7, .p false (.int .i64) (s1.length : Int)), (8, .p false (.int .i64) (IntKind.i64.wrap (v2 + (1 : Int))))] [] 0 0 [True, True] (by kernel_rfl) (by kernel_rfl) ⟨trivial, trivial, trivial⟩ ?_
        obtain rfl := Option.some.inj h
        exact roundB (goal_le (gs := []) (f := []) (by kernel_rfl) (by kernel_rfl))
    · replace h := h_else hb5 h
      refine W_exit_to ?_
      refine thenE ?_
      obtain rfl := Option.some.inj h
      refine roundE ?_
      refine postS_l ?_
      exact postX_to (goal_le (gs := []) (f := []) (by kernel_rfl) (by kernel_rfl))
  · clear hp1
    rcases r8 with _ | r5
    · obtain ⟨rfl, hle⟩ := hq
      refine use_to ?_ hle
      refine blockE_eq ?_
      refine to_then ?_
      refine W_seq ?_
      refine W_reg tbok ⟨[], []⟩ [] [] [(4, .p false (.int .i64) (-1 : Int))] [] 0 0 [True] (by kernel_rfl) (by kernel_rfl) ⟨trivial, trivial⟩ ?_
      refine to_then ?_
      refine W_ret ?_
      obtain rfl := Option.some.inj h
      exact Ret_intro [(.int .i64)] (by kernel_rfl)
    · obtain ⟨rfl, hr⟩ := hq
      refine blockQ_ret ?_
      refine thenQ_ret ?_
      obtain rfl := Option.some.inj h
      exact hr

/-- 'slices.ContainsFunc[[]stanza/api.Scalar,stanza/api.Scalar]' -/
def api_Scalar (s1 : List (Int × Int × Int)) : Option (Bool) :=
  ((api_Scalar_v1 s1).bind fun (r2 : Int) =>
  some (decide (r2 ≥ (0 : Int))))

set_option maxRecDepth 100000 in
set_option maxHeartbeats 4000000 in
theorem api_Scalar_ok (β0 : Bool) (s1 : List (Int × Int × Int)) (res : Bool) (h : api_Scalar s1 = some res) :
    Pure Try.prog 26 [.p β0 (.slice (.prod (.int .i32) (.prod (.int .i64) (.int .i64)))) s1, .fn 27 []] (wrapR (encs false [⟨.bool, res⟩])) := by
  refine Pure.of_body tbok Try.func26 (by kernel_rfl) rfl (Nat.le_of_ble_eq_true rfl) (fun Bw w0 => ?_) rfl
  unfold api_Scalar at h
  refine W_seq ?_
  refine W_reg tbok ⟨[], []⟩ [] [] [(0, .p β0 (.slice (.prod (.int .i32) (.prod (.int .i64) (.int .i64)))) s1), (1, .fn 27 [])] [] 0 0 [True] (by kernel_rfl) (by kernel_rfl) ⟨trivial, trivial⟩ ?_
  refine to_then ?_
  refine W_seq ?_
  obtain ⟨r2, q2, h⟩ := h_bind h
  refine W_reg tbok ⟨[], [(2, ⟨.p false (.int .i64) r2, [false, false], false, [true, true], [], []⟩)]⟩ [] [] [(4, .p false .bool (decide (r2 ≥ (0 : Int))))] [] 0 0 [True, True, Pure Try.prog 31 [.p β0 (.slice (.prod (.int .i32) (.prod (.int .i64) (.int .i64)))) s1, .fn 27 []] (.p false (.int .i64) r2), True, True] (by kernel_rfl) (by kernel_rfl) ⟨trivial, trivial, (api_Scalar_v1_ok β0 s1 _ q2), trivial, trivial, trivial⟩ ?_
  refine to_then ?_
  refine W_ret ?_
  obtain rfl := Option.some.inj h
  exact Ret_intro [.bool] (by kernel_rfl)

/-- 'stanza/pats.hyphened' -/
def pats_hyphened (l1 : List (Int × Int × Int)) : Option (Bool) :=
  ((api_Scalar l1).bind fun (r2 : Bool) =>
  some r2)

set_option maxRecDepth 100000 in
set_option maxHeartbeats 4000000 in
theorem pats_hyphened_ok (β0 : Bool) (l1 : List (Int × Int × Int)) (res : Bool) (h : pats_hyphened l1 = some res) :
    Pure Try.prog 17 [.p β0 (.slice (.prod (.int .i32) (.prod (.int .i64) (.int .i64)))) l1] (wrapR (encs false [⟨.bool, res⟩])) := by
  refine Pure.of_body tbok Try.func17 (by kernel_rfl) rfl (Nat.le_of_ble_eq_true rfl) (fun Bw w0 => ?_) rfl
  unfold pats_hyphened at h
  refine W_seq ?_
  refine W_reg tbok ⟨[], []⟩ [] [] [(0, .p β0 (.slice (.prod (.int .i32) (.prod (.int .i64) (.int .i64)))) l1)] [] 0 0 [True] (by kernel_rfl) (by kernel_rfl) ⟨trivial, trivial⟩ ?_
  refine to_then ?_
  refine W_seq ?_
  obtain ⟨r2, q2, h⟩ := h_bind h
  refine W_reg tbok ⟨[], [(1, ⟨.p false .bool r2, [false, false], false, [true, true], [], []⟩)]⟩ [] [] [(2, .p false .bool r2)] [] 0 0 [True, Pure Try.prog 26 [.p β0 (.slice (.prod (.int .i32) (.prod (.int .i64) (.int .i64)))) l1, .fn 27 []] (.p false .bool r2), True] (by kernel_rfl) (by kernel_rfl) ⟨trivial, (api_Scalar_ok β0 l1 _ q2), trivial, trivial⟩ ?_
  refine to_then ?_
  refine W_ret ?_
  obtain rfl := Option.some.inj h
  exact Ret_intro [.bool] (by kernel_rfl)

/-- a loop of 'stanza/pats.one': one round -/
def pats_one_L1 (d1 : List (Int × Int × Int)) (r2 : Bool) : ((List Int) × (List Int) × Bool × Int × Int) → Option (((List Int) × (List Int) × Bool × Int × Int) ⊕ (((List Int) × (List Int) × Int) ⊕ (((List Int) × List Int) × Bool))) := fun ((v24, v25, v26, v27, v28) : (List Int) × (List Int) × Bool × Int × Int) =>
  (if (decide (v28 < (d1.length : Int))) = true then (if 0 ≤ v28 ∧ v28 < (d1.length : Int) then (if (((d1.getD v28.toNat ((0 : Int), ((0 : Int), (0 : Int)))).1) == (65533 : Int)) = true then some (Sum.inr (Sum.inr ((v24, v25), false)))
  else (((if (((d1.getD v28.toNat ((0 : Int), ((0 : Int), (0 : Int)))).1) == (45 : Int)) = true then some (true)
  else (if (decide (((d1.getD v28.toNat ((0 : Int), ((0 : Int), (0 : Int)))).1) ≥ (48 : Int))) = true then some ((decide (((d1.getD v28.toNat ((0 : Int), ((0 : Int), (0 : Int)))).1) ≤ (57 : Int))))
  else some (false)))).bind fun (v32 : Bool) => (((if v32 = true then (((if v26 = true then some (true)
  else (if (!(r2 == (((d1.getD v28.toNat ((0 : Int), ((0 : Int), (0 : Int)))).1) == (45 : Int)))) = true then some (true)
  else (if r2 = true then (if ((v24.length : Int) == (0 : Int)) = true then some (true)
  else some ((v28 == (IntKind.i64.wrap ((d1.length : Int) - (1 : Int))))))
  else some (false))))).bind fun (v39 : Bool) => (if v39 = true then some ((Sum.inr ((v24, v25), false)))
  else (if 0 ≤ (v24.length : Int) ∧ (v24.length : Int) < (v25.length : Int) then (if (v24.length : Int).toNat < v25.length then (if (!r2) = true then (if 0 ≤ (v24.length : Int) ∧ (v24.length : Int) < ((v25.set ((v24.length : Int).toNat) (1 : Int)).length : Int) then (if (v24.length : Int).toNat < (v25.set ((v24.length : Int).toNat) (1 : Int)).length then some ((Sum.inl (v24, ((v25.set ((v24.length : Int).toNat) (1 : Int)).set ((v24.length : Int).toNat) (IntKind.u8.wrap (IntKind.i32.wrap (((d1.getD v28.toNat ((0 : Int), ((0 : Int), (0 : Int)))).1) - (48 : Int))))), true, v27))) else none) else none)
  else some ((Sum.inl (v24, (v25.set ((v24.length : Int).toNat) (1 : Int)), true, v27)))) else none) else none)))
  else (if (((d1.getD v28.toNat ((0 : Int), ((0 : Int), (0 : Int)))).1) == (46 : Int)) = true then (((if r2 = true then some (true)
  else (if (!(v28 == (0 : Int))) = true then some ((!(v28 == (IntKind.i64.wrap ((d1.length : Int) - (1 : Int))))))
  else some (false)))).bind fun (v40 : Bool) => (if v40 = true then some ((Sum.inr ((v24, v25), false)))
  else (if (v24.length + ([(46 : Int)] : List Int).length) * 4 ≤ 140737488355328 ∧ v24.length + ([(46 : Int)] : List Int).length ≤ 9223372036854775807 then (if (v25.length + ([(0 : Int)] : List Int).length) * 1 ≤ 140737488355328 ∧ v25.length + ([(0 : Int)] : List Int).length ≤ 9223372036854775807 then some ((Sum.inl ((v24 ++ ([(46 : Int)] : List Int)), (v25 ++ ([(0 : Int)] : List Int)), false, v27))) else none) else none)))
  else (if (v24.length + ([(d1.getD v28.toNat ((0 : Int), ((0 : Int), (0 : Int)))).1] : List Int).length) * 4 ≤ 140737488355328 ∧ v24.length + ([(d1.getD v28.toNat ((0 : Int), ((0 : Int), (0 : Int)))).1] : List Int).length ≤ 9223372036854775807 then (if (v25.length + ([(0 : Int)] : List Int).length) * 1 ≤ 140737488355328 ∧ v25.length + ([(0 : Int)] : List Int).length ≤ 9223372036854775807 then some ((Sum.inl ((v24 ++ ([(d1.getD v28.toNat ((0 : Int), ((0 : Int), (0 : Int)))).1] : List Int)), (v25 ++ ([(0 : Int)] : List Int)), false, (IntKind.i64.wrap (v27 + (1 : Int)))))) else none) else none)))).bind fun (r13 : (((List Int) × (List Int) × Bool × Int) ⊕ (((List Int) × List Int) × Bool))) => match r13 with
  | .inl (v35, v36, v37, v38) => some (Sum.inl (v35, v36, v37, v38, (IntKind.i64.wrap (v28 + (1 : Int)))))
  | .inr ((r11, r12)) => some (Sum.inr (Sum.inr (r11, r12)))))) else none)
  else some (Sum.inr (Sum.inl (v24, v25, v27))))

/-- 'stanza/pats.one' -/
def pats_one (d1 : List (Int × Int × Int)) : Option (((List Int) × List Int) × Bool) :=
  ((pats_hyphened d1).bind fun (r2 : Bool) =>
  ((iter (pats_one_L1 d1 r2) (([] : List Int), ([(0 : Int)] : List Int), false, (0 : Int), (0 : Int))).bind fun (r14 : (((List Int) × (List Int) × Int) ⊕ (((List Int) × List Int) × Bool))) => match r14 with
  | .inl (v29, v30, v31) => (((if (decide (v31 > (0 : Int))) = true then some ((decide ((v29.length : Int) ≤ (24 : Int))))
  else some (false))).bind fun (v41 : Bool) => some ((v29, v30), v41))
  | .inr ((r9, r10)) => some (r9, r10)))

set_option maxRecDepth 100000 in
set_option maxHeartbeats 4000000 in
theorem pats_one_ok (β0 : Bool) (d1 : List (Int × Int × Int)) (res : ((List Int) × List Int) × Bool) (h : pats_one d1 = some res) :
    Pure Try.prog 16 [.p β0 (.slice (.prod (.int .i32) (.prod (.int .i64) (.int .i64)))) d1] (wrapR (encs false [⟨(.prod (.slice (.int .i32)) (.slice (.int .u8))), res.1⟩, ⟨.bool, res.2⟩])) := by
  refine Pure.of_body tbok Try.func16 (by kernel_rfl) rfl (Nat.le_of_ble_eq_true rfl) (fun Bw w0 => ?_) rfl
  unfold pats_one at h
  refine W_seq ?_
  refine W_reg tbok ⟨[], []⟩ [] [0] [(0, .p β0 (.slice (.prod (.int .i32) (.prod (.int .i64) (.int .i64)))) d1), (2, .adr 0 0 2 0)] [(0, .box [.nils, .nils])] 1 0 [True, True] (by kernel_rfl) (by kernel_rfl) ⟨trivial, trivial, trivial⟩ ?_
  refine to_then ?_
  refine W_seq ?_
  obtain ⟨r2, q2, h⟩ := h_bind h
  refine W_reg tbok ⟨[], [(1, ⟨.p false .bool r2, [false], false, [true], [], []⟩)]⟩ [] [0] [(0, .p β0 (.slice (.prod (.int .i32) (.prod (.int .i64) (.int .i64)))) d1), (2, .adr 0 0 2 0), (4, .p false .bool r2)] [(0, .box [.nils, .nils])] 1 0 [True, Pure Try.prog 17 [.p β0 (.slice (.prod (.int .i32) (.prod (.int .i64) (.int .i64)))) d1] (.p false .bool r2), True] (by kernel_rfl) (by kernel_rfl) ⟨trivial, (pats_hyphened_ok β0 d1 _ q2), trivial, trivial⟩ ?_
  refine to_then ?_
  refine W_seq ?_
  refine W_reg tbok ⟨[], []⟩ [] [0, 17, 1] [(0, .p β0 (.slice (.prod (.int .i32) (.prod (.int .i64) (.int .i64)))) d1), (2, .adr 0 0 2 0), (4, .p false .bool r2), (5, .adr 1 0 2 0)] [(0, .box [.nils, .nils]), (1, .box [.nils, .sl 2]), (2, .arr 5 (.int .u8) ([(0 : Int)] : List Int))] 3 0 [True, True, True, True] (by kernel_rfl) (by kernel_rfl) ⟨trivial, trivial, trivial, trivial, trivial⟩ ?_
  refine to_then ?_
  refine W_seq ?_
  refine W_reg tbok ⟨[], []⟩ [] [0, 1, 2] [(0, .p β0 (.slice (.prod (.int .i32) (.prod (.int .i64) (.int .i64)))) d1), (2, .adr 0 0 2 0), (4, .p false .bool r2), (5, .adr 1 0 2 0), (6, .p false .bool false)] [(0, .box [.nils, .nils]), (1, .box [.nils, .sl 2]), (2, .arr 5 (.int .u8) ([(0 : Int)] : List Int))] 3 0 [True] (by kernel_rfl) (by kernel_rfl) ⟨trivial, trivial⟩ ?_
  refine to_then ?_
  refine W_seq ?_
  refine W_reg tbok ⟨[], []⟩ [] [0, 1, 2] [(0, .p β0 (.slice (.prod (.int .i32) (.prod (.int .i64) (.int .i64)))) d1), (2, .adr 0 0 2 0), (4, .p false .bool r2), (5, .adr 1 0 2 0), (6, .p false .bool false), (7, .p false (.int .i64) (0 : Int))] [(0, .box [.nils, .nils]), (1, .box [.nils, .sl 2]), (2, .arr 5 (.int .u8) ([(0 : Int)] : List Int))] 3 0 [True] (by kernel_rfl) (by kernel_rfl) ⟨trivial, trivial⟩ ?_
  refine to_then ?_
  refine W_seq ?_
  refine W_seq ?_
  refine W_reg tbok ⟨[], []⟩ [] [0, 1, 2] [(0, .p β0 (.slice (.prod (.int .i32) (.prod (.int .i64) (.int .i64)))) d1), (2, .adr 0 0 2 0), (4, .p false .bool r2), (5, .adr 1 0 2 0), (6, .p false .bool false), (7, .p false (.int .i64) (0 : Int)), (17, .p β0 (.slice (.prod (.int .i32) (.prod (.int .i64) (.int .i64)))) d1), (18, .p false (.int .i64) (d1.length : Int)), (19, .p false (.int .i64) (0 : Int))] [(0, .box [.nils, .nils]), (1, .box [.nils, .sl 2]), (2, .arr 5 (.int .u8) ([(0 : Int)] : List Int))] 3 0 [True, True, True] (by kernel_rfl) (by kernel_rfl) ⟨trivial, trivial, trivial, trivial⟩ ?_
  refine to_then ?_
  refine W_block ?_
  obtain ⟨r14, hp19, h⟩ := h_bind h
  refine W.mono (Q := (postS (postX Try.f16.ntmps 0 (fun ((v29, v30, v31) : (List Int) × (List Int) × Int) => mkSt [(2, .adr 0 0 2 0), (5, .adr 1 0 2 0), (7, .p false (.int .i64) v31)] [(0, .box [.nils, .nils]), (1, .box [.sl 2, .sl 3]), (2, .arr 21 (.int .i32) v29), (3, .arr 5 (.int .u8) v30)] 4)) (postR tb Try.f16.results.toList (fun ((r9, r10) : ((List Int) × List Int) × Bool) => [⟨(.prod (.slice (.int .i32)) (.slice (.int .u8))), r9⟩, ⟨.bool, r10⟩]))) r14) (W_iter (f := fun ((v24, v25, v26, v27, v28) : (List Int) × (List Int) × Bool × Int × Int) => mkSt [(0, .p β0 (.slice (.prod (.int .i32) (.prod (.int .i64) (.int .i64)))) d1), (2, .adr 0 0 2 0), (4, .p false .bool r2), (5, .adr 1 0 2 0), (6, .p false .bool v26), (7, .p false (.int .i64) v27), (17, .p β0 (.slice (.prod (.int .i32) (.prod (.int .i64) (.int .i64)))) d1), (18, .p false (.int .i64) (d1.length : Int)), (19, .p false (.int .i64) v28)] [(0, .box [.nils, .nils]), (1, .box [.sl 2, .sl 3]), (2, .arr 21 (.int .i32) v24), (3, .arr 5 (.int .u8) v25)] 4) (Q := (postS (postX Try.f16.ntmps 0 (fun ((v29, v30, v31) : (List Int) × (List Int) × Int) => mkSt [(2, .adr 0 0 2 0), (5, .adr 1 0 2 0), (7, .p false (.int .i64) v31)] [(0, .box [.nils, .nils]), (1, .box [.sl 2, .sl 3]), (2, .arr 21 (.int .i32) v29), (3, .arr 5 (.int .u8) v30)] 4)) (postR tb Try.f16.results.toList (fun ((r9, r10) : ((List Int) × List Int) × Bool) => [⟨(.prod (.slice (.int .i32)) (.slice (.int .u8))), r9⟩, ⟨.bool, r10⟩])))) hp19 (goal_le (gs := [.nilC 1 0 3 21 (.int .i32)]) (f := [0, 1, 3, 2]) (by kernel_rfl) (by kernel_rfl)) (fun y o ho => ?_)) (fun e σ' hq => ?_)
  · obtain ⟨v24, v25, v26, v27, v28⟩ := y
    replace h := ho
    clear ho hp19
    unfold pats_one_L1 at h
    refine W_seq ?_
    refine W_reg tbok ⟨[], []⟩ [] [0, 1, 2, 3] [(0, .p β0 (.slice (.prod (.int .i32) (.prod (.int .i64) (.int .i64)))) d1), (2, .adr 0 0 2 0), (4, .p false .bool r2), (5, .adr 1 0 2 0), (6, .p false .bool v26), (7, .p false (.int .i64) v27), (17, .p β0 (.slice (.prod (.int .i32) (.prod (.int .i64) (.int .i64)))) d1), (18, .p false (.int .i64) (d1.length : Int)), (19, .p false (.int .i64) v28), (20, .p false .bool (decide (v28 < (d1.length : Int))))] [(0, .box [.nils, .nils]), (1, .box [.sl 2, .sl 3]), (2, .arr 21 (.int .i32) v24), (3, .arr 5 (.int .u8) v25)] 4 0 [True] (by kernel_rfl) (by kernel_rfl) ⟨trivial, trivial⟩ ?_
    refine to_then ?_
    refine W_seq ?_
    refine W_cond (b := (decide (v28 < (d1.length : Int)))) (β := false) (by kernel_rfl) (fun hb103 => ?_) (fun hb103 => ?_)
    · replace h := h_if hb103 h
      refine W_skip_to ?_
      refine to_then ?_
      refine W_seq ?_
      refine W_block ?_
      refine W_seq ?_
      obtain ⟨c70, h⟩ := h_guard h
      refine W_reg tbok ⟨[], []⟩ [] [0, 1, 2, 3, 28] [(0, .p β0 (.slice (.prod (.int .i32) (.prod (.int .i64) (.int .i64)))) d1), (2, .adr 0 0 2 0), (4, .p false .bool r2), (5, .adr 1 0 2 0), (6, .p false .bool v26), (7, .p false (.int .i64) v27), (8, .p false (.int .i64) v28), (9, .adr 4 0 3 0), (17, .p β0 (.slice (.prod (.int .i32) (.prod (.int .i64) (.int .i64)))) d1), (18, .p false (.int .i64) (d1.length : Int)), (19, .p false (.int .i64) v28)] [(0, .box [.nils, .nils]), (1, .box [.sl 2, .sl 3]), (2, .arr 21 (.int .i32) v24), (3, .arr 5 (.int .u8) v25), (4, .box [.p false (.int .i32) ((d1.getD v28.toNat ((0 : Int), ((0 : Int), (0 : Int)))).1), .p false (.int .i64) ((d1.getD v28.toNat ((0 : Int), ((0 : Int), (0 : Int)))).2.1), .p false (.int .i64) ((d1.getD v28.toNat ((0 : Int), ((0 : Int), (0 : Int)))).2.2)])] 5 0 [True, 0 ≤ v28 ∧ v28 < (d1.length : Int), True, True, True, True] (by kernel_rfl) (by kernel_rfl) ⟨trivial, c70, trivial, trivial, trivial, trivial, trivial⟩ ?_
      refine to_then ?_
      refine W_seq ?_
      refine W_reg tbok ⟨[], []⟩ [] [0, 1, 2, 3, 4] [(0, .p β0 (.slice (.prod (.int .i32) (.prod (.int .i64) (.int .i64)))) d1), (2, .adr 0 0 2 0), (4, .p false .bool r2), (5, .adr 1 0 2 0), (6, .p false .bool v26), (7, .p false (.int .i64) v27), (8, .p false (.int .i64) v28), (9, .adr 4 0 3 0), (10, .p false (.int .i64) (v24.length : Int)), (17, .p β0 (.slice (.prod (.int .i32) (.prod (.int .i64) (.int .i64)))) d1), (18, .p false (.int .i64) (d1.length : Int)), (19, .p false (.int .i64) v28)] [(0, .box [.nils, .nils]), (1, .box [.sl 2, .sl 3]), (2, .arr 21 (.int .i32) v24), (3, .arr 5 (.int .u8) v25), (4, .box [.p false (.int .i32) ((d1.getD v28.toNat ((0 : Int), ((0 : Int), (0 : Int)))).1), .p false (.int .i64) ((d1.getD v28.toNat ((0 : Int), ((0 : Int), (0 : Int)))).2.1), .p false (.int .i64) ((d1.getD v28.toNat ((0 : Int), ((0 : Int), (0 : Int)))).2.2)])] 5 0 [True, True, True, True] (by kernel_rfl) (by kernel_rfl) ⟨trivial, trivial, trivial, trivial, trivial⟩ ?_
      refine to_then ?_
      refine W_block ?_
      refine W_seq ?_
      refine W_reg tbok ⟨[], []⟩ [] [0, 1, 2, 3, 4] [(0, .p β0 (.slice (.prod (.int .i32) (.prod (.int .i64) (.int .i64)))) d1), (2, .adr 0 0 2 0), (4, .p false .bool r2), (5, .adr 1 0 2 0), (6, .p false .bool v26), (7, .p false (.int .i64) v27), (8, .p false (.int .i64) v28), (9, .adr 4 0 3 0), (10, .p false (.int .i64) (v24.length : Int)), (17, .p β0 (.slice (.prod (.int .i32) (.prod (.int .i64) (.int .i64)))) d1), (18, .p false (.int .i64) (d1.length : Int)), (19, .p false (.int .i64) v28), (41, .p false .bool (((d1.getD v28.toNat ((0 : Int), ((0 : Int), (0 : Int)))).1) == (65533 : Int)))] [(0, .box [.nils, .nils]), (1, .box [.sl 2, .sl 3]), (2, .arr 21 (.int .i32) v24), (3, .arr 5 (.int .u8) v25), (4, .box [.p false (.int .i32) ((d1.getD v28.toNat ((0 : Int), ((0 : Int), (0 : Int)))).1), .p false (.int .i64) ((d1.getD v28.toNat ((0 : Int), ((0 : Int), (0 : Int)))).2.1), .p false (.int .i64) ((d1.getD v28.toNat ((0 : Int), ((0 : Int), (0 : Int)))).2.2)])] 5 0 [True, True, True, True] (by kernel_rfl) (by kernel_rfl) ⟨trivial, trivial, trivial, trivial, trivial⟩ ?_
      refine to_then ?_
      refine W_cond (b := (((d1.getD v28.toNat ((0 : Int), ((0 : Int), (0 : Int)))).1) == (65533 : Int))) (β := false) (by kernel_rfl) (fun hb104 => ?_) (fun hb104 => ?_)
      · replace h := h_if hb104 h
        refine W_seq ?_
        refine W_reg tbok ⟨[], []⟩ [] [0, 2, 3] [(2, .adr 0 0 2 0), (3, .p false .bool false)] [(0, .box [.sl 1, .sl 2]), (1, .arr 21 (.int .i32) v24), (2, .arr 5 (.int .u8) v25)] 3 0 [True, True, True] (by kernel_rfl) (by kernel_rfl) ⟨trivial, trivial, trivial, trivial⟩ ?_
        refine to_then ?_
        refine W_ret ?_
        obtain rfl := Option.some.inj h
        refine blockQ_ret ?_
        refine blockQ_ret ?_
        refine thenQ_ret ?_
        refine round_ret ?_
        refine postS_rr ?_
        exact postR_mk (Ret_intro [(.prod (.slice (.int .i32)) (.slice (.int .u8))), .bool] (by kernel_rfl))
      · replace h := h_else hb104 h
        refine W_seq ?_
        obtain ⟨v32, hp13, h⟩ := h_bind h
        refine W.mono (Q := (postN Try.f16.ntmps (fun (v32 : Bool) => mkSt [(0, .p β0 (.slice (.prod (.int .i32) (.prod (.int .i64) (.int .i64)))) d1), (2, .adr 0 0 2 0), (4, .p false .bool r2), (5, .adr 1 0 2 0), (6, .p false .bool v26), (7, .p false (.int .i64) v27), (8, .p false (.int .i64) v28), (9, .adr 4 0 3 0), (10, .p false (.int .i64) (v24.length : Int)), (17, .p β0 (.slice (.prod (.int .i32) (.prod (.int .i64) (.int .i64)))) d1), (18, .p false (.int .i64) (d1.length : Int)), (19, .p false (.int .i64) v28), (46, .p false .bool v32)] [(0, .box [.nils, .nils]), (1, .box [.sl 2, .sl 3]), (2, .arr 21 (.int .i32) v24), (3, .arr 5 (.int .u8) v25), (4, .box [.p false (.int .i32) ((d1.getD v28.toNat ((0 : Int), ((0 : Int), (0 : Int)))).1), .p false (.int .i64) ((d1.getD v28.toNat ((0 : Int), ((0 : Int), (0 : Int)))).2.1), .p false (.int .i64) ((d1.getD v28.toNat ((0 : Int), ((0 : Int), (0 : Int)))).2.2)])] 5)) v32) ?_ (fun e σ' hq => ?_)
        · replace h := hp13
          clear hp13
          rcases Bool.eq_false_or_eq_true (((d1.getD v28.toNat ((0 : Int), ((0 : Int), (0 : Int)))).1) == (45 : Int)) with hb109 | hb109
          · replace h := h_if hb109 h
            refine W_reg tbok ⟨[(3, true), (12, true)], []⟩ [] [0, 1, 2, 3, 4] [(0, .p β0 (.slice (.prod (.int .i32) (.prod (.int .i64) (.int .i64)))) d1), (2, .adr 0 0 2 0), (4, .p false .bool r2), (5, .adr 1 0 2 0), (6, .p false .bool v26), (7, .p false (.int .i64) v27), (8, .p false (.int .i64) v28), (9, .adr 4 0 3 0), (10, .p false (.int .i64) (v24.length : Int)), (17, .p β0 (.slice (.prod (.int .i32) (.prod (.int .i64) (.int .i64)))) d1), (18, .p false (.int .i64) (d1.length : Int)), (19, .p false (.int .i64) v28), (46, .p false .bool true)] [(0, .box [.nils, .nils]), (1, .box [.sl 2, .sl 3]), (2, .arr 21 (.int .i32) v24), (3, .arr 5 (.int .u8) v25), (4, .box [.p false (.int .i32) ((d1.getD v28.toNat ((0 : Int), ((0 : Int), (0 : Int)))).1), .p false (.int .i64) ((d1.getD v28.toNat ((0 : Int), ((0 : Int), (0 : Int)))).2.1), .p false (.int .i64) ((d1.getD v28.toNat ((0 : Int), ((0 : Int), (0 : Int)))).2.2)])] 5 0 [True, True, True, True, (((d1.getD v28.toNat ((0 : Int), ((0 : Int), (0 : Int)))).1) == (45 : Int)) = true, (((d1.getD v28.toNat ((0 : Int), ((0 : Int), (0 : Int)))).1) == (45 : Int)) = true, (((d1.getD v28.toNat ((0 : Int), ((0 : Int), (0 : Int)))).1) == (45 : Int)) = true, (((d1.getD v28.toNat ((0 : Int), ((0 : Int), (0 : Int)))).1) == (45 : Int)) = true, True, True, True, (((d1.getD v28.toNat ((0 : Int), ((0 : Int), (0 : Int)))).1) == (45 : Int)) = true, (((d1.getD v28.toNat ((0 : Int), ((0 : Int), (0 : Int)))).1) == (45 : Int)) = true, True] (by kernel_rfl) (by kernel_rfl) ⟨trivial, trivial, trivial, trivial, hb109, hb109, hb109, hb109, trivial, trivial, trivial, hb109, hb109, trivial, trivial⟩ ?_
            obtain rfl := Option.some.inj h
            exact postN_to (goal_le (gs := []) (f := [0, 1, 2, 3, 4]) (by kernel_rfl) (by kernel_rfl))
          · replace h := h_else hb109 h
            rcases Bool.eq_false_or_eq_true (decide (((d1.getD v28.toNat ((0 : Int), ((0 : Int), (0 : Int)))).1) ≥ (48 : Int))) with hb110 | hb110
            · replace h := h_if hb110 h
              refine W_reg tbok ⟨[(3, false), (7, true), (11, true), (12, false)], []⟩ [] [0, 1, 2, 3, 4] [(0, .p β0 (.slice (.prod (.int .i32) (.prod (.int .i64) (.int .i64)))) d1), (2, .adr 0 0 2 0), (4, .p false .bool r2), (5, .adr 1 0 2 0), (6, .p false .bool v26), (7, .p false (.int .i64) v27), (8, .p false (.int .i64) v28), (9, .adr 4 0 3 0), (10, .p false (.int .i64) (v24.length : Int)), (17, .p β0 (.slice (.prod (.int .i32) (.prod (.int .i64) (.int .i64)))) d1), (18, .p false (.int .i64) (d1.length : Int)), (19, .p false (.int .i64) v28), (46, .p false .bool (decide (((d1.getD v28.toNat ((0 : Int), ((0 : Int), (0 : Int)))).1) ≤ (57 : Int))))] [(0, .box [.nils, .nils]), (1, .box [.sl 2, .sl 3]), (2, .arr 21 (.int .i32) v24), (3, .arr 5 (.int .u8) v25), (4, .box [.p false (.int .i32) ((d1.getD v28.toNat ((0 : Int), ((0 : Int), (0 : Int)))).1), .p false (.int .i64) ((d1.getD v28.toNat ((0 : Int), ((0 : Int), (0 : Int)))).2.1), .p false (.int .i64) ((d1.getD v28.toNat ((0 : Int), ((0 : Int), (0 : Int)))).2.2)])] 5 0 [True, True, True, True, (((d1.getD v28.toNat ((0 : Int), ((0 : Int), (0 : Int)))).1) == (45 : Int)) = false ∧ True, (((d1.getD v28.toNat ((0 : Int), ((0 : Int), (0 : Int)))).1) == (45 : Int)) = false ∧ True, (((d1.getD v28.toNat ((0 : Int), ((0 : Int), (0 : Int)))).1) == (45 : Int)) = false ∧ True, (((d1.getD v28.toNat ((0 : Int), ((0 : Int), (0 : Int)))).1) == (45 : Int)) = false ∧ True, (decide (((d1.getD v28.toNat ((0 : Int), ((0 : Int), (0 : Int)))).1) ≥ (48 : Int))) = true ∧ True, (decide (((d1.getD v28.toNat ((0 : Int), ((0 : Int), (0 : Int)))).1) ≥ (48 : Int))) = true ∧ True, (decide (((d1.getD v28.toNat ((0 : Int), ((0 : Int), (0 : Int)))).1) ≥ (48 : Int))) = true ∧ True, (((d1.getD v28.toNat ((0 : Int), ((0 : Int), (0 : Int)))).1) == (45 : Int)) = false ∧ (decide (((d1.getD v28.toNat ((0 : Int), ((0 : Int), (0 : Int)))).1) ≥ (48 : Int))) = true, (((d1.getD v28.toNat ((0 : Int), ((0 : Int), (0 : Int)))).1) == (45 : Int)) = false, True] (by kernel_rfl) (by kernel_rfl) ⟨trivial, trivial, trivial, trivial, ⟨hb109, trivial⟩, ⟨hb109, trivial⟩, ⟨hb109, trivial⟩, ⟨hb109, trivial⟩, ⟨hb110, trivial⟩, ⟨hb110, trivial⟩, ⟨hb110, trivial⟩, ⟨hb109, hb110⟩, hb109, trivial, trivial⟩ ?_
              obtain rfl := Option.some.inj h
              exact postN_to (goal_le (gs := []) (f := [0, 1, 2, 3, 4]) (by kernel_rfl) (by kernel_rfl))
            · replace h := h_else hb110 h
              refine W_reg tbok ⟨[(3, false), (7, false), (11, false), (12, false)], []⟩ [] [0, 1, 2, 3, 4] [(0, .p β0 (.slice (.prod (.int .i32) (.prod (.int .i64) (.int .i64)))) d1), (2, .adr 0 0 2 0), (4, .p false .bool r2), (5, .adr 1 0 2 0), (6, .p false .bool v26), (7, .p false (.int .i64) v27), (8, .p false (.int .i64) v28), (9, .adr 4 0 3 0), (10, .p false (.int .i64) (v24.length : Int)), (17, .p β0 (.slice (.prod (.int .i32) (.prod (.int .i64) (.int .i64)))) d1), (18, .p false (.int .i64) (d1.length : Int)), (19, .p false (.int .i64) v28), (46, .p false .bool false)] [(0, .box [.nils, .nils]), (1, .box [.sl 2, .sl 3]), (2, .arr 21 (.int .i32) v24), (3, .arr 5 (.int .u8) v25), (4, .box [.p false (.int .i32) ((d1.getD v28.toNat ((0 : Int), ((0 : Int), (0 : Int)))).1), .p false (.int .i64) ((d1.getD v28.toNat ((0 : Int), ((0 : Int), (0 : Int)))).2.1), .p false (.int .i64) ((d1.getD v28.toNat ((0 : Int), ((0 : Int), (0 : Int)))).2.2)])] 5 0 [True, True, True, True, (((d1.getD v28.toNat ((0 : Int), ((0 : Int), (0 : Int)))).1) == (45 : Int)) = false ∧ True, (((d1.getD v28.toNat ((0 : Int), ((0 : Int), (0 : Int)))).1) == (45 : Int)) = false ∧ True, (((d1.getD v28.toNat ((0 : Int), ((0 : Int), (0 : Int)))).1) == (45 : Int)) = false ∧ True, (((d1.getD v28.toNat ((0 : Int), ((0 : Int), (0 : Int)))).1) == (45 : Int)) = false ∧ True, (decide (((d1.getD v28.toNat ((0 : Int), ((0 : Int), (0 : Int)))).1) ≥ (48 : Int))) = false, (decide (((d1.getD v28.toNat ((0 : Int), ((0 : Int), (0 : Int)))).1) ≥ (48 : Int))) = false, (decide (((d1.getD v28.toNat ((0 : Int), ((0 : Int), (0 : Int)))).1) ≥ (48 : Int))) = false, (((d1.getD v28.toNat ((0 : Int), ((0 : Int), (0 : Int)))).1) == (45 : Int)) = false ∧ (decide (((d1.getD v28.toNat ((0 : Int), ((0 : Int), (0 : Int)))).1) ≥ (48 : Int))) = false, (((d1.getD v28.toNat ((0 : Int), ((0 : Int), (0 : Int)))).1) == (45 : Int)) = false, True] (by kernel_rfl) (by kernel_rfl) ⟨trivial, trivial, trivial, trivial, ⟨hb109, trivial⟩, ⟨hb109, trivial⟩, ⟨hb109, trivial⟩, ⟨hb109, trivial⟩, hb110, hb110, hb110, ⟨hb109, hb110⟩, hb109, trivial, trivial⟩ ?_
              obtain rfl := Option.some.inj h
              exact postN_to (goal_le (gs := []) (f := [0, 1, 2, 3, 4]) (by kernel_rfl) (by kernel_rfl))
        · clear hp13
          obtain ⟨rfl, hle⟩ := hq
          refine use_to ?_ hle
          refine to_then ?_
          obtain ⟨r13, hp18, h⟩ := h_bind h
          refine W.mono (Q := (postS (postN Try.f16.ntmps (fun ((v35, v36, v37, v38) : (List Int) × (List Int) × Bool × Int) => mkSt [(0, .p β0 (.slice (.prod (.int .i32) (.prod (.int .i64) (.int .i64)))) d1), (2, .adr 0 0 2 0), (4, .p false .bool r2), (5, .adr 1 0 2 0), (6, .p false .bool v37), (7, .p false (.int .i64) v38), (17, .p β0 (.slice (.prod (.int .i32) (.prod (.int .i64) (.int .i64)))) d1), (18, .p false (.int .i64) (d1.length : Int)), (19, .p false (.int .i64) v28)] [(0, .box [.nils, .nils]), (1, .box [.sl 2, .sl 3]), (2, .arr 21 (.int .i32) v35), (3, .arr 5 (.int .u8) v36)] 4)) (postR tb Try.f16.results.toList (fun ((r11, r12) : ((List Int) × List Int) × Bool) => [⟨(.prod (.slice (.int .i32)) (.slice (.int .u8))), r11⟩, ⟨.bool, r12⟩]))) r13) ?_ (fun e σ' hq => ?_)
          · replace h := hp18
            clear hp18
            refine W_cond (b := v32) (β := false) (by kernel_rfl) (fun hb134 => ?_) (fun hb134 => ?_)
            · replace h := h_if hb134 h
              refine W_seq ?_
              refine W_seq ?_
              obtain ⟨v39, hp16, h⟩ := h_bind h
              refine W.mono (Q := (postN Try.f16.ntmps (fun (v39 : Bool) => mkSt [(0, .p β0 (.slice (.prod (.int .i32) (.prod (.int .i64) (.int .i64)))) d1), (2, .adr 0 0 2 0), (4, .p false .bool r2), (5, .adr 1 0 2 0), (7, .p false (.int .i64) v27), (9, .adr 4 0 3 0), (10, .p false (.int .i64) (v24.length : Int)), (17, .p β0 (.slice (.prod (.int .i32) (.prod (.int .i64) (.int .i64)))) d1), (18, .p false (.int .i64) (d1.length : Int)), (19, .p false (.int .i64) v28), (81, .p false .bool v39)] [(0, .box [.nils, .nils]), (1, .box [.sl 2, .sl 3]), (2, .arr 21 (.int .i32) v24), (3, .arr 5 (.int .u8) v25), (4, .box [.p false (.int .i32) ((d1.getD v28.toNat ((0 : Int), ((0 : Int), (0 : Int)))).1), .p false (.int .i64) ((d1.getD v28.toNat ((0 : Int), ((0 : Int), (0 : Int)))).2.1), .p false (.int .i64) ((d1.getD v28.toNat ((0 : Int), ((0 : Int), (0 : Int)))).2.2)])] 5)) v39) ?_ (fun e σ' hq => ?_)
              · replace h := hp16
                clear hp16
                rcases Bool.eq_false_or_eq_true v26 with hb143 | hb143
                · replace h := h_if hb143 h
                  refine W_reg tbok ⟨[(1, true), (7, true), (8, true), (21, true)], []⟩ [] [0, 1, 2, 3, 4] [(0, .p β0 (.slice (.prod (.int .i32) (.prod (.int .i64) (.int .i64)))) d1), (2, .adr 0 0 2 0), (4, .p false .bool r2), (5, .adr 1 0 2 0), (7, .p false (.int .i64) v27), (9, .adr 4 0 3 0), (10, .p false (.int .i64) (v24.length : Int)), (17, .p β0 (.slice (.prod (.int .i32) (.prod (.int .i64) (.int .i64)))) d1), (18, .p false (.int .i64) (d1.length : Int)), (19, .p false (.int .i64) v28), (81, .p false .bool true)] [(0, .box [.nils, .nils]), (1, .box [.sl 2, .sl 3]), (2, .arr 21 (.int .i32) v24), (3, .arr 5 (.int .u8) v25), (4, .box [.p false (.int .i32) ((d1.getD v28.toNat ((0 : Int), ((0 : Int), (0 : Int)))).1), .p false (.int .i64) ((d1.getD v28.toNat ((0 : Int), ((0 : Int), (0 : Int)))).2.1), .p false (.int .i64) ((d1.getD v28.toNat ((0 : Int), ((0 : Int), (0 : Int)))).2.2)])] 5 0 [True, True, v26 = true, v26 = true, v26 = true, v26 = true, v26 = true, v26 = true, True, true = true, true = true, True, True, True, True, True, True, True, True, True, true = true, true = true] (by kernel_rfl) (by kernel_rfl) ⟨trivial, trivial, hb143, hb143, hb143, hb143, hb143, hb143, trivial, rfl, rfl, trivial, trivial, trivial, trivial, trivial, trivial, trivial, trivial, trivial, rfl, rfl, trivial⟩ ?_
                  obtain rfl := Option.some.inj h
                  exact postN_to (goal_le (gs := []) (f := [0, 1, 2, 3, 4]) (by kernel_rfl) (by kernel_rfl))
                · replace h := h_else hb143 h
                  rcases Bool.eq_false_or_eq_true (!(r2 == (((d1.getD v28.toNat ((0 : Int), ((0 : Int), (0 : Int)))).1) == (45 : Int)))) with hb144 | hb144
                  · replace h := h_if hb144 h
                    refine W_reg tbok ⟨[(1, false), (7, false), (8, true), (21, true)], []⟩ [] [0, 1, 2, 3, 4] [(0, .p β0 (.slice (.prod (.int .i32) (.prod (.int .i64) (.int .i64)))) d1), (2, .adr 0 0 2 0), (4, .p false .bool r2), (5, .adr 1 0 2 0), (7, .p false (.int .i64) v27), (9, .adr 4 0 3 0), (10, .p false (.int .i64) (v24.length : Int)), (17, .p β0 (.slice (.prod (.int .i32) (.prod (.int .i64) (.int .i64)))) d1), (18, .p false (.int .i64) (d1.length : Int)), (19, .p false (.int .i64) v28), (81, .p false .bool true)] [(0, .box [.nils, .nils]), (1, .box [.sl 2, .sl 3]), (2, .arr 21 (.int .i32) v24), (3, .arr 5 (.int .u8) v25), (4, .box [.p false (.int .i32) ((d1.getD v28.toNat ((0 : Int), ((0 : Int), (0 : Int)))).1), .p false (.int .i64) ((d1.getD v28.toNat ((0 : Int), ((0 : Int), (0 : Int)))).2.1), .p false (.int .i64) ((d1.getD v28.toNat ((0 : Int), ((0 : Int), (0 : Int)))).2.2)])] 5 0 [True, True, v26 = false ∧ True, v26 = false ∧ True, v26 = false ∧ True, v26 = false ∧ True, v26 = false ∧ True, v26 = false, True, (!(r2 == (((d1.getD v28.toNat ((0 : Int), ((0 : Int), (0 : Int)))).1) == (45 : Int)))) = true, (!(r2 == (((d1.getD v28.toNat ((0 : Int), ((0 : Int), (0 : Int)))).1) == (45 : Int)))) = true, True, True, True, True, True, True, True, True, True, (!(r2 == (((d1.getD v28.toNat ((0 : Int), ((0 : Int), (0 : Int)))).1) == (45 : Int)))) = true, (!(r2 == (((d1.getD v28.toNat ((0 : Int), ((0 : Int), (0 : Int)))).1) == (45 : Int)))) = true] (by kernel_rfl) (by kernel_rfl) ⟨trivial, trivial, ⟨hb143, trivial⟩, ⟨hb143, trivial⟩, ⟨hb143, trivial⟩, ⟨hb143, trivial⟩, ⟨hb143, trivial⟩, hb143, trivial, hb144, hb144, trivial, trivial, trivial, trivial, trivial, trivial, trivial, trivial, trivial, hb144, hb144, trivial⟩ ?_
                    obtain rfl := Option.some.inj h
                    exact postN_to (goal_le (gs := []) (f := [0, 1, 2, 3, 4]) (by kernel_rfl) (by kernel_rfl))
                  · replace h := h_else hb144 h
                    rcases Bool.eq_false_or_eq_true r2 with hb145 | hb145
                    · replace h := h_if hb145 h
                      rcases Bool.eq_false_or_eq_true ((v24.length : Int) == (0 : Int)) with hb146 | hb146
                      · replace h := h_if hb146 h
                        refine W_reg tbok ⟨[(1, false), (7, false), (8, false), (10, true), (13, true), (19, true), (20, true), (21, false)], []⟩ [] [0, 1, 2, 3, 4] [(0, .p β0 (.slice (.prod (.int .i32) (.prod (.int .i64) (.int .i64)))) d1), (2, .adr 0 0 2 0), (4, .p false .bool r2), (5, .adr 1 0 2 0), (7, .p false (.int .i64) v27), (9, .adr 4 0 3 0), (10, .p false (.int .i64) (v24.length : Int)), (17, .p β0 (.slice (.prod (.int .i32) (.prod (.int .i64) (.int .i64)))) d1), (18, .p false (.int .i64) (d1.length : Int)), (19, .p false (.int .i64) v28), (81, .p false .bool true)] [(0, .box [.nils, .nils]), (1, .box [.sl 2, .sl 3]), (2, .arr 21 (.int .i32) v24), (3, .arr 5 (.int .u8) v25), (4, .box [.p false (.int .i32) ((d1.getD v28.toNat ((0 : Int), ((0 : Int), (0 : Int)))).1), .p false (.int .i64) ((d1.getD v28.toNat ((0 : Int), ((0 : Int), (0 : Int)))).2.1), .p false (.int .i64) ((d1.getD v28.toNat ((0 : Int), ((0 : Int), (0 : Int)))).2.2)])] 5 0 [True, True, v26 = false ∧ True, v26 = false ∧ True, v26 = false ∧ True, v26 = false ∧ True, v26 = false ∧ True, v26 = false, True, (!(r2 == (((d1.getD v28.toNat ((0 : Int), ((0 : Int), (0 : Int)))).1) == (45 : Int)))) = false ∧ True, (!(r2 == (((d1.getD v28.toNat ((0 : Int), ((0 : Int), (0 : Int)))).1) == (45 : Int)))) = false ∧ True, r2 = true ∧ True, r2 = true ∧ True, r2 = true ∧ True, ((v24.length : Int) == (0 : Int)) = true, ((v24.length : Int) == (0 : Int)) = true, ((v24.length : Int) == (0 : Int)) = true, ((v24.length : Int) == (0 : Int)) = true, ((v24.length : Int) == (0 : Int)) = true, r2 = true ∧ ((v24.length : Int) == (0 : Int)) = true, (!(r2 == (((d1.getD v28.toNat ((0 : Int), ((0 : Int), (0 : Int)))).1) == (45 : Int)))) = false ∧ r2 = true, (!(r2 == (((d1.getD v28.toNat ((0 : Int), ((0 : Int), (0 : Int)))).1) == (45 : Int)))) = false] (by kernel_rfl) (by kernel_rfl) ⟨trivial, trivial, ⟨hb143, trivial⟩, ⟨hb143, trivial⟩, ⟨hb143, trivial⟩, ⟨hb143, trivial⟩, ⟨hb143, trivial⟩, hb143, trivial, ⟨hb144, trivial⟩, ⟨hb144, trivial⟩, ⟨hb145, trivial⟩, ⟨hb145, trivial⟩, ⟨hb145, trivial⟩, hb146, hb146, hb146, hb146, hb146, ⟨hb145, hb146⟩, ⟨hb144, hb145⟩, hb144, trivial⟩ ?_
                        obtain rfl := Option.some.inj h
                        exact postN_to (goal_le (gs := []) (f := [0, 1, 2, 3, 4]) (by kernel_rfl) (by kernel_rfl))
                      · replace h := h_else hb146 h
                        refine W_reg tbok ⟨[(1, false), (7, false), (8, false), (10, true), (13, false), (19, false), (20, true), (21, false)], []⟩ [] [0, 1, 2, 3, 4] [(0, .p β0 (.slice (.prod (.int .i32) (.prod (.int .i64) (.int .i64)))) d1), (2, .adr 0 0 2 0), (4, .p false .bool r2), (5, .adr 1 0 2 0), (7, .p false (.int .i64) v27), (9, .adr 4 0 3 0), (10, .p false (.int .i64) (v24.length : Int)), (17, .p β0 (.slice (.prod (.int .i32) (.prod (.int .i64) (.int .i64)))) d1), (18, .p false (.int .i64) (d1.length : Int)), (19, .p false (.int .i64) v28), (81, .p false .bool (v28 == (IntKind.i64.wrap ((d1.length : Int) - (1 : Int)))))] [(0, .box [.nils, .nils]), (1, .box [.sl 2, .sl 3]), (2, .arr 21 (.int .i32) v24), (3, .arr 5 (.int .u8) v25), (4, .box [.p false (.int .i32) ((d1.getD v28.toNat ((0 : Int), ((0 : Int), (0 : Int)))).1), .p false (.int .i64) ((d1.getD v28.toNat ((0 : Int), ((0 : Int), (0 : Int)))).2.1), .p false (.int .i64) ((d1.getD v28.toNat ((0 : Int), ((0 : Int), (0 : Int)))).2.2)])] 5 0 [True, True, v26 = false ∧ True, v26 = false ∧ True, v26 = false ∧ True, v26 = false ∧ True, v26 = false ∧ True, v26 = false, True, (!(r2 == (((d1.getD v28.toNat ((0 : Int), ((0 : Int), (0 : Int)))).1) == (45 : Int)))) = false ∧ True, (!(r2 == (((d1.getD v28.toNat ((0 : Int), ((0 : Int), (0 : Int)))).1) == (45 : Int)))) = false ∧ True, r2 = true ∧ True, r2 = true ∧ True, r2 = true ∧ True, ((v24.length : Int) == (0 : Int)) = false ∧ True, ((v24.length : Int) == (0 : Int)) = false ∧ True, ((v24.length : Int) == (0 : Int)) = false ∧ True, ((v24.length : Int) == (0 : Int)) = false ∧ True, ((v24.length : Int) == (0 : Int)) = false ∧ True, r2 = true ∧ ((v24.length : Int) == (0 : Int)) = false, (!(r2 == (((d1.getD v28.toNat ((0 : Int), ((0 : Int), (0 : Int)))).1) == (45 : Int)))) = false ∧ r2 = true, (!(r2 == (((d1.getD v28.toNat ((0 : Int), ((0 : Int), (0 : Int)))).1) == (45 : Int)))) = false] (by kernel_rfl) (by kernel_rfl) ⟨trivial, trivial, ⟨hb143, trivial⟩, ⟨hb143, trivial⟩, ⟨hb143, trivial⟩, ⟨hb143, trivial⟩, ⟨hb143, trivial⟩, hb143, trivial, ⟨hb144, trivial⟩, ⟨hb144, trivial⟩, ⟨hb145, trivial⟩, ⟨hb145, trivial⟩, ⟨hb145, trivial⟩, ⟨hb146, trivial⟩, ⟨hb146, trivial⟩, ⟨hb146, trivial⟩, ⟨hb146, trivial⟩, ⟨hb146, trivial⟩, ⟨hb145, hb146⟩, ⟨hb144, hb145⟩, hb144, trivial⟩ ?_
                        obtain rfl := Option.some.inj h
                        exact postN_to (goal_le (gs := []) (f := [0, 1, 2, 3, 4]) (by kernel_rfl) (by kernel_rfl))
                    · replace h := h_else hb145 h
                      refine W_reg tbok ⟨[(1, false), (7, false), (8, false), (10, false), (20, false), (21, false)], []⟩ [] [0, 1, 2, 3, 4] [(0, .p β0 (.slice (.prod (.int .i32) (.prod (.int .i64) (.int .i64)))) d1), (2, .adr 0 0 2 0), (4, .p false .bool r2), (5, .adr 1 0 2 0), (7, .p false (.int .i64) v27), (9, .adr 4 0 3 0), (10, .p false (.int .i64) (v24.length : Int)), (17, .p β0 (.slice (.prod (.int .i32) (.prod (.int .i64) (.int .i64)))) d1), (18, .p false (.int .i64) (d1.length : Int)), (19, .p false (.int .i64) v28), (81, .p false .bool false)] [(0, .box [.nils, .nils]), (1, .box [.sl 2, .sl 3]), (2, .arr 21 (.int .i32) v24), (3, .arr 5 (.int .u8) v25), (4, .box [.p false (.int .i32) ((d1.getD v28.toNat ((0 : Int), ((0 : Int), (0 : Int)))).1), .p false (.int .i64) ((d1.getD v28.toNat ((0 : Int), ((0 : Int), (0 : Int)))).2.1), .p false (.int .i64) ((d1.getD v28.toNat ((0 : Int), ((0 : Int), (0 : Int)))).2.2)])] 5 0 [True, True, v26 = false ∧ True, v26 = false ∧ True, v26 = false ∧ True, v26 = false ∧ True, v26 = false ∧ True, v26 = false, True, (!(r2 == (((d1.getD v28.toNat ((0 : Int), ((0 : Int), (0 : Int)))).1) == (45 : Int)))) = false ∧ True, (!(r2 == (((d1.getD v28.toNat ((0 : Int), ((0 : Int), (0 : Int)))).1) == (45 : Int)))) = false ∧ True, r2 = false, r2 = false, r2 = false, True, True, True, True, True, r2 = false, (!(r2 == (((d1.getD v28.toNat ((0 : Int), ((0 : Int), (0 : Int)))).1) == (45 : Int)))) = false ∧ r2 = false, (!(r2 == (((d1.getD v28.toNat ((0 : Int), ((0 : Int), (0 : Int)))).1) == (45 : Int)))) = false] (by kernel_rfl) (by kernel_rfl) ⟨trivial, trivial, ⟨hb143, trivial⟩, ⟨hb143, trivial⟩, ⟨hb143, trivial⟩, ⟨hb143, trivial⟩, ⟨hb143, trivial⟩, hb143, trivial, ⟨hb144, trivial⟩, ⟨hb144, trivial⟩, hb145, hb145, hb145, trivial, trivial, trivial, trivial, trivial, hb145, ⟨hb144, hb145⟩, hb144, trivial⟩ ?_
                      obtain rfl := Option.some.inj h
                      exact postN_to (goal_le (gs := []) (f := [0, 1, 2, 3, 4]) (by kernel_rfl) (by kernel_rfl))
              · clear hp16
                obtain ⟨rfl, hle⟩ := hq
                refine use_to ?_ hle
                refine to_then ?_
                refine W_cond (b := v39) (β := false) (by kernel_rfl) (fun hb147 => ?_) (fun hb147 => ?_)
                · replace h := h_if hb147 h
                  refine W_seq ?_
                  refine W_reg tbok ⟨[], []⟩ [] [0, 2, 3] [(2, .adr 0 0 2 0), (3, .p false .bool false)] [(0, .box [.sl 1, .sl 2]), (1, .arr 21 (.int .i32) v24), (2, .arr 5 (.int .u8) v25)] 3 0 [True, True, True] (by kernel_rfl) (by kernel_rfl) ⟨trivial, trivial, trivial, trivial⟩ ?_
                  refine to_then ?_
                  refine W_ret ?_
                  obtain rfl := Option.some.inj h
                  refine thenQ_ret ?_
                  refine postS_rr ?_
                  exact postR_mk (Ret_intro [(.prod (.slice (.int .i32)) (.slice (.int .u8))), .bool] (by kernel_rfl))
                · replace h := h_else hb147 h
                  refine W_skip_to ?_
                  refine to_then ?_
                  refine W_seq ?_
                  refine W_reg tbok ⟨[], []⟩ [] [0, 1, 2, 3, 4] [(0, .p β0 (.slice (.prod (.int .i32) (.prod (.int .i64) (.int .i64)))) d1), (2, .adr 0 0 2 0), (4, .p false .bool r2), (5, .adr 1 0 2 0), (6, .p false .bool true), (7, .p false (.int .i64) v27), (9, .adr 4 0 3 0), (10, .p false (.int .i64) (v24.length : Int)), (17, .p β0 (.slice (.prod (.int .i32) (.prod (.int .i64) (.int .i64)))) d1), (18, .p false (.int .i64) (d1.length : Int)), (19, .p false (.int .i64) v28)] [(0, .box [.nils, .nils]), (1, .box [.sl 2, .sl 3]), (2, .arr 21 (.int .i32) v24), (3, .arr 5 (.int .u8) v25), (4, .box [.p false (.int .i32) ((d1.getD v28.toNat ((0 : Int), ((0 : Int), (0 : Int)))).1), .p false (.int .i64) ((d1.getD v28.toNat ((0 : Int), ((0 : Int), (0 : Int)))).2.1), .p false (.int .i64) ((d1.getD v28.toNat ((0 : Int), ((0 : Int), (0 : Int)))).2.2)])] 5 0 [True] (by kernel_rfl) (by kernel_rfl) ⟨trivial, trivial⟩ ?_
                  refine to_then ?_
                  refine W_seq ?_
                  obtain ⟨c89, h⟩ := h_guard h
                  obtain ⟨c90, h⟩ := h_guard h
                  refine W_reg tbok ⟨[], []⟩ [] [0, 1, 2, 3, 4] [(0, .p β0 (.slice (.prod (.int .i32) (.prod (.int .i64) (.int .i64)))) d1), (2, .adr 0 0 2 0), (4, .p false .bool r2), (5, .adr 1 0 2 0), (6, .p false .bool true), (7, .p false (.int .i64) v27), (9, .adr 4 0 3 0), (10, .p false (.int .i64) (v24.length : Int)), (17, .p β0 (.slice (.prod (.int .i32) (.prod (.int .i64) (.int .i64)))) d1), (18, .p false (.int .i64) (d1.length : Int)), (19, .p false (.int .i64) v28)] [(0, .box [.nils, .nils]), (1, .box [.sl 2, .sl 3]), (2, .arr 21 (.int .i32) v24), (3, .arr 5 (.int .u8) (v25.set ((v24.length : Int).toNat) (1 : Int))), (4, .box [.p false (.int .i32) ((d1.getD v28.toNat ((0 : Int), ((0 : Int), (0 : Int)))).1), .p false (.int .i64) ((d1.getD v28.toNat ((0 : Int), ((0 : Int), (0 : Int)))).2.1), .p false (.int .i64) ((d1.getD v28.toNat ((0 : Int), ((0 : Int), (0 : Int)))).2.2)])] 5 0 [True, True, True, 0 ≤ (v24.length : Int) ∧ (v24.length : Int) < (v25.length : Int), (v24.length : Int).toNat < v25.length] (by kernel_rfl) (by kernel_rfl) ⟨trivial, trivial, trivial, c89, c90, trivial⟩ ?_
                  refine to_then ?_
                  refine W_seq ?_
                  refine W_reg tbok ⟨[], []⟩ [] [0, 1, 2, 3, 4] [(0, .p β0 (.slice (.prod (.int .i32) (.prod (.int .i64) (.int .i64)))) d1), (2, .adr 0 0 2 0), (4, .p false .bool r2), (5, .adr 1 0 2 0), (6, .p false .bool true), (7, .p false (.int .i64) v27), (9, .adr 4 0 3 0), (10, .p false (.int .i64) (v24.length : Int)), (17, .p β0 (.slice (.prod (.int .i32) (.prod (.int .i64) (.int .i64)))) d1), (18, .p false (.int .i64) (d1.length : Int)), (19, .p false (.int .i64) v28), (88, .p false .bool (!r2))] [(0, .box [.nils, .nils]), (1, .box [.sl 2, .sl 3]), (2, .arr 21 (.int .i32) v24), (3, .arr 5 (.int .u8) (v25.set ((v24.length : Int).toNat) (1 : Int))), (4, .box [.p false (.int .i32) ((d1.getD v28.toNat ((0 : Int), ((0 : Int), (0 : Int)))).1), .p false (.int .i64) ((d1.getD v28.toNat ((0 : Int), ((0 : Int), (0 : Int)))).2.1), .p false (.int .i64) ((d1.getD v28.toNat ((0 : Int), ((0 : Int), (0 : Int)))).2.2)])] 5 0 [True, True] (by kernel_rfl) (by kernel_rfl) ⟨trivial, trivial, trivial⟩ ?_
                  refine to_then ?_
                  refine W_cond (b := (!r2)) (β := false) (by kernel_rfl) (fun hb148 => ?_) (fun hb148 => ?_)
                  · replace h := h_if hb148 h
                    obtain ⟨c93, h⟩ := h_guard h
                    obtain ⟨c94, h⟩ := h_guard h
                    refine W_reg tbok ⟨[], []⟩ [] [0, 1, 2, 3] [(0, .p β0 (.slice (.prod (.int .i32) (.prod (.int .i64) (.int .i64)))) d1), (2, .adr 0 0 2 0), (4, .p false .bool r2), (5, .adr 1 0 2 0), (6, .p false .bool true), (7, .p false (.int .i64) v27), (17, .p β0 (.slice (.prod (.int .i32) (.prod (.int .i64) (.int .i64)))) d1), (18, .p false (.int .i64) (d1.length : Int)), (19, .p false (.int .i64) v28)] [(0, .box [.nils, .nils]), (1, .box [.sl 2, .sl 3]), (2, .arr 21 (.int .i32) v24), (3, .arr 5 (.int .u8) ((v25.set ((v24.length : Int).toNat) (1 : Int)).set ((v24.length : Int).toNat) (IntKind.u8.wrap (IntKind.i32.wrap (((d1.getD v28.toNat ((0 : Int), ((0 : Int), (0 : Int)))).1) - (48 : Int))))))] 4 0 [True, True, True, True, True, True, True, 0 ≤ (v24.length : Int) ∧ (v24.length : Int) < ((v25.set ((v24.length : Int).toNat) (1 : Int)).length : Int), (v24.length : Int).toNat < (v25.set ((v24.length : Int).toNat) (1 : Int)).length] (by kernel_rfl) (by kernel_rfl) ⟨trivial, trivial, trivial, trivial, trivial, trivial, trivial, c93, c94, trivial⟩ ?_
                    obtain rfl := Option.some.inj h
                    refine postS_l ?_
                    exact postN_to (goal_le (gs := []) (f := [0, 1, 2, 3]) (by kernel_rfl) (by kernel_rfl))
                  · replace h := h_else hb148 h
                    refine W_skip_to ?_
                    obtain rfl := Option.some.inj h
                    refine postS_l ?_
                    exact postN_to (goal_le (gs := []) (f := [0, 1, 2, 3]) (by kernel_rfl) (by kernel_rfl))
            · replace h := h_else hb134 h
              refine W_seq ?_
              refine W_reg tbok ⟨[], []⟩ [] [0, 1, 2, 3, 4] [(0, .p β0 (.slice (.prod (.int .i32) (.prod (.int .i64) (.int .i64)))) d1), (2, .adr 0 0 2 0), (4, .p false .bool r2), (5, .adr 1 0 2 0), (7, .p false (.int .i64) v27), (8, .p false (.int .i64) v28), (9, .adr 4 0 3 0), (17, .p β0 (.slice (.prod (.int .i32) (.prod (.int .i64) (.int .i64)))) d1), (18, .p false (.int .i64) (d1.length : Int)), (19, .p false (.int .i64) v28), (97, .p false .bool (((d1.getD v28.toNat ((0 : Int), ((0 : Int), (0 : Int)))).1) == (46 : Int)))] [(0, .box [.nils, .nils]), (1, .box [.sl 2, .sl 3]), (2, .arr 21 (.int .i32) v24), (3, .arr 5 (.int .u8) v25), (4, .box [.p false (.int .i32) ((d1.getD v28.toNat ((0 : Int), ((0 : Int), (0 : Int)))).1), .p false (.int .i64) ((d1.getD v28.toNat ((0 : Int), ((0 : Int), (0 : Int)))).2.1), .p false (.int .i64) ((d1.getD v28.toNat ((0 : Int), ((0 : Int), (0 : Int)))).2.2)])] 5 0 [True, True, True, True] (by kernel_rfl) (by kernel_rfl) ⟨trivial, trivial, trivial, trivial, trivial⟩ ?_
              refine to_then ?_
              refine W_cond (b := (((d1.getD v28.toNat ((0 : Int), ((0 : Int), (0 : Int)))).1) == (46 : Int))) (β := false) (by kernel_rfl) (fun hb149 => ?_) (fun hb149 => ?_)
              · replace h := h_if hb149 h
                refine W_seq ?_
                refine W_reg tbok ⟨[], []⟩ [] [0, 1, 2, 3] [(0, .p β0 (.slice (.prod (.int .i32) (.prod (.int .i64) (.int .i64)))) d1), (2, .adr 0 0 2 0), (4, .p false .bool r2), (5, .adr 1 0 2 0), (7, .p false (.int .i64) v27), (11, .p false .bool (v28 == (0 : Int))), (12, .p false .bool (v28 == (IntKind.i64.wrap ((d1.length : Int) - (1 : Int))))), (17, .p β0 (.slice (.prod (.int .i32) (.prod (.int .i64) (.int .i64)))) d1), (18, .p false (.int .i64) (d1.length : Int)), (19, .p false (.int .i64) v28)] [(0, .box [.nils, .nils]), (1, .box [.sl 2, .sl 3]), (2, .arr 21 (.int .i32) v24), (3, .arr 5 (.int .u8) v25)] 4 0 [True, True, True, True, True, True, True, True, True] (by kernel_rfl) (by kernel_rfl) ⟨trivial, trivial, trivial, trivial, trivial, trivial, trivial, trivial, trivial, trivial⟩ ?_
                refine to_then ?_
                refine W_seq ?_
                refine W_seq ?_
                obtain ⟨v40, hp17, h⟩ := h_bind h
                refine W.mono (Q := (postN Try.f16.ntmps (fun (v40 : Bool) => mkSt [(0, .p β0 (.slice (.prod (.int .i32) (.prod (.int .i64) (.int .i64)))) d1), (2, .adr 0 0 2 0), (4, .p false .bool r2), (5, .adr 1 0 2 0), (7, .p false (.int .i64) v27), (17, .p β0 (.slice (.prod (.int .i32) (.prod (.int .i64) (.int .i64)))) d1), (18, .p false (.int .i64) (d1.length : Int)), (19, .p false (.int .i64) v28), (116, .p false .bool v40)] [(0, .box [.nils, .nils]), (1, .box [.sl 2, .sl 3]), (2, .arr 21 (.int .i32) v24), (3, .arr 5 (.int .u8) v25)] 4)) v40) ?_ (fun e σ' hq => ?_)
                · replace h := hp17
                  clear hp17
                  rcases Bool.eq_false_or_eq_true r2 with hb154 | hb154
                  · replace h := h_if hb154 h
                    refine W_reg tbok ⟨[(1, true), (8, true)], []⟩ [] [0, 1, 2, 3] [(0, .p β0 (.slice (.prod (.int .i32) (.prod (.int .i64) (.int .i64)))) d1), (2, .adr 0 0 2 0), (4, .p false .bool r2), (5, .adr 1 0 2 0), (7, .p false (.int .i64) v27), (17, .p β0 (.slice (.prod (.int .i32) (.prod (.int .i64) (.int .i64)))) d1), (18, .p false (.int .i64) (d1.length : Int)), (19, .p false (.int .i64) v28), (116, .p false .bool true)] [(0, .box [.nils, .nils]), (1, .box [.sl 2, .sl 3]), (2, .arr 21 (.int .i32) v24), (3, .arr 5 (.int .u8) v25)] 4 0 [True, True, r2 = true, r2 = true, r2 = true, True, True, r2 = true, r2 = true] (by kernel_rfl) (by kernel_rfl) ⟨trivial, trivial, hb154, hb154, hb154, trivial, trivial, hb154, hb154, trivial⟩ ?_
                    obtain rfl := Option.some.inj h
                    exact postN_to (goal_le (gs := []) (f := [0, 1, 2, 3]) (by kernel_rfl) (by kernel_rfl))
                  · replace h := h_else hb154 h
                    rcases Bool.eq_false_or_eq_true (!(v28 == (0 : Int))) with hb155 | hb155
                    · replace h := h_if hb155 h
                      refine W_reg tbok ⟨[(1, false), (4, true), (7, true), (8, false)], []⟩ [] [0, 1, 2, 3] [(0, .p β0 (.slice (.prod (.int .i32) (.prod (.int .i64) (.int .i64)))) d1), (2, .adr 0 0 2 0), (4, .p false .bool r2), (5, .adr 1 0 2 0), (7, .p false (.int .i64) v27), (17, .p β0 (.slice (.prod (.int .i32) (.prod (.int .i64) (.int .i64)))) d1), (18, .p false (.int .i64) (d1.length : Int)), (19, .p false (.int .i64) v28), (116, .p false .bool (!(v28 == (IntKind.i64.wrap ((d1.length : Int) - (1 : Int))))))] [(0, .box [.nils, .nils]), (1, .box [.sl 2, .sl 3]), (2, .arr 21 (.int .i32) v24), (3, .arr 5 (.int .u8) v25)] 4 0 [True, True, r2 = false ∧ True, r2 = false ∧ True, r2 = false ∧ True, (!(v28 == (0 : Int))) = true ∧ True, (!(v28 == (0 : Int))) = true ∧ True, r2 = false ∧ (!(v28 == (0 : Int))) = true, r2 = false] (by kernel_rfl) (by kernel_rfl) ⟨trivial, trivial, ⟨hb154, trivial⟩, ⟨hb154, trivial⟩, ⟨hb154, trivial⟩, ⟨hb155, trivial⟩, ⟨hb155, trivial⟩, ⟨hb154, hb155⟩, hb154, trivial⟩ ?_
                      obtain rfl := Option.some.inj h
                      exact postN_to (goal_le (gs := []) (f := [0, 1, 2, 3]) (by kernel_rfl) (by kernel_rfl))
                    · replace h := h_else hb155 h
                      refine W_reg tbok ⟨[(1, false), (4, false), (7, false), (8, false)], []⟩ [] [0, 1, 2, 3] [(0, .p β0 (.slice (.prod (.int .i32) (.prod (.int .i64) (.int .i64)))) d1), (2, .adr 0 0 2 0), (4, .p false .bool r2), (5, .adr 1 0 2 0), (7, .p false (.int .i64) v27), (17, .p β0 (.slice (.prod (.int .i32) (.prod (.int .i64) (.int .i64)))) d1), (18, .p false (.int .i64) (d1.length : Int)), (19, .p false (.int .i64) v28), (116, .p false .bool false)] [(0, .box [.nils, .nils]), (1, .box [.sl 2, .sl 3]), (2, .arr 21 (.int .i32) v24), (3, .arr 5 (.int .u8) v25)] 4 0 [True, True, r2 = false ∧ True, r2 = false ∧ True, r2 = false ∧ True, (!(v28 == (0 : Int))) = false, (!(v28 == (0 : Int))) = false, r2 = false ∧ (!(v28 == (0 : Int))) = false, r2 = false] (by kernel_rfl) (by kernel_rfl) ⟨trivial, trivial, ⟨hb154, trivial⟩, ⟨hb154, trivial⟩, ⟨hb154, trivial⟩, hb155, hb155, ⟨hb154, hb155⟩, hb154, trivial⟩ ?_
                      obtain rfl := Option.some.inj h
                      exact postN_to (goal_le (gs := []) (f := [0, 1, 2, 3]) (by kernel_rfl) (by kernel_rfl))
                · clear hp17
                  obtain ⟨rfl, hle⟩ := hq
                  refine use_to ?_ hle
                  refine to_then ?_
                  refine W_cond (b := v40) (β := false) (by kernel_rfl) (fun hb156 => ?_) (fun hb156 => ?_)
                  · replace h := h_if hb156 h
                    refine W_seq ?_
                    refine W_reg tbok ⟨[], []⟩ [] [0, 2, 3] [(2, .adr 0 0 2 0), (3, .p false .bool false)] [(0, .box [.sl 1, .sl 2]), (1, .arr 21 (.int .i32) v24), (2, .arr 5 (.int .u8) v25)] 3 0 [True, True, True] (by kernel_rfl) (by kernel_rfl) ⟨trivial, trivial, trivial, trivial⟩ ?_
                    refine to_then ?_
                    refine W_ret ?_
                    obtain rfl := Option.some.inj h
                    refine thenQ_ret ?_
                    refine postS_rr ?_
                    exact postR_mk (Ret_intro [(.prod (.slice (.int .i32)) (.slice (.int .u8))), .bool] (by kernel_rfl))
                  · replace h := h_else hb156 h
                    refine W_skip_to ?_
                    refine to_then ?_
                    obtain ⟨c97, h⟩ := h_guard h
                    obtain ⟨c98, h⟩ := h_guard h
                    refine W_regD tbok mixed ⟨[], []⟩ [] [0, 1, 28, 60] [(0, .p β0 (.slice (.prod (.int .i32) (.prod (.int .i64) (.int .i64)))) d1), (2, .adr 0 0 2 0), (4, .p false .bool r2), (5, .adr 1 0 2 0), (6, .p false .bool false), (7, .p false (.int .i64) v27), (17, .p β0 (.slice (.prod (.int .i32) (.prod (.int .i64) (.int .i64)))) d1), (18, .p false (.int .i64) (d1.length : Int)), (19, .p false (.int .i64) v28)] [(0, .box [.nils, .nils]), (1, .box [.sl 2, .sl 3]), (2, .arr 21 (.int .i32) (v24 ++ ([(46 : Int)] : List Int))), (3, .arr 5 (.int .u8) (v25 ++ ([(0 : Int)] : List Int)))] 4 0 [True, True, True, (v24.length + ([(46 : Int)] : List Int).length) * 4 ≤ 140737488355328 ∧ v24.length + ([(46 : Int)] : List Int).length ≤ 9223372036854775807, True, True, True, (v25.length + ([(0 : Int)] : List Int).length) * 1 ≤ 140737488355328 ∧ v25.length + ([(0 : Int)] : List Int).length ≤ 9223372036854775807, True, True, True, True, True] (by kernel_rfl) (by kernel_rfl) ⟨trivial, trivial, trivial, c97, trivial, trivial, trivial, c98, trivial, trivial, trivial, trivial, trivial, trivial⟩ ?_
                    obtain rfl := Option.some.inj h
                    refine postS_l ?_
                    exact postN_to (goal_le (gs := []) (f := [0, 1, 2, 3]) (by kernel_rfl) (by kernel_rfl))
              · replace h := h_else hb149 h
                refine W_seq ?_
                refine W_reg tbok ⟨[], []⟩ [] [0, 1, 2, 3, 4] [(0, .p β0 (.slice (.prod (.int .i32) (.prod (.int .i64) (.int .i64)))) d1), (2, .adr 0 0 2 0), (4, .p false .bool r2), (5, .adr 1 0 2 0), (7, .p false (.int .i64) (IntKind.i64.wrap (v27 + (1 : Int)))), (9, .adr 4 0 3 0), (17, .p β0 (.slice (.prod (.int .i32) (.prod (.int .i64) (.int .i64)))) d1), (18, .p false (.int .i64) (d1.length : Int)), (19, .p false (.int .i64) v28)] [(0, .box [.nils, .nils]), (1, .box [.sl 2, .sl 3]), (2, .arr 21 (.int .i32) v24), (3, .arr 5 (.int .u8) v25), (4, .box [.p false (.int .i32) ((d1.getD v28.toNat ((0 : Int), ((0 : Int), (0 : Int)))).1), .p false (.int .i64) ((d1.getD v28.toNat ((0 : Int), ((0 : Int), (0 : Int)))).2.1), .p false (.int .i64) ((d1.getD v28.toNat ((0 : Int), ((0 : Int), (0 : Int)))).2.2)])] 5 0 [True, True, True] (by kernel_rfl) (by kernel_rfl) ⟨trivial, trivial, trivial, trivial⟩ ?_
                refine to_then ?_
                obtain ⟨c101, h⟩ := h_guard h
                obtain ⟨c102, h⟩ := h_guard h
                refine W_regD tbok mixed ⟨[], []⟩ [] [0, 1, 45, 77] [(0, .p β0 (.slice (.prod (.int .i32) (.prod (.int .i64) (.int .i64)))) d1), (2, .adr 0 0 2 0), (4, .p false .bool r2), (5, .adr 1 0 2 0), (6, .p false .bool false), (7, .p false (.int .i64) (IntKind.i64.wrap (v27 + (1 : Int)))), (17, .p β0 (.slice (.prod (.int .i32) (.prod (.int .i64) (.int .i64)))) d1), (18, .p false (.int .i64) (d1.length : Int)), (19, .p false (.int .i64) v28)] [(0, .box [.nils, .nils]), (1, .box [.sl 2, .sl 3]), (2, .arr 21 (.int .i32) (v24 ++ ([(d1.getD v28.toNat ((0 : Int), ((0 : Int), (0 : Int)))).1] : List Int))), (3, .arr 5 (.int .u8) (v25 ++ ([(0 : Int)] : List Int)))] 4 0 [True, True, True, True, True, (v24.length + ([(d1.getD v28.toNat ((0 : Int), ((0 : Int), (0 : Int)))).1] : List Int).length) * 4 ≤ 140737488355328 ∧ v24.length + ([(d1.getD v28.toNat ((0 : Int), ((0 : Int), (0 : Int)))).1] : List Int).length ≤ 9223372036854775807, True, True, True, (v25.length + ([(0 : Int)] : List Int).length) * 1 ≤ 140737488355328 ∧ v25.length + ([(0 : Int)] : List Int).length ≤ 9223372036854775807, True, True, True, True, True] (by kernel_rfl) (by kernel_rfl) ⟨trivial, trivial, trivial, trivial, trivial, c101, trivial, trivial, trivial, c102, trivial, trivial, trivial, trivial, trivial, trivial⟩ ?_
                obtain rfl := Option.some.inj h
                refine postS_l ?_
                exact postN_to (goal_le (gs := []) (f := [0, 1, 2, 3]) (by kernel_rfl) (by kernel_rfl))
          · clear hp18
            rcases r13 with ⟨v35, v36, v37, v38⟩ | ⟨r11, r12⟩
            · obtain ⟨rfl, hle⟩ := hq
              refine use_to ?_ hle
              refine to_block ?_
              refine to_block ?_
              refine to_then ?_
              refine W_reg tbok ⟨[], []⟩ [] [0, 1, 2, 3] [(0, .p β0 (.slice (.prod (.int .i32) (.prod (.int .i64) (.int .i64)))) d1), (2, .adr 0 0 2 0), (4, .p false .bool r2), (5, .adr 1 0 2 0), (6, .p false .bool v37), (7, .p false (.int .i64) v38), (17, .p β0 (.slice (.prod (.int .i32) (.prod (.int .i64) (.int .i64)))) d1), (18, .p false (.int .i64) (d1.length : Int)), (19, .p false (.int .i64) (IntKind.i64.wrap (v28 + (1 : Int))))] [(0, .box [.nils, .nils]), (1, .box [.sl 2, .sl 3]), (2, .arr 21 (.int .i32) v35), (3, .arr 5 (.int .u8) v36)] 4 0 [True, True] (by kernel_rfl) (by kernel_rfl) ⟨trivial, trivial, trivial⟩ ?_
              obtain rfl := Option.some.inj h
              exact roundB (goal_le (gs := []) (f := [0, 1, 2, 3]) (by kernel_rfl) (by kernel_rfl))
            · obtain ⟨rfl, hr⟩ := hq
              obtain rfl := Option.some.inj h
              refine blockQ_ret ?_
              refine blockQ_ret ?_
              refine thenQ_ret ?_
              refine round_ret ?_
              refine postS_rr ?_
              exact postR_mk hr
    · replace h := h_else hb103 h
      refine W_exit_to ?_
      refine thenE ?_
      obtain rfl := Option.some.inj h
      refine roundE ?_
      refine postS_l ?_
      exact postX_to (goal_le (gs := []) (f := [0, 1, 2, 3]) (by kernel_rfl) (by kernel_rfl))
  · clear hp19
    rcases r14 with ⟨v29, v30, v31⟩ | ⟨r9, r10⟩
    · obtain ⟨rfl, hle⟩ := hq
      refine use_to ?_ hle
      refine blockE_eq ?_
      refine to_then ?_
      refine W_seq ?_
      obtain ⟨v41, hp20, h⟩ := h_bind h
      refine W.mono (Q := (postN Try.f16.ntmps (fun (v41 : Bool) => mkSt [(2, .adr 0 0 2 0), (3, .p false .bool v41)] [(0, .box [.sl 1, .sl 2]), (1, .arr 21 (.int .i32) v29), (2, .arr 5 (.int .u8) v30)] 3)) v41) ?_ (fun e σ' hq => ?_)
      · replace h := hp20
        clear hp20
        rcases Bool.eq_false_or_eq_true (decide (v31 > (0 : Int))) with hb159 | hb159
        · replace h := h_if hb159 h
          refine W_regD tbok mixed ⟨[(3, true), (8, true)], []⟩ [] [0, 2, 3] [(2, .adr 0 0 2 0), (3, .p false .bool (decide ((v29.length : Int) ≤ (24 : Int))))] [(0, .box [.sl 1, .sl 2]), (1, .arr 21 (.int .i32) v29), (2, .arr 5 (.int .u8) v30)] 3 0 [True, True, True, True, (decide (v31 > (0 : Int))) = true ∧ True, (decide (v31 > (0 : Int))) = true ∧ True, (decide (v31 > (0 : Int))) = true ∧ True, (decide (v31 > (0 : Int))) = true ∧ True, (decide (v31 > (0 : Int))) = true, True, True] (by kernel_rfl) (by kernel_rfl) ⟨trivial, trivial, trivial, trivial, ⟨hb159, trivial⟩, ⟨hb159, trivial⟩, ⟨hb159, trivial⟩, ⟨hb159, trivial⟩, hb159, trivial, trivial, trivial⟩ ?_
          obtain rfl := Option.some.inj h
          exact postN_to (goal_le (gs := []) (f := [0, 1, 2]) (by kernel_rfl) (by kernel_rfl))
        · replace h := h_else hb159 h
          refine W_regD tbok mixed ⟨[(3, false), (8, false)], []⟩ [] [0, 2, 3] [(2, .adr 0 0 2 0), (3, .p false .bool false)] [(0, .box [.sl 1, .sl 2]), (1, .arr 21 (.int .i32) v29), (2, .arr 5 (.int .u8) v30)] 3 0 [True, True, True, True, (decide (v31 > (0 : Int))) = false, (decide (v31 > (0 : Int))) = false, (decide (v31 > (0 : Int))) = false, (decide (v31 > (0 : Int))) = false, (decide (v31 > (0 : Int))) = false, True, True] (by kernel_rfl) (by kernel_rfl) ⟨trivial, trivial, trivial, trivial, hb159, hb159, hb159, hb159, hb159, trivial, trivial, trivial⟩ ?_
          obtain rfl := Option.some.inj h
          exact postN_to (goal_le (gs := []) (f := [0, 1, 2]) (by kernel_rfl) (by kernel_rfl))
      · clear hp20
        obtain ⟨rfl, hle⟩ := hq
        refine use_to ?_ hle
        refine to_then ?_
        refine W_ret ?_
        obtain rfl := Option.some.inj h
        exact Ret_intro [(.prod (.slice (.int .i32)) (.slice (.int .u8))), .bool] (by kernel_rfl)
    · obtain ⟨rfl, hr⟩ := hq
      refine blockQ_ret ?_
      refine thenQ_ret ?_
      obtain rfl := Option.some.inj h
      exact hr

/-- a loop of 'slices.Equal[[]int32,int32]': one round -/
def slices_Equal_int32_int32_L1 (s1 : List Int) (s2 : List Int) : (Int) → Option ((Int) ⊕ ((Unit) ⊕ (Bool))) := fun (v2 : Int) =>
  (if (decide (v2 < (s1.length : Int))) = true then (if 0 ≤ v2 ∧ v2 < (s1.length : Int) then (if 0 ≤ v2 ∧ v2 < (s2.length : Int) then (if ((s1.getD v2.toNat (0 : Int)) != (s2.getD v2.toNat (0 : Int))) = true then some (Sum.inr (Sum.inr false))
  else some (Sum.inl (IntKind.i64.wrap (v2 + (1 : Int))))) else none) else none)
  else some (Sum.inr (Sum.inl ())))

/-- 'slices.Equal[[]int32,int32]' -/
def slices_Equal_int32_int32 (s1 : List Int) (s2 : List Int) : Option (Bool) :=
  (if ((s1.length : Int) != (s2.length : Int)) = true then some false
  else ((iter (slices_Equal_int32_int32_L1 s1 s2) (0 : Int)).bind fun (r2 : ((Unit) ⊕ (Bool))) => match r2 with
  | .inl _ => some true
  | .inr (r1) => some r1))

set_option maxRecDepth 100000 in
set_option maxHeartbeats 4000000 in
theorem slices_Equal_int32_int32_ok (β0 β1 : Bool) (s1 : List Int) (s2 : List Int) (res : Bool) (h : slices_Equal_int32_int32 s1 s2 = some res) :
    Pure Try.prog 20 [.p β0 (.slice (.int .i32)) s1, .p β1 (.slice (.int .i32)) s2] (wrapR (encs false [⟨.bool, res⟩])) := by
  refine Pure.of_body tbok Try.func20 (by kernel_rfl) rfl (Nat.le_of_ble_eq_true rfl) (fun Bw w0 => ?_) rfl
  unfold slices_Equal_int32_int32 at h
  refine W_seq ?_
  refine W_reg tbok ⟨[], []⟩ [] [] [(0, .p β0 (.slice (.int .i32)) s1), (1, .p β1 (.slice (.int .i32)) s2)] [] 0 0 [True] (by kernel_rfl) (by kernel_rfl) ⟨trivial, trivial⟩ ?_
  refine to_then ?_
  refine W_seq ?_
  refine W_seq ?_
  refine W_reg tbok ⟨[], []⟩ [] [] [(0, .p β0 (.slice (.int .i32)) s1), (1, .p β1 (.slice (.int .i32)) s2), (10, .p false .bool ((s1.length : Int) != (s2.length : Int)))] [] 0 0 [True, True, True, True, True] (by kernel_rfl) (by kernel_rfl) ⟨trivial, trivial, trivial, trivial, trivial, trivial⟩ ?_
  refine to_then ?_
  refine W_cond (b := ((s1.length : Int) != (s2.length : Int))) (β := false) (by kernel_rfl) (fun hb1 => ?_) (fun hb1 => ?_)
  · replace h := h_if hb1 h
    refine W_seq ?_
    refine W_reg tbok ⟨[], []⟩ [] [] [(4, .p false .bool false)] [] 0 0 [True] (by kernel_rfl) (by kernel_rfl) ⟨trivial, trivial⟩ ?_
    refine to_then ?_
    refine W_ret ?_
    refine thenQ_ret ?_
    obtain rfl := Option.some.inj h
    exact Ret_intro [.bool] (by kernel_rfl)
  · replace h := h_else hb1 h
    refine W_skip_to ?_
    refine to_then ?_
    refine W_seq ?_
    refine W_seq ?_
    refine W_reg tbok ⟨[], []⟩ [] [] [(0, .p β0 (.slice (.int .i32)) s1), (1, .p β1 (.slice (.int .i32)) s2), (12, .p false (.int .i64) (s1.length : Int)), (13, .p false (.int .i64) (0 : Int))] [] 0 0 [True, True, True] (by kernel_rfl) (by kernel_rfl) ⟨trivial, trivial, trivial, trivial⟩ ?_
    refine to_then ?_
    refine W_block ?_
    obtain ⟨r2, hp1, h⟩ := h_bind h
    refine W.mono (Q := (postS (postX Try.f20.ntmps 0 (fun (_ : Unit) => mkSt [] [] 0)) (postR tb Try.f20.results.toList (fun (r1 : Bool) => [⟨.bool, r1⟩]))) r2) (W_iter (f := fun (v2 : Int) => mkSt [(0, .p β0 (.slice (.int .i32)) s1), (1, .p β1 (.slice (.int .i32)) s2), (12, .p false (.int .i64) (s1.length : Int)), (13, .p false (.int .i64) v2)] [] 0) (Q := (postS (postX Try.f20.ntmps 0 (fun (_ : Unit) => mkSt [] [] 0)) (postR tb Try.f20.results.toList (fun (r1 : Bool) => [⟨.bool, r1⟩])))) hp1 (goal_le (gs := []) (f := []) (by kernel_rfl) (by kernel_rfl)) (fun v2 o ho => ?_)) (fun e σ' hq => ?_)
    · replace h := ho
      clear ho hp1
      unfold slices_Equal_int32_int32_L1 at h
      refine W_seq ?_
      refine W_reg tbok ⟨[], []⟩ [] [] [(0, .p β0 (.slice (.int .i32)) s1), (1, .p β1 (.slice (.int .i32)) s2), (12, .p false (.int .i64) (s1.length : Int)), (13, .p false (.int .i64) v2), (14, .p false .bool (decide (v2 < (s1.length : Int))))] [] 0 0 [True] (by kernel_rfl) (by kernel_rfl) ⟨trivial, trivial⟩ ?_
      refine to_then ?_
      refine W_seq ?_
      refine W_cond (b := (decide (v2 < (s1.length : Int)))) (β := false) (by kernel_rfl) (fun hb6 => ?_) (fun hb6 => ?_)
      · replace h := h_if hb6 h
        refine W_skip_to ?_
        refine to_then ?_
        refine W_seq ?_
        refine W_block ?_
        refine W_seq ?_
        refine W_reg tbok ⟨[], []⟩ [] [] [(0, .p β0 (.slice (.int .i32)) s1), (1, .p β1 (.slice (.int .i32)) s2), (5, .p false (.int .i64) v2), (12, .p false (.int .i64) (s1.length : Int)), (13, .p false (.int .i64) v2)] [] 0 0 [True, True] (by kernel_rfl) (by kernel_rfl) ⟨trivial, trivial, trivial⟩ ?_
        refine to_then ?_
        refine W_seq ?_
        obtain ⟨c11, h⟩ := h_guard h
        obtain ⟨c12, h⟩ := h_guard h
        refine W_regD tbok mixed ⟨[], []⟩ [] [] [(0, .p β0 (.slice (.int .i32)) s1), (1, .p β1 (.slice (.int .i32)) s2), (12, .p false (.int .i64) (s1.length : Int)), (13, .p false (.int .i64) v2), (24, .p false .bool ((s1.getD v2.toNat (0 : Int)) != (s2.getD v2.toNat (0 : Int))))] [] 0 0 [True, True, 0 ≤ v2 ∧ v2 < (s1.length : Int), True, True, True, 0 ≤ v2 ∧ v2 < (s2.length : Int), True, True] (by kernel_rfl) (by kernel_rfl) ⟨trivial, trivial, c11, trivial, trivial, trivial, c12, trivial, trivial, trivial⟩ ?_
        refine to_then ?_
        refine W_cond (b := ((s1.getD v2.toNat (0 : Int)) != (s2.getD v2.toNat (0 : Int)))) (β := false) (by kernel_rfl) (fun hb7 => ?_) (fun hb7 => ?_)
        · replace h := h_if hb7 h
          refine W_seq ?_
          refine W_reg tbok ⟨[], []⟩ [] [] [(4, .p false .bool false)] [] 0 0 [True] (by kernel_rfl) (by kernel_rfl) ⟨trivial, trivial⟩ ?_
          refine to_then ?_
          refine W_ret ?_
          obtain rfl := Option.some.inj h
          refine blockQ_ret ?_
          refine thenQ_ret ?_
          refine round_ret ?_
          refine postS_rr ?_
          exact postR_mk (Ret_intro [.bool] (by kernel_rfl))
        · replace h := h_else hb7 h
          refine W_skip_to ?_
          refine to_block ?_
          refine to_then ?_
          refine W_reg tbok ⟨[], []⟩ [] [] [(0, .p β0 (.slice (.int .i32)) s1), (1, .p β1 (.slice (.int .i32)) s2), (12, .p false (.int .i64) (s1.length : Int)), (13, .p false (.int .i64) (IntKind.i64.wrap (v2 + (1 : Int))))] [] 0 0 [True, True] (by kernel_rfl) (by kernel_rfl) ⟨trivial, trivial, trivial⟩ ?_
          obtain rfl := Option.some.inj h
          exact roundB (goal_le (gs := []) (f := []) (by kernel_rfl) (by kernel_rfl))
      · replace h := h_else hb6 h
        refine W_exit_to ?_
        refine thenE ?_
        obtain rfl := Option.some.inj h
        refine roundE ?_
        refine postS_l ?_
        exact postX_to (goal_le (gs := []) (f := []) (by kernel_rfl) (by kernel_rfl))
    · clear hp1
      rcases r2 with _ | r1
      · obtain ⟨rfl, hle⟩ := hq
        refine use_to ?_ hle
        refine blockE_eq ?_
        refine to_then ?_
        refine W_seq ?_
        refine W_reg tbok ⟨[], []⟩ [] [] [(4, .p false .bool true)] [] 0 0 [True] (by kernel_rfl) (by kernel_rfl) ⟨trivial, trivial⟩ ?_
        refine to_then ?_
        refine W_ret ?_
        obtain rfl := Option.some.inj h
        exact Ret_intro [.bool] (by kernel_rfl)
      · obtain ⟨rfl, hr⟩ := hq
        refine blockQ_ret ?_
        refine thenQ_ret ?_
        obtain rfl := Option.some.inj h
        exact hr

/-- 'stanza/pats.Parse$1' -/
def pats_Parse_1 (w1 : List Int) (w2 : List Int) (x1 : List Int) (x2 : List Int) : Option (Bool) :=
  ((slices_Equal_int32_int32 w1 x1).bind fun (r2 : Bool) =>
  some r2)

set_option maxRecDepth 100000 in
set_option maxHeartbeats 4000000 in
theorem pats_Parse_1_ok (β0 β1 β2 β3 : Bool) (w1 : List Int) (w2 : List Int) (x1 : List Int) (x2 : List Int) (res : Bool) (h : pats_Parse_1 w1 w2 x1 x2 = some res) :
    Pure Try.prog 19 [.agg [.p β0 (.slice (.int .i32)) w1, .p β1 (.slice (.int .u8)) w2], .fad true [.p β2 (.slice (.int .i32)) x1, .p β3 (.slice (.int .u8)) x2] 0] (wrapR (encs false [⟨.bool, res⟩])) := by
  refine Pure.of_body tbok Try.func19 (by kernel_rfl) rfl (Nat.le_of_ble_eq_true rfl) (fun Bw w0 => ?_) rfl
  unfold pats_Parse_1 at h
  refine W_seq ?_
  refine W_reg tbok ⟨[], []⟩ [] [0] [(1, .fad true [.p β2 (.slice (.int .i32)) x1, .p β3 (.slice (.int .u8)) x2] 0), (2, .adr 0 0 2 0)] [(0, .box [.p β0 (.slice (.int .i32)) w1, .p β1 (.slice (.int .u8)) w2])] 1 0 [True, True] (by kernel_rfl) (by kernel_rfl) ⟨trivial, trivial, trivial⟩ ?_
  refine to_then ?_
  refine W_seq ?_
  obtain ⟨r2, q2, h⟩ := h_bind h
  refine W_reg tbok ⟨[], [(4, ⟨.p false .bool r2, [false, false], false, [true, true], [], []⟩)]⟩ [] [] [(3, .p false .bool r2)] [] 0 0 [True, True, True, True, Pure Try.prog 20 [.p β0 (.slice (.int .i32)) w1, .p β2 (.slice (.int .i32)) x1] (.p false .bool r2), True] (by kernel_rfl) (by kernel_rfl) ⟨trivial, trivial, trivial, trivial, (slices_Equal_int32_int32_ok β0 β2 w1 x1 _ q2), trivial, trivial⟩ ?_
  refine to_then ?_
  refine W_ret ?_
  obtain rfl := Option.some.inj h
  exact Ret_intro [.bool] (by kernel_rfl)

/-- a loop of 'slices.IndexFunc[[]stanza/api.Pattern,stanza/api.Pattern]': one round -/
def api_Pattern_v1_L1 (s1 : List ((List Int) × List Int)) (f1 : List Int) (f2 : List Int) : (Int) → Option ((Int) ⊕ ((Unit) ⊕ (Int))) := fun (v2 : Int) =>
  (if (decide (v2 < (s1.length : Int))) = true then (if 0 ≤ v2 ∧ v2 < (s1.length : Int) then ((pats_Parse_1 ((s1.getD v2.toNat (([] : List Int), ([] : List Int))).1) ((s1.getD v2.toNat (([] : List Int), ([] : List Int))).2) f1 f2).bind fun (r7 : Bool) =>
  (if r7 = true then some (Sum.inr (Sum.inr v2))
  else some (Sum.inl (IntKind.i64.wrap (v2 + (1 : Int)))))) else none)
  else some (Sum.inr (Sum.inl ())))

/-- 'slices.IndexFunc[[]stanza/api.Pattern,stanza/api.Pattern]' -/
def api_Pattern_v1 (s1 : List ((List Int) × List Int)) (f1 : List Int) (f2 : List Int) : Option (Int) :=
  ((iter (api_Pattern_v1_L1 s1 f1 f2) (0 : Int)).bind fun (r8 : ((Unit) ⊕ (Int))) => match r8 with
  | .inl _ => some (-1 : Int)
  | .inr (r5) => some r5)

set_option maxRecDepth 100000 in
set_option maxHeartbeats 4000000 in
theorem api_Pattern_v1_ok (β0 β1 β2 : Bool) (s1 : List ((List Int) × List Int)) (f1 : List Int) (f2 : List Int) (res : Int) (h : api_Pattern_v1 s1 f1 f2 = some res) :
    Pure Try.prog 28 [.p β0 (.slice (.prod (.slice (.int .i32)) (.slice (.int .u8)))) s1, .fn 19 [.fad true [.p β1 (.slice (.int .i32)) f1, .p β2 (.slice (.int .u8)) f2] 0]] (wrapR (encs false [⟨(.int .i64), res⟩])) := by
  refine Pure.of_body tbok Try.func28 (by kernel_rfl) rfl (Nat.le_of_ble_eq_true rfl) (fun Bw w0 => ?_) rfl
  unfold api_Pattern_v1 at h
  refine W_seq ?_
  refine W_reg tbok ⟨[], []⟩ [] [] [(0, .p β0 (.slice (.prod (.slice (.int .i32)) (.slice (.int .u8)))) s1), (1, .fn 19 [.fad true [.p β1 (.slice (.int .i32)) f1, .p β2 (.slice (.int .u8)) f2] 0])] [] 0 0 [True] (by kernel_rfl) (by kernel_rfl) ⟨trivial, trivial⟩ ?_
  refine to_then ?_
  refine W_seq ?_
  refine W_seq ?_
  refine W_reg tbok ⟨[], []⟩ [] [] [(0, .p β0 (.slice (.prod (.slice (.int .i32)) (.slice (.int .u8)))) s1), (1, .fn 19 [.fad true [.p β1 (.slice (.int .i32)) f1, .p β2 (.slice (.int .u8)) f2] 0]), (7, .p false (.int .i64) (s1.length : Int)), (8, .p false (.int .i64) (0 : Int))] [] 0 0 [True, True, True] (by kernel_rfl) (by kernel_rfl) ⟨trivial, trivial, trivial, trivial⟩ ?_
  refine to_then ?_
  refine W_block ?_
  obtain ⟨r8, hp1, h⟩ := h_bind h
  refine W.mono (Q := (postS (postX Try.f28.ntmps 0 (fun (_ : Unit) => mkSt [] [] 0)) (postR tb Try.f28.results.toList (fun (r5 : Int) => [⟨(.int .i64), r5⟩]))) r8) (W_iter (f := fun (v2 : Int) => mkSt [(0, .p β0 (.slice (.prod (.slice (.int .i32)) (.slice (.int .u8)))) s1), (1, .fn 19 [.fad true [.p β1 (.slice (.int .i32)) f1, .p β2 (.slice (.int .u8)) f2] 0]), (7, .p false (.int .i64) (s1.length : Int)), (8, .p false (.int .i64) v2)] [] 0) (Q := (postS (postX Try.f28.ntmps 0 (fun (_ : Unit) => mkSt [] [] 0)) (postR tb Try.f28.results.toList (fun (r5 : Int) => [⟨(.int .i64), r5⟩])))) hp1 (goal_le (gs := []) (f := []) (by kernel_rfl) (by kernel_rfl)) (fun v2 o ho => ?_)) (fun e σ' hq => ?_)
  · replace h := ho
    clear ho hp1
    unfold api_Pattern_v1_L1 at h
    refine W_seq ?_
    refine W_reg tbok ⟨[], []⟩ [] [] [(0, .p β0 (.slice (.prod (.slice (.int .i32)) (.slice (.int .u8)))) s1), (1, .fn 19 [.fad true [.p β1 (.slice (.int .i32)) f1, .p β2 (.slice (.int .u8)) f2] 0]), (7, .p false (.int .i64) (s1.length : Int)), (8, .p false (.int .i64) v2), (9, .p false .bool (decide (v2 < (s1.length : Int))))] [] 0 0 [True] (by kernel_rfl) (by kernel_rfl) ⟨trivial, trivial⟩ ?_
    refine to_then ?_
    refine W_seq ?_
    refine W_cond (b := (decide (v2 < (s1.length : Int)))) (β := false) (by kernel_rfl) (fun hb5 => ?_) (fun hb5 => ?_)
    · replace h := h_if hb5 h
      refine W_skip_to ?_
      refine to_then ?_
      refine W_seq ?_
      refine W_block ?_
      refine W_seq ?_
      refine W_reg tbok ⟨[], []⟩ [] [] [(0, .p β0 (.slice (.prod (.slice (.int .i32)) (.slice (.int .u8)))) s1), (1, .fn 19 [.fad true [.p β1 (.slice (.int .i32)) f1, .p β2 (.slice (.int .u8)) f2] 0]), (5, .p false (.int .i64) v2), (7, .p false (.int .i64) (s1.length : Int)), (8, .p false (.int .i64) v2)] [] 0 0 [True, True] (by kernel_rfl) (by kernel_rfl) ⟨trivial, trivial, trivial⟩ ?_
      refine to_then ?_
      refine W_seq ?_
      obtain ⟨c6, h⟩ := h_guard h
      obtain ⟨r7, q6, h⟩ := h_bind h
      refine W_reg tbok ⟨[], [(5, ⟨.p false .bool r7, [false], false, [true], [], []⟩)]⟩ [] [] [(0, .p β0 (.slice (.prod (.slice (.int .i32)) (.slice (.int .u8)))) s1), (1, .fn 19 [.fad true [.p β1 (.slice (.int .i32)) f1, .p β2 (.slice (.int .u8)) f2] 0]), (5, .p false (.int .i64) v2), (7, .p false (.int .i64) (s1.length : Int)), (8, .p false (.int .i64) v2), (16, .p false .bool r7)] [] 0 0 [True, True, True, 0 ≤ v2 ∧ v2 < (s1.length : Int), True, Pure Try.prog 19 [.agg [.p β0 (.slice (.int .i32)) ((s1.getD v2.toNat (([] : List Int), ([] : List Int))).1), .p β0 (.slice (.int .u8)) ((s1.getD v2.toNat (([] : List Int), ([] : List Int))).2)], .fad true [.p β1 (.slice (.int .i32)) f1, .p β2 (.slice (.int .u8)) f2] 0] (.p false .bool r7)] (by kernel_rfl) (by kernel_rfl) ⟨trivial, trivial, trivial, c6, trivial, (pats_Parse_1_ok β0 β0 β1 β2 ((s1.getD v2.toNat (([] : List Int), ([] : List Int))).1) ((s1.getD v2.toNat (([] : List Int), ([] : List Int))).2) f1 f2 _ q6), trivial⟩ ?_
      refine to_then ?_
      refine W_cond (b := r7) (β := false) (by kernel_rfl) (fun hb6 => ?_) (fun hb6 => ?_)
      · replace h := h_if hb6 h
        refine W_seq ?_
        refine W_reg tbok ⟨[], []⟩ [] [] [(4, .p false (.int .i64) v2)] [] 0 0 [True, True] (by kernel_rfl) (by kernel_rfl) ⟨trivial, trivial, trivial⟩ ?_
        refine to_then ?_
        refine W_ret ?_
        obtain rfl := Option.some.inj h
        refine blockQ_ret ?_
        refine thenQ_ret ?_
        refine round_ret ?_
        refine postS_rr ?_
        exact postR_mk (Ret_intro [(.int .i64)] (by kernel_rfl))
      · replace h := h_else hb6 h
        refine W_skip_to ?_
        refine to_block ?_
        refine to_then ?_
        refine W_reg tbok ⟨[], []⟩ [] [] [(0, .p β0 (.slice (.prod (.slice (.int .i32)) (.slice (.int .u8)))) s1), (1, .fn 19 [.fad true [.p β1 (.slice (.int .i32)) f1, .p β2 (.slice (.int .u8)) f2] 0]), (7, .p false (.int .i64) (s1.length : Int)), (8, .p false (.int .i64) (IntKind.i64.wrap (v2 + (1 : Int))))] [] 0 0 [True, True] (by kernel_rfl) (by kernel_rfl) ⟨trivial, trivial, trivial⟩ ?_
        obtain rfl := Option.some.inj h
        exact roundB (goal_le (gs := []) (f := []) (by kernel_rfl) (by kernel_rfl))
    · replace h := h_else hb5 h
      refine W_exit_to ?_
      refine thenE ?_
      obtain rfl := Option.some.inj h
      refine roundE ?_
      refine postS_l ?_
      exact postX_to (goal_le (gs := []) (f := []) (by kernel_rfl) (by kernel_rfl))
  · clear hp1
    rcases r8 with _ | r5
    · obtain ⟨rfl, hle⟩ := hq
      refine use_to ?_ hle
      refine blockE_eq ?_
      refine to_then ?_
      refine W_seq ?_
      refine W_reg tbok ⟨[], []⟩ [] [] [(4, .p false (.int .i64) (-1 : Int))] [] 0 0 [True] (by kernel_rfl) (by kernel_rfl) ⟨trivial, trivial⟩ ?_
      refine to_then ?_
      refine W_ret ?_
      obtain rfl := Option.some.inj h
      exact Ret_intro [(.int .i64)] (by kernel_rfl)
    · obtain ⟨rfl, hr⟩ := hq
      refine blockQ_ret ?_
      refine thenQ_ret ?_
      obtain rfl := Option.some.inj h
      exact hr

/-- 'slices.ContainsFunc[[]stanza/api.Pattern,stanza/api.Pattern]' -/
def api_Pattern (s1 : List ((List Int) × List Int)) (f1 : List Int) (f2 : List Int) : Option (Bool) :=
  ((api_Pattern_v1 s1 f1 f2).bind fun (r2 : Int) =>
  some (decide (r2 ≥ (0 : Int))))

set_option maxRecDepth 100000 in
set_option maxHeartbeats 4000000 in
theorem api_Pattern_ok (β0 β1 β2 : Bool) (s1 : List ((List Int) × List Int)) (f1 : List Int) (f2 : List Int) (res : Bool) (h : api_Pattern s1 f1 f2 = some res) :
    Pure Try.prog 18 [.p β0 (.slice (.prod (.slice (.int .i32)) (.slice (.int .u8)))) s1, .fn 19 [.fad true [.p β1 (.slice (.int .i32)) f1, .p β2 (.slice (.int .u8)) f2] 0]] (wrapR (encs false [⟨.bool, res⟩])) := by
  refine Pure.of_body tbok Try.func18 (by kernel_rfl) rfl (Nat.le_of_ble_eq_true rfl) (fun Bw w0 => ?_) rfl
  unfold api_Pattern at h
  refine W_seq ?_
  refine W_reg tbok ⟨[], []⟩ [] [] [(0, .p β0 (.slice (.prod (.slice (.int .i32)) (.slice (.int .u8)))) s1), (1, .fn 19 [.fad true [.p β1 (.slice (.int .i32)) f1, .p β2 (.slice (.int .u8)) f2] 0])] [] 0 0 [True] (by kernel_rfl) (by kernel_rfl) ⟨trivial, trivial⟩ ?_
  refine to_then ?_
  refine W_seq ?_
  obtain ⟨r2, q2, h⟩ := h_bind h
  refine W_reg tbok ⟨[], [(2, ⟨.p false (.int .i64) r2, [false, false], false, [true, true], [], []⟩)]⟩ [] [] [(4, .p false .bool (decide (r2 ≥ (0 : Int))))] [] 0 0 [True, True, Pure Try.prog 28 [.p β0 (.slice (.prod (.slice (.int .i32)) (.slice (.int .u8)))) s1, .fn 19 [.fad true [.p β1 (.slice (.int .i32)) f1, .p β2 (.slice (.int .u8)) f2] 0]] (.p false (.int .i64) r2), True, True] (by kernel_rfl) (by kernel_rfl) ⟨trivial, trivial, (api_Pattern_v1_ok β0 β1 β2 s1 f1 f2 _ q2), trivial, trivial, trivial⟩ ?_
  refine to_then ?_
  refine W_ret ?_
  obtain rfl := Option.some.inj h
  exact Ret_intro [.bool] (by kernel_rfl)

/-- a loop of 'stanza/pats.Parse': one round -/
def pats_Parse_L1 (r2 : List (Int × Int × Int)) : (Int) → Option ((Int) ⊕ (Int)) := fun (v28 : Int) =>
  (((if (decide (v28 < (r2.length : Int))) = true then (if 0 ≤ v28 ∧ v28 < (r2.length : Int) then ((pats_blank ((r2.getD v28.toNat ((0 : Int), ((0 : Int), (0 : Int)))).1)).bind fun (r63 : Bool) =>
  some ((!r63))) else none)
  else some (false))).bind fun (v30 : Bool) => (if v30 = true then some (Sum.inl (IntKind.i64.wrap (v28 + (1 : Int))))
  else some (Sum.inr v28)))

/-- a loop of 'stanza/pats.Parse': one round -/
def pats_Parse_L2 (r2 : List (Int × Int × Int)) : ((List ((List Int) × List Int)) × (List ((List Int) × List Int)) × Int) → Option (((List ((List Int) × List Int)) × (List ((List Int) × List Int)) × Int) ⊕ (((List ((List Int) × List Int)) × List ((List Int) × List Int)) ⊕ (((List ((List Int) × List Int)) × List ((List Int) × List Int)) × Int × Int))) := fun ((v20, v21, v22) : (List ((List Int) × List Int)) × (List ((List Int) × List Int)) × Int) =>
  (if (decide (v22 < (r2.length : Int))) = true then (if 0 ≤ v22 ∧ v22 < (r2.length : Int) then ((pats_blank ((r2.getD v22.toNat ((0 : Int), ((0 : Int), (0 : Int)))).1)).bind fun (r54 : Bool) =>
  (if r54 = true then some (Sum.inl (v20, v21, (IntKind.i64.wrap (v22 + (1 : Int)))))
  else ((iter (pats_Parse_L1 r2) v22).bind fun (v29 : Int) => (if 0 ≤ v22 ∧ v22 < (r2.length : Int) then (if (decide ((IntKind.i64.wrap ((v20.length : Int) + (v21.length : Int))) ≥ (256 : Int))) = true then some (Sum.inr (Sum.inr ((([] : List ((List Int) × List Int)), ([] : List ((List Int) × List Int))), ((24 : Int), (r2.getD v22.toNat ((0 : Int), ((0 : Int), (0 : Int)))).2.1))))
  else (if 0 ≤ v22 ∧ v22 ≤ v29 ∧ v29 ≤ v29 ∧ v29 ≤ (r2.length : Int) then ((pats_one ((r2.take v29.toNat).drop v22.toNat)).bind fun ((r66, r67) : ((List Int) × List Int) × Bool) =>
  (if (!r67) = true then some (Sum.inr (Sum.inr ((([] : List ((List Int) × List Int)), ([] : List ((List Int) × List Int))), ((30 : Int), (r2.getD v22.toNat ((0 : Int), ((0 : Int), (0 : Int)))).2.1))))
  else ((pats_hyphened ((r2.take v29.toNat).drop v22.toNat)).bind fun (r69 : Bool) =>
  (((if (!r69) = true then (if (v20.length + ([(r66.1, r66.2)] : List ((List Int) × List Int)).length) * 48 ≤ 140737488355328 ∧ v20.length + ([(r66.1, r66.2)] : List ((List Int) × List Int)).length ≤ 9223372036854775807 then some ((Sum.inl ((v20 ++ ([(r66.1, r66.2)] : List ((List Int) × List Int))), v21))) else none)
  else ((api_Pattern v21 r66.1 r66.2).bind fun (r75 : Bool) =>
  (if r75 = true then some ((Sum.inr ((([] : List ((List Int) × List Int)), ([] : List ((List Int) × List Int))), ((23 : Int), (r2.getD v22.toNat ((0 : Int), ((0 : Int), (0 : Int)))).2.1))))
  else (if (v21.length + ([(r66.1, r66.2)] : List ((List Int) × List Int)).length) * 48 ≤ 140737488355328 ∧ v21.length + ([(r66.1, r66.2)] : List ((List Int) × List Int)).length ≤ 9223372036854775807 then some ((Sum.inl (v20, (v21 ++ ([(r66.1, r66.2)] : List ((List Int) × List Int)))))) else none))))).bind fun (r76 : (((List ((List Int) × List Int)) × List ((List Int) × List Int)) ⊕ (((List ((List Int) × List Int)) × List ((List Int) × List Int)) × Int × Int))) => match r76 with
  | .inl (v31, v32) => some (Sum.inl (v31, v32, v29))
  | .inr ((r72, r73)) => some (Sum.inr (Sum.inr (r72, r73))))))) else none)) else none)))) else none)
  else some (Sum.inr (Sum.inl (v20, v21))))

/-- 'stanza/pats.Parse' -/
def pats_Parse (d1 : List UInt8) : Option (((List ((List Int) × List Int)) × List ((List Int) × List Int)) × Int × Int) :=
  (if (decide ((d1.length : Int) > (4096 : Int))) = true then some ((([] : List ((List Int) × List Int)), ([] : List ((List Int) × List Int))), ((24 : Int), (4096 : Int)))
  else ((scal_All (numsOf d1)).bind fun (r2 : List (Int × Int × Int)) =>
  ((iter (pats_Parse_L2 r2) (([] : List ((List Int) × List Int)), ([] : List ((List Int) × List Int)), (0 : Int))).bind fun (r77 : (((List ((List Int) × List Int)) × List ((List Int) × List Int)) ⊕ (((List ((List Int) × List Int)) × List ((List Int) × List Int)) × Int × Int))) => match r77 with
  | .inl (v23, v24) => some ((v23, v24), ((0 : Int), (0 : Int)))
  | .inr ((r51, r52)) => some (r51, r52))))

set_option maxRecDepth 100000 in
set_option maxHeartbeats 4000000 in
theorem pats_Parse_ok (d1 : List UInt8) (res : ((List ((List Int) × List Int)) × List ((List Int) × List Int)) × Int × Int) (h : pats_Parse d1 = some res) :
    Pure Try.prog 10 [.p false .str d1] (wrapR (encs false [⟨(.prod (.slice (.prod (.slice (.int .i32)) (.slice (.int .u8)))) (.slice (.prod (.slice (.int .i32)) (.slice (.int .u8))))), res.1⟩, ⟨(.prod (.int .i64) (.int .i64)), res.2⟩])) := by
  refine Pure.of_body tbok Try.func10 (by kernel_rfl) rfl (Nat.le_of_ble_eq_true rfl) (fun Bw w0 => ?_) rfl
  unfold pats_Parse at h
  refine W_seq ?_
  refine W_reg tbok ⟨[], []⟩ [] [0, 8] [(0, .p false .str d1), (2, .adr 0 0 2 0), (3, .adr 1 0 2 0)] [(0, .box [.nils, .nils]), (1, .box [.p false (.int .i64) (0 : Int), .p false (.int .i64) (0 : Int)])] 2 0 [True, True] (by kernel_rfl) (by kernel_rfl) ⟨trivial, trivial, trivial⟩ ?_
  refine to_then ?_
  refine W_seq ?_
  refine W_reg tbok ⟨[], []⟩ [] [0, 1, 2] [(0, .p false .str d1), (2, .adr 0 0 2 0), (3, .adr 1 0 2 0), (4, .adr 2 0 2 0)] [(0, .box [.nils, .nils]), (1, .box [.p false (.int .i64) (0 : Int), .p false (.int .i64) (0 : Int)]), (2, .box [.nils, .nils])] 3 0 [True] (by kernel_rfl) (by kernel_rfl) ⟨trivial, trivial⟩ ?_
  refine to_then ?_
  refine W_seq ?_
  refine W_seq ?_
  refine W_reg tbok ⟨[], []⟩ [] [0, 1, 2] [(0, .p false .str d1), (2, .adr 0 0 2 0), (3, .adr 1 0 2 0), (4, .adr 2 0 2 0), (14, .p false .bool (decide ((d1.length : Int) > (4096 : Int))))] [(0, .box [.nils, .nils]), (1, .box [.p false (.int .i64) (0 : Int), .p false (.int .i64) (0 : Int)]), (2, .box [.nils, .nils])] 3 0 [True, True, True] (by kernel_rfl) (by kernel_rfl) ⟨trivial, trivial, trivial, trivial⟩ ?_
  refine to_then ?_
  refine W_cond (b := (decide ((d1.length : Int) > (4096 : Int)))) (β := false) (by kernel_rfl) (fun hb1 => ?_) (fun hb1 => ?_)
  · replace h := h_if hb1 h
    refine W_seq ?_
    refine W_reg tbok ⟨[], []⟩ [] [0, 1] [(2, .adr 0 0 2 0), (3, .adr 1 0 2 0)] [(0, .box [.nils, .nils]), (1, .box [.p false (.int .i64) (24 : Int), .p false (.int .i64) (4096 : Int)])] 2 0 [True, True, True, True] (by kernel_rfl) (by kernel_rfl) ⟨trivial, trivial, trivial, trivial, trivial⟩ ?_
    refine to_then ?_
    refine W_ret ?_
    refine thenQ_ret ?_
    obtain rfl := Option.some.inj h
    exact Ret_intro [(.prod (.slice (.prod (.slice (.int .i32)) (.slice (.int .u8)))) (.slice (.prod (.slice (.int .i32)) (.slice (.int .u8))))), (.prod (.int .i64) (.int .i64))] (by kernel_rfl)
  · replace h := h_else hb1 h
    refine W_skip_to ?_
    refine to_then ?_
    refine W_seq ?_
    obtain ⟨r2, q2, h⟩ := h_bind h
    refine W_reg tbok ⟨[], [(2, ⟨.p false (.slice (.prod (.int .i32) (.prod (.int .i64) (.int .i64)))) r2, [false], false, [true], [], []⟩)]⟩ [] [0, 1, 2] [(2, .adr 0 0 2 0), (3, .adr 1 0 2 0), (4, .adr 2 0 2 0), (5, .p false (.slice (.prod (.int .i32) (.prod (.int .i64) (.int .i64)))) r2)] [(0, .box [.nils, .nils]), (1, .box [.p false (.int .i64) (0 : Int), .p false (.int .i64) (0 : Int)]), (2, .box [.nils, .nils])] 3 0 [True, True, Pure Try.prog 14 [.p false (.slice (.int .u8)) (numsOf d1)] (.p false (.slice (.prod (.int .i32) (.prod (.int .i64) (.int .i64)))) r2), True] (by kernel_rfl) (by kernel_rfl) ⟨trivial, trivial, (scal_All_ok false (numsOf d1) _ q2), trivial, trivial⟩ ?_
    refine to_then ?_
    refine W_seq ?_
    refine W_seq ?_
    refine W_reg tbok ⟨[], []⟩ [] [0, 1, 2] [(2, .adr 0 0 2 0), (3, .adr 1 0 2 0), (4, .adr 2 0 2 0), (5, .p false (.slice (.prod (.int .i32) (.prod (.int .i64) (.int .i64)))) r2), (6, .p false (.int .i64) (0 : Int))] [(0, .box [.nils, .nils]), (1, .box [.p false (.int .i64) (0 : Int), .p false (.int .i64) (0 : Int)]), (2, .box [.nils, .nils])] 3 0 [True] (by kernel_rfl) (by kernel_rfl) ⟨trivial, trivial⟩ ?_
    refine to_then ?_
    refine W_block ?_
    obtain ⟨r77, hp16, h⟩ := h_bind h
    refine W.mono (Q := (postS (postX Try.f10.ntmps 0 (fun ((v23, v24) : (List ((List Int) × List Int)) × List ((List Int) × List Int)) => mkSt [(2, .adr 0 0 2 0), (3, .adr 1 0 2 0), (4, .adr 2 0 2 0)] [(0, .box [.nils, .nils]), (1, .box [.p false (.int .i64) (0 : Int), .p false (.int .i64) (0 : Int)]), (2, .box [.sl 3, .sl 4]), (3, .arr 37 (.prod (.slice (.int .i32)) (.slice (.int .u8))) v23), (4, .arr 37 (.prod (.slice (.int .i32)) (.slice (.int .u8))) v24)] 5)) (postR tb Try.f10.results.toList (fun ((r51, r52) : ((List ((List Int) × List Int)) × List ((List Int) × List Int)) × Int × Int) => [⟨(.prod (.slice (.prod (.slice (.int .i32)) (.slice (.int .u8)))) (.slice (.prod (.slice (.int .i32)) (.slice (.int .u8))))), r51⟩, ⟨(.prod (.int .i64) (.int .i64)), r52⟩]))) r77) (W_iter (f := fun ((v20, v21, v22) : (List ((List Int) × List Int)) × (List ((List Int) × List Int)) × Int) => mkSt [(2, .adr 0 0 2 0), (3, .adr 1 0 2 0), (4, .adr 2 0 2 0), (5, .p false (.slice (.prod (.int .i32) (.prod (.int .i64) (.int .i64)))) r2), (6, .p false (.int .i64) v22)] [(0, .box [.nils, .nils]), (1, .box [.p false (.int .i64) (0 : Int), .p false (.int .i64) (0 : Int)]), (2, .box [.sl 3, .sl 4]), (3, .arr 37 (.prod (.slice (.int .i32)) (.slice (.int .u8))) v20), (4, .arr 37 (.prod (.slice (.int .i32)) (.slice (.int .u8))) v21)] 5) (Q := (postS (postX Try.f10.ntmps 0 (fun ((v23, v24) : (List ((List Int) × List Int)) × List ((List Int) × List Int)) => mkSt [(2, .adr 0 0 2 0), (3, .adr 1 0 2 0), (4, .adr 2 0 2 0)] [(0, .box [.nils, .nils]), (1, .box [.p false (.int .i64) (0 : Int), .p false (.int .i64) (0 : Int)]), (2, .box [.sl 3, .sl 4]), (3, .arr 37 (.prod (.slice (.int .i32)) (.slice (.int .u8))) v23), (4, .arr 37 (.prod (.slice (.int .i32)) (.slice (.int .u8))) v24)] 5)) (postR tb Try.f10.results.toList (fun ((r51, r52) : ((List ((List Int) × List Int)) × List ((List Int) × List Int)) × Int × Int) => [⟨(.prod (.slice (.prod (.slice (.int .i32)) (.slice (.int .u8)))) (.slice (.prod (.slice (.int .i32)) (.slice (.int .u8))))), r51⟩, ⟨(.prod (.int .i64) (.int .i64)), r52⟩])))) hp16 (goal_le (gs := [.nilC 2 0 3 37 (.prod (.slice (.int .i32)) (.slice (.int .u8))), .nilC 2 1 4 37 (.prod (.slice (.int .i32)) (.slice (.int .u8)))]) (f := [0, 1, 2, 3, 4]) (by kernel_rfl) (by kernel_rfl)) (fun y o ho => ?_)) (fun e σ' hq => ?_)
    · obtain ⟨v20, v21, v22⟩ := y
      replace h := ho
      clear ho hp16
      unfold pats_Parse_L2 at h
      refine W_seq ?_
      refine W_seq ?_
      refine W_reg tbok ⟨[], []⟩ [] [0, 1, 2, 3, 4] [(2, .adr 0 0 2 0), (3, .adr 1 0 2 0), (4, .adr 2 0 2 0), (5, .p false (.slice (.prod (.int .i32) (.prod (.int .i64) (.int .i64)))) r2), (6, .p false (.int .i64) v22), (23, .p false .bool (decide (v22 < (r2.length : Int))))] [(0, .box [.nils, .nils]), (1, .box [.p false (.int .i64) (0 : Int), .p false (.int .i64) (0 : Int)]), (2, .box [.sl 3, .sl 4]), (3, .arr 37 (.prod (.slice (.int .i32)) (.slice (.int .u8))) v20), (4, .arr 37 (.prod (.slice (.int .i32)) (.slice (.int .u8))) v21)] 5 0 [True, True, True, True] (by kernel_rfl) (by kernel_rfl) ⟨trivial, trivial, trivial, trivial, trivial⟩ ?_
      refine to_then ?_
      refine W_cond (b := (decide (v22 < (r2.length : Int)))) (β := false) (by kernel_rfl) (fun hb42 => ?_) (fun hb42 => ?_)
      · replace h := h_if hb42 h
        refine W_skip_to ?_
        refine to_then ?_
        refine W_block ?_
        refine W_seq ?_
        refine W_seq ?_
        obtain ⟨c48, h⟩ := h_guard h
        obtain ⟨r54, q42, h⟩ := h_bind h
        refine W_reg tbok ⟨[], [(5, ⟨.p false .bool r54, [false], false, [true], [], []⟩)]⟩ [] [0, 1, 2, 3, 4] [(2, .adr 0 0 2 0), (3, .adr 1 0 2 0), (4, .adr 2 0 2 0), (5, .p false (.slice (.prod (.int .i32) (.prod (.int .i64) (.int .i64)))) r2), (6, .p false (.int .i64) v22), (29, .p false .bool r54)] [(0, .box [.nils, .nils]), (1, .box [.p false (.int .i64) (0 : Int), .p false (.int .i64) (0 : Int)]), (2, .box [.sl 3, .sl 4]), (3, .arr 37 (.prod (.slice (.int .i32)) (.slice (.int .u8))) v20), (4, .arr 37 (.prod (.slice (.int .i32)) (.slice (.int .u8))) v21)] 5 0 [True, True, 0 ≤ v22 ∧ v22 < (r2.length : Int), True, True, Pure Try.prog 15 [.p false (.int .i32) ((r2.getD v22.toNat ((0 : Int), ((0 : Int), (0 : Int)))).1)] (.p false .bool r54)] (by kernel_rfl) (by kernel_rfl) ⟨trivial, trivial, c48, trivial, trivial, (pats_blank_ok ((r2.getD v22.toNat ((0 : Int), ((0 : Int), (0 : Int)))).1) _ q42), trivial⟩ ?_
        refine to_then ?_
        refine W_cond (b := r54) (β := false) (by kernel_rfl) (fun hb43 => ?_) (fun hb43 => ?_)
        · replace h := h_if hb43 h
          refine W_seq ?_
          refine W_reg tbok ⟨[], []⟩ [] [0, 1, 2, 3, 4] [(2, .adr 0 0 2 0), (3, .adr 1 0 2 0), (4, .adr 2 0 2 0), (5, .p false (.slice (.prod (.int .i32) (.prod (.int .i64) (.int .i64)))) r2), (6, .p false (.int .i64) (IntKind.i64.wrap (v22 + (1 : Int))))] [(0, .box [.nils, .nils]), (1, .box [.p false (.int .i64) (0 : Int), .p false (.int .i64) (0 : Int)]), (2, .box [.sl 3, .sl 4]), (3, .arr 37 (.prod (.slice (.int .i32)) (.slice (.int .u8))) v20), (4, .arr 37 (.prod (.slice (.int .i32)) (.slice (.int .u8))) v21)] 5 0 [True, True, True] (by kernel_rfl) (by kernel_rfl) ⟨trivial, trivial, trivial, trivial⟩ ?_
          refine to_then ?_
          refine W_exit_to ?_
          refine thenE ?_
          refine blockE_eq ?_
          obtain rfl := Option.some.inj h
          exact roundB (goal_le (gs := []) (f := [0, 1, 2, 3, 4]) (by kernel_rfl) (by kernel_rfl))
        · replace h := h_else hb43 h
          refine W_skip_to ?_
          refine to_then ?_
          refine W_seq ?_
          refine W_reg tbok ⟨[], []⟩ [] [0, 1, 2, 3, 4] [(2, .adr 0 0 2 0), (3, .adr 1 0 2 0), (4, .adr 2 0 2 0), (5, .p false (.slice (.prod (.int .i32) (.prod (.int .i64) (.int .i64)))) r2), (6, .p false (.int .i64) v22), (7, .p false (.int .i64) v22)] [(0, .box [.nils, .nils]), (1, .box [.p false (.int .i64) (0 : Int), .p false (.int .i64) (0 : Int)]), (2, .box [.sl 3, .sl 4]), (3, .arr 37 (.prod (.slice (.int .i32)) (.slice (.int .u8))) v20), (4, .arr 37 (.prod (.slice (.int .i32)) (.slice (.int .u8))) v21)] 5 0 [True, True] (by kernel_rfl) (by kernel_rfl) ⟨trivial, trivial, trivial⟩ ?_
          refine to_then ?_
          refine W_seq ?_
          refine W_block ?_
          obtain ⟨v29, hp14, h⟩ := h_bind h
          refine W.mono (Q := (postX Try.f10.ntmps 2 (fun (v29 : Int) => mkSt [(2, .adr 0 0 2 0), (3, .adr 1 0 2 0), (4, .adr 2 0 2 0), (5, .p false (.slice (.prod (.int .i32) (.prod (.int .i64) (.int .i64)))) r2), (6, .p false (.int .i64) v22), (7, .p false (.int .i64) v29)] [(0, .box [.nils, .nils]), (1, .box [.p false (.int .i64) (0 : Int), .p false (.int .i64) (0 : Int)]), (2, .box [.sl 3, .sl 4]), (3, .arr 37 (.prod (.slice (.int .i32)) (.slice (.int .u8))) v20), (4, .arr 37 (.prod (.slice (.int .i32)) (.slice (.int .u8))) v21)] 5)) v29) (W_iter (f := fun (v28 : Int) => mkSt [(2, .adr 0 0 2 0), (3, .adr 1 0 2 0), (4, .adr 2 0 2 0), (5, .p false (.slice (.prod (.int .i32) (.prod (.int .i64) (.int .i64)))) r2), (6, .p false (.int .i64) v22), (7, .p false (.int .i64) v28)] [(0, .box [.nils, .nils]), (1, .box [.p false (.int .i64) (0 : Int), .p false (.int .i64) (0 : Int)]), (2, .box [.sl 3, .sl 4]), (3, .arr 37 (.prod (.slice (.int .i32)) (.slice (.int .u8))) v20), (4, .arr 37 (.prod (.slice (.int .i32)) (.slice (.int .u8))) v21)] 5) (Q := (postX Try.f10.ntmps 2 (fun (v29 : Int) => mkSt [(2, .adr 0 0 2 0), (3, .adr 1 0 2 0), (4, .adr 2 0 2 0), (5, .p false (.slice (.prod (.int .i32) (.prod (.int .i64) (.int .i64)))) r2), (6, .p false (.int .i64) v22), (7, .p false (.int .i64) v29)] [(0, .box [.nils, .nils]), (1, .box [.p false (.int .i64) (0 : Int), .p false (.int .i64) (0 : Int)]), (2, .box [.sl 3, .sl 4]), (3, .arr 37 (.prod (.slice (.int .i32)) (.slice (.int .u8))) v20), (4, .arr 37 (.prod (.slice (.int .i32)) (.slice (.int .u8))) v21)] 5))) hp14 (goal_le (gs := []) (f := [0, 1, 2, 3, 4]) (by kernel_rfl) (by kernel_rfl)) (fun v28 o ho => ?_)) (fun e σ' hq => ?_)
          · replace h := ho
            clear ho hp14
            unfold pats_Parse_L1 at h
            refine W_seq ?_
            refine W_seq ?_
            obtain ⟨v30, hp13, h⟩ := h_bind h
            refine W.mono (Q := (postN Try.f10.ntmps (fun (v30 : Bool) => mkSt [(2, .adr 0 0 2 0), (3, .adr 1 0 2 0), (4, .adr 2 0 2 0), (5, .p false (.slice (.prod (.int .i32) (.prod (.int .i64) (.int .i64)))) r2), (6, .p false (.int .i64) v22), (7, .p false (.int .i64) v28), (45, .p false .bool v30)] [(0, .box [.nils, .nils]), (1, .box [.p false (.int .i64) (0 : Int), .p false (.int .i64) (0 : Int)]), (2, .box [.sl 3, .sl 4]), (3, .arr 37 (.prod (.slice (.int .i32)) (.slice (.int .u8))) v20), (4, .arr 37 (.prod (.slice (.int .i32)) (.slice (.int .u8))) v21)] 5)) v30) ?_ (fun e σ' hq => ?_)
            · replace h := hp13
              clear hp13
              rcases Bool.eq_false_or_eq_true (decide (v28 < (r2.length : Int))) with hb54 | hb54
              · replace h := h_if hb54 h
                obtain ⟨c57, h⟩ := h_guard h
                obtain ⟨r63, q51, h⟩ := h_bind h
                refine W_reg tbok ⟨[(4, true), (12, true)], [(10, ⟨.p false .bool r63, [false], false, [true], [], []⟩)]⟩ [] [0, 1, 2, 3, 4] [(2, .adr 0 0 2 0), (3, .adr 1 0 2 0), (4, .adr 2 0 2 0), (5, .p false (.slice (.prod (.int .i32) (.prod (.int .i64) (.int .i64)))) r2), (6, .p false (.int .i64) v22), (7, .p false (.int .i64) v28), (45, .p false .bool (!r63))] [(0, .box [.nils, .nils]), (1, .box [.p false (.int .i64) (0 : Int), .p false (.int .i64) (0 : Int)]), (2, .box [.sl 3, .sl 4]), (3, .arr 37 (.prod (.slice (.int .i32)) (.slice (.int .u8))) v20), (4, .arr 37 (.prod (.slice (.int .i32)) (.slice (.int .u8))) v21)] 5 0 [True, True, True, True, True, (decide (v28 < (r2.length : Int))) = true ∧ True, (decide (v28 < (r2.length : Int))) = true ∧ True, (decide (v28 < (r2.length : Int))) = true ∧ 0 ≤ v28 ∧ v28 < (r2.length : Int), (decide (v28 < (r2.length : Int))) = true ∧ True, (decide (v28 < (r2.length : Int))) = true ∧ True, (decide (v28 < (r2.length : Int))) = true ∧ Pure Try.prog 15 [.p false (.int .i32) ((r2.getD v28.toNat ((0 : Int), ((0 : Int), (0 : Int)))).1)] (.p false .bool r63), (decide (v28 < (r2.length : Int))) = true ∧ True, (decide (v28 < (r2.length : Int))) = true] (by kernel_rfl) (by kernel_rfl) ⟨trivial, trivial, trivial, trivial, trivial, ⟨hb54, trivial⟩, ⟨hb54, trivial⟩, ⟨hb54, c57⟩, ⟨hb54, trivial⟩, ⟨hb54, trivial⟩, ⟨hb54, (pats_blank_ok ((r2.getD v28.toNat ((0 : Int), ((0 : Int), (0 : Int)))).1) _ q51)⟩, ⟨hb54, trivial⟩, hb54, trivial⟩ ?_
                obtain rfl := Option.some.inj h
                exact postN_to (goal_le (gs := []) (f := [0, 1, 2, 3, 4]) (by kernel_rfl) (by kernel_rfl))
              · replace h := h_else hb54 h
                refine W_reg tbok ⟨[(4, false), (12, false)], []⟩ [] [0, 1, 2, 3, 4] [(2, .adr 0 0 2 0), (3, .adr 1 0 2 0), (4, .adr 2 0 2 0), (5, .p false (.slice (.prod (.int .i32) (.prod (.int .i64) (.int .i64)))) r2), (6, .p false (.int .i64) v22), (7, .p false (.int .i64) v28), (45, .p false .bool false)] [(0, .box [.nils, .nils]), (1, .box [.p false (.int .i64) (0 : Int), .p false (.int .i64) (0 : Int)]), (2, .box [.sl 3, .sl 4]), (3, .arr 37 (.prod (.slice (.int .i32)) (.slice (.int .u8))) v20), (4, .arr 37 (.prod (.slice (.int .i32)) (.slice (.int .u8))) v21)] 5 0 [True, True, True, True, True, (decide (v28 < (r2.length : Int))) = false, (decide (v28 < (r2.length : Int))) = false, (decide (v28 < (r2.length : Int))) = false, (decide (v28 < (r2.length : Int))) = false, (decide (v28 < (r2.length : Int))) = false, (decide (v28 < (r2.length : Int))) = false, (decide (v28 < (r2.length : Int))) = false, (decide (v28 < (r2.length : Int))) = false] (by kernel_rfl) (by kernel_rfl) ⟨trivial, trivial, trivial, trivial, trivial, hb54, hb54, hb54, hb54, hb54, hb54, hb54, hb54, trivial⟩ ?_
                obtain rfl := Option.some.inj h
                exact postN_to (goal_le (gs := []) (f := [0, 1, 2, 3, 4]) (by kernel_rfl) (by kernel_rfl))
            · clear hp13
              obtain ⟨rfl, hle⟩ := hq
              refine use_to ?_ hle
              refine to_then ?_
              refine W_cond (b := v30) (β := false) (by kernel_rfl) (fun hb55 => ?_) (fun hb55 => ?_)
              · replace h := h_if hb55 h
                refine W_skip_to ?_
                refine to_then ?_
                refine W_block ?_
                refine W_reg tbok ⟨[], []⟩ [] [0, 1, 2, 3, 4] [(2, .adr 0 0 2 0), (3, .adr 1 0 2 0), (4, .adr 2 0 2 0), (5, .p false (.slice (.prod (.int .i32) (.prod (.int .i64) (.int .i64)))) r2), (6, .p false (.int .i64) v22), (7, .p false (.int .i64) (IntKind.i64.wrap (v28 + (1 : Int))))] [(0, .box [.nils, .nils]), (1, .box [.p false (.int .i64) (0 : Int), .p false (.int .i64) (0 : Int)]), (2, .box [.sl 3, .sl 4]), (3, .arr 37 (.prod (.slice (.int .i32)) (.slice (.int .u8))) v20), (4, .arr 37 (.prod (.slice (.int .i32)) (.slice (.int .u8))) v21)] 5 0 [True, True, True] (by kernel_rfl) (by kernel_rfl) ⟨trivial, trivial, trivial, trivial⟩ ?_
                refine to_block ?_
                obtain rfl := Option.some.inj h
                exact roundB (goal_le (gs := []) (f := [0, 1, 2, 3, 4]) (by kernel_rfl) (by kernel_rfl))
              · replace h := h_else hb55 h
                refine W_exit_to ?_
                refine thenE ?_
                obtain rfl := Option.some.inj h
                refine roundE ?_
                exact postX_to (goal_le (gs := []) (f := [0, 1, 2, 3, 4]) (by kernel_rfl) (by kernel_rfl))
          · clear hp14
            obtain ⟨rfl, hle⟩ := hq
            refine use_to ?_ hle
            refine blockE_eq ?_
            refine to_then ?_
            refine W_seq ?_
            obtain ⟨c59, h⟩ := h_guard h
            refine W_reg tbok ⟨[], []⟩ [] [0, 1, 2, 3, 4] [(2, .adr 0 0 2 0), (3, .adr 1 0 2 0), (4, .adr 2 0 2 0), (5, .p false (.slice (.prod (.int .i32) (.prod (.int .i64) (.int .i64)))) r2), (6, .p false (.int .i64) v22), (7, .p false (.int .i64) v29), (8, .p false (.int .i64) ((r2.getD v22.toNat ((0 : Int), ((0 : Int), (0 : Int)))).2.1))] [(0, .box [.nils, .nils]), (1, .box [.p false (.int .i64) (0 : Int), .p false (.int .i64) (0 : Int)]), (2, .box [.sl 3, .sl 4]), (3, .arr 37 (.prod (.slice (.int .i32)) (.slice (.int .u8))) v20), (4, .arr 37 (.prod (.slice (.int .i32)) (.slice (.int .u8))) v21)] 5 0 [True, True, 0 ≤ v22 ∧ v22 < (r2.length : Int), True, True, True] (by kernel_rfl) (by kernel_rfl) ⟨trivial, trivial, c59, trivial, trivial, trivial, trivial⟩ ?_
            refine to_then ?_
            refine W_seq ?_
            refine W_seq ?_
            refine W_reg tbok ⟨[], []⟩ [] [0, 1, 2, 3, 4] [(2, .adr 0 0 2 0), (3, .adr 1 0 2 0), (4, .adr 2 0 2 0), (5, .p false (.slice (.prod (.int .i32) (.prod (.int .i64) (.int .i64)))) r2), (6, .p false (.int .i64) v22), (7, .p false (.int .i64) v29), (8, .p false (.int .i64) ((r2.getD v22.toNat ((0 : Int), ((0 : Int), (0 : Int)))).2.1)), (60, .p false .bool (decide ((IntKind.i64.wrap ((v20.length : Int) + (v21.length : Int))) ≥ (256 : Int))))] [(0, .box [.nils, .nils]), (1, .box [.p false (.int .i64) (0 : Int), .p false (.int .i64) (0 : Int)]), (2, .box [.sl 3, .sl 4]), (3, .arr 37 (.prod (.slice (.int .i32)) (.slice (.int .u8))) v20), (4, .arr 37 (.prod (.slice (.int .i32)) (.slice (.int .u8))) v21)] 5 0 [True, True, True, True, True, True, True, True] (by kernel_rfl) (by kernel_rfl) ⟨trivial, trivial, trivial, trivial, trivial, trivial, trivial, trivial, trivial⟩ ?_
            refine to_then ?_
            refine W_cond (b := (decide ((IntKind.i64.wrap ((v20.length : Int) + (v21.length : Int))) ≥ (256 : Int)))) (β := false) (by kernel_rfl) (fun hb56 => ?_) (fun hb56 => ?_)
            · replace h := h_if hb56 h
              refine W_seq ?_
              refine W_reg tbok ⟨[], []⟩ [] [0, 1] [(2, .adr 0 0 2 0), (3, .adr 1 0 2 0)] [(0, .box [.nils, .nils]), (1, .box [.p false (.int .i64) (24 : Int), .p false (.int .i64) ((r2.getD v22.toNat ((0 : Int), ((0 : Int), (0 : Int)))).2.1)])] 2 0 [True, True, True, True, True] (by kernel_rfl) (by kernel_rfl) ⟨trivial, trivial, trivial, trivial, trivial, trivial⟩ ?_
              refine to_then ?_
              refine W_ret ?_
              obtain rfl := Option.some.inj h
              refine thenQ_ret ?_
              refine blockQ_ret ?_
              refine round_ret ?_
              refine postS_rr ?_
              exact postR_mk (Ret_intro [(.prod (.slice (.prod (.slice (.int .i32)) (.slice (.int .u8)))) (.slice (.prod (.slice (.int .i32)) (.slice (.int .u8))))), (.prod (.int .i64) (.int .i64))] (by kernel_rfl))
            · replace h := h_else hb56 h
              refine W_skip_to ?_
              refine to_then ?_
              refine W_seq ?_
              obtain ⟨c61, h⟩ := h_guard h
              refine W_reg tbok ⟨[], []⟩ [] [0, 1, 2, 3, 4] [(2, .adr 0 0 2 0), (3, .adr 1 0 2 0), (4, .adr 2 0 2 0), (5, .p false (.slice (.prod (.int .i32) (.prod (.int .i64) (.int .i64)))) r2), (7, .p false (.int .i64) v29), (8, .p false (.int .i64) ((r2.getD v22.toNat ((0 : Int), ((0 : Int), (0 : Int)))).2.1)), (9, .p false (.slice (.prod (.int .i32) (.prod (.int .i64) (.int .i64)))) ((r2.take v29.toNat).drop v22.toNat))] [(0, .box [.nils, .nils]), (1, .box [.p false (.int .i64) (0 : Int), .p false (.int .i64) (0 : Int)]), (2, .box [.sl 3, .sl 4]), (3, .arr 37 (.prod (.slice (.int .i32)) (.slice (.int .u8))) v20), (4, .arr 37 (.prod (.slice (.int .i32)) (.slice (.int .u8))) v21)] 5 0 [True, True, True, True, 0 ≤ v22 ∧ v22 ≤ v29 ∧ v29 ≤ v29 ∧ v29 ≤ (r2.length : Int), True] (by kernel_rfl) (by kernel_rfl) ⟨trivial, trivial, trivial, trivial, c61, trivial, trivial⟩ ?_
              refine to_then ?_
              refine W_seq ?_
              obtain ⟨⟨r66, r67⟩, q53, h⟩ := h_bind h
              refine W_reg tbok ⟨[], [(1, ⟨.tup [.agg [.p false (.slice (.int .i32)) r66.1, .p false (.slice (.int .u8)) r66.2], .p false .bool r67], [false], false, [true], [], []⟩)]⟩ [] [0, 1, 2, 3, 4, 45] [(2, .adr 0 0 2 0), (3, .adr 1 0 2 0), (4, .adr 2 0 2 0), (5, .p false (.slice (.prod (.int .i32) (.prod (.int .i64) (.int .i64)))) r2), (7, .p false (.int .i64) v29), (8, .p false (.int .i64) ((r2.getD v22.toNat ((0 : Int), ((0 : Int), (0 : Int)))).2.1)), (9, .p false (.slice (.prod (.int .i32) (.prod (.int .i64) (.int .i64)))) ((r2.take v29.toNat).drop v22.toNat)), (10, .adr 5 0 2 0), (11, .p false .bool r67)] [(0, .box [.nils, .nils]), (1, .box [.p false (.int .i64) (0 : Int), .p false (.int .i64) (0 : Int)]), (2, .box [.sl 3, .sl 4]), (3, .arr 37 (.prod (.slice (.int .i32)) (.slice (.int .u8))) v20), (4, .arr 37 (.prod (.slice (.int .i32)) (.slice (.int .u8))) v21), (5, .box [.p false (.slice (.int .i32)) r66.1, .p false (.slice (.int .u8)) r66.2])] 6 0 [True, Pure Try.prog 16 [.p false (.slice (.prod (.int .i32) (.prod (.int .i64) (.int .i64)))) ((r2.take v29.toNat).drop v22.toNat)] (.tup [.agg [.p false (.slice (.int .i32)) r66.1, .p false (.slice (.int .u8)) r66.2], .p false .bool r67]), True, True, True, True, True, True] (by kernel_rfl) (by kernel_rfl) ⟨trivial, (pats_one_ok false ((r2.take v29.toNat).drop v22.toNat) _ q53), trivial, trivial, trivial, trivial, trivial, trivial, trivial⟩ ?_
              refine to_then ?_
              refine W_seq ?_
              refine W_block ?_
              refine W_seq ?_
              refine W_reg tbok ⟨[], []⟩ [] [0, 1, 2, 3, 4, 5] [(2, .adr 0 0 2 0), (3, .adr 1 0 2 0), (4, .adr 2 0 2 0), (5, .p false (.slice (.prod (.int .i32) (.prod (.int .i64) (.int .i64)))) r2), (7, .p false (.int .i64) v29), (8, .p false (.int .i64) ((r2.getD v22.toNat ((0 : Int), ((0 : Int), (0 : Int)))).2.1)), (9, .p false (.slice (.prod (.int .i32) (.prod (.int .i64) (.int .i64)))) ((r2.take v29.toNat).drop v22.toNat)), (10, .adr 5 0 2 0), (80, .p false .bool (!r67))] [(0, .box [.nils, .nils]), (1, .box [.p false (.int .i64) (0 : Int), .p false (.int .i64) (0 : Int)]), (2, .box [.sl 3, .sl 4]), (3, .arr 37 (.prod (.slice (.int .i32)) (.slice (.int .u8))) v20), (4, .arr 37 (.prod (.slice (.int .i32)) (.slice (.int .u8))) v21), (5, .box [.p false (.slice (.int .i32)) r66.1, .p false (.slice (.int .u8)) r66.2])] 6 0 [True, True, True] (by kernel_rfl) (by kernel_rfl) ⟨trivial, trivial, trivial, trivial⟩ ?_
              refine to_then ?_
              refine W_cond (b := (!r67)) (β := false) (by kernel_rfl) (fun hb57 => ?_) (fun hb57 => ?_)
              · replace h := h_if hb57 h
                refine W_seq ?_
                refine W_reg tbok ⟨[], []⟩ [] [0, 1] [(2, .adr 0 0 2 0), (3, .adr 1 0 2 0)] [(0, .box [.nils, .nils]), (1, .box [.p false (.int .i64) (30 : Int), .p false (.int .i64) ((r2.getD v22.toNat ((0 : Int), ((0 : Int), (0 : Int)))).2.1)])] 2 0 [True, True, True, True, True] (by kernel_rfl) (by kernel_rfl) ⟨trivial, trivial, trivial, trivial, trivial, trivial⟩ ?_
                refine to_then ?_
                refine W_ret ?_
                obtain rfl := Option.some.inj h
                refine blockQ_ret ?_
                refine thenQ_ret ?_
                refine blockQ_ret ?_
                refine round_ret ?_
                refine postS_rr ?_
                exact postR_mk (Ret_intro [(.prod (.slice (.prod (.slice (.int .i32)) (.slice (.int .u8)))) (.slice (.prod (.slice (.int .i32)) (.slice (.int .u8))))), (.prod (.int .i64) (.int .i64))] (by kernel_rfl))
              · replace h := h_else hb57 h
                refine W_seq ?_
                obtain ⟨r69, q55, h⟩ := h_bind h
                refine W_reg tbok ⟨[], [(1, ⟨.p false .bool r69, [false], false, [true], [], []⟩)]⟩ [] [0, 1, 2, 3, 4, 5] [(2, .adr 0 0 2 0), (3, .adr 1 0 2 0), (4, .adr 2 0 2 0), (5, .p false (.slice (.prod (.int .i32) (.prod (.int .i64) (.int .i64)))) r2), (7, .p false (.int .i64) v29), (8, .p false (.int .i64) ((r2.getD v22.toNat ((0 : Int), ((0 : Int), (0 : Int)))).2.1)), (10, .adr 5 0 2 0), (86, .p false .bool (!r69))] [(0, .box [.nils, .nils]), (1, .box [.p false (.int .i64) (0 : Int), .p false (.int .i64) (0 : Int)]), (2, .box [.sl 3, .sl 4]), (3, .arr 37 (.prod (.slice (.int .i32)) (.slice (.int .u8))) v20), (4, .arr 37 (.prod (.slice (.int .i32)) (.slice (.int .u8))) v21), (5, .box [.p false (.slice (.int .i32)) r66.1, .p false (.slice (.int .u8)) r66.2])] 6 0 [True, Pure Try.prog 17 [.p false (.slice (.prod (.int .i32) (.prod (.int .i64) (.int .i64)))) ((r2.take v29.toNat).drop v22.toNat)] (.p false .bool r69), True, True] (by kernel_rfl) (by kernel_rfl) ⟨trivial, (pats_hyphened_ok false ((r2.take v29.toNat).drop v22.toNat) _ q55), trivial, trivial, trivial⟩ ?_
                refine to_then ?_
                obtain ⟨r76, hp15, h⟩ := h_bind h
                refine W.mono (Q := (postS (postN Try.f10.ntmps (fun ((v31, v32) : (List ((List Int) × List Int)) × List ((List Int) × List Int)) => mkSt [(2, .adr 0 0 2 0), (3, .adr 1 0 2 0), (4, .adr 2 0 2 0), (5, .p false (.slice (.prod (.int .i32) (.prod (.int .i64) (.int .i64)))) r2), (7, .p false (.int .i64) v29)] [(0, .box [.nils, .nils]), (1, .box [.p false (.int .i64) (0 : Int), .p false (.int .i64) (0 : Int)]), (2, .box [.sl 3, .sl 4]), (3, .arr 37 (.prod (.slice (.int .i32)) (.slice (.int .u8))) v31), (4, .arr 37 (.prod (.slice (.int .i32)) (.slice (.int .u8))) v32)] 5)) (postR tb Try.f10.results.toList (fun ((r72, r73) : ((List ((List Int) × List Int)) × List ((List Int) × List Int)) × Int × Int) => [⟨(.prod (.slice (.prod (.slice (.int .i32)) (.slice (.int .u8)))) (.slice (.prod (.slice (.int .i32)) (.slice (.int .u8))))), r72⟩, ⟨(.prod (.int .i64) (.int .i64)), r73⟩]))) r76) ?_ (fun e σ' hq => ?_)
                · replace h := hp15
                  clear hp15
                  refine W_cond (b := (!r69)) (β := false) (by kernel_rfl) (fun hb60 => ?_) (fun hb60 => ?_)
                  · replace h := h_if hb60 h
                    obtain ⟨c67, h⟩ := h_guard h
                    refine W_reg tbok ⟨[], []⟩ [] [0, 1, 2, 38, 4] [(2, .adr 0 0 2 0), (3, .adr 1 0 2 0), (4, .adr 2 0 2 0), (5, .p false (.slice (.prod (.int .i32) (.prod (.int .i64) (.int .i64)))) r2), (7, .p false (.int .i64) v29)] [(0, .box [.nils, .nils]), (1, .box [.p false (.int .i64) (0 : Int), .p false (.int .i64) (0 : Int)]), (2, .box [.sl 3, .sl 4]), (3, .arr 37 (.prod (.slice (.int .i32)) (.slice (.int .u8))) (v20 ++ ([(r66.1, r66.2)] : List ((List Int) × List Int)))), (4, .arr 37 (.prod (.slice (.int .i32)) (.slice (.int .u8))) v21)] 5 0 [True, True, True, True, (v20.length + ([(r66.1, r66.2)] : List ((List Int) × List Int)).length) * 48 ≤ 140737488355328 ∧ v20.length + ([(r66.1, r66.2)] : List ((List Int) × List Int)).length ≤ 9223372036854775807, True, True] (by kernel_rfl) (by kernel_rfl) ⟨trivial, trivial, trivial, trivial, c67, trivial, trivial, trivial⟩ ?_
                    obtain rfl := Option.some.inj h
                    refine postS_l ?_
                    exact postN_to (goal_le (gs := []) (f := [0, 1, 2, 3, 4]) (by kernel_rfl) (by kernel_rfl))
                  · replace h := h_else hb60 h
                    refine W_seq ?_
                    obtain ⟨r75, q59, h⟩ := h_bind h
                    refine W_reg tbok ⟨[], [(3, ⟨.p false .bool r75, [false, false], false, [true, true], [], []⟩)]⟩ [] [0, 1, 2, 3, 4, 5] [(2, .adr 0 0 2 0), (3, .adr 1 0 2 0), (4, .adr 2 0 2 0), (5, .p false (.slice (.prod (.int .i32) (.prod (.int .i64) (.int .i64)))) r2), (7, .p false (.int .i64) v29), (8, .p false (.int .i64) ((r2.getD v22.toNat ((0 : Int), ((0 : Int), (0 : Int)))).2.1)), (10, .adr 5 0 2 0), (96, .p false .bool r75)] [(0, .box [.nils, .nils]), (1, .box [.p false (.int .i64) (0 : Int), .p false (.int .i64) (0 : Int)]), (2, .box [.sl 3, .sl 4]), (3, .arr 37 (.prod (.slice (.int .i32)) (.slice (.int .u8))) v20), (4, .arr 37 (.prod (.slice (.int .i32)) (.slice (.int .u8))) v21), (5, .box [.p false (.slice (.int .i32)) r66.1, .p false (.slice (.int .u8)) r66.2])] 6 0 [True, True, True, Pure Try.prog 18 [.p true (.slice (.prod (.slice (.int .i32)) (.slice (.int .u8)))) v21, .fn 19 [.fad true [.p false (.slice (.int .i32)) r66.1, .p false (.slice (.int .u8)) r66.2] 0]] (.p false .bool r75), True] (by kernel_rfl) (by kernel_rfl) ⟨trivial, trivial, trivial, (api_Pattern_ok true false false v21 r66.1 r66.2 _ q59), trivial, trivial⟩ ?_
                    refine to_then ?_
                    refine W_cond (b := r75) (β := false) (by kernel_rfl) (fun hb61 => ?_) (fun hb61 => ?_)
                    · replace h := h_if hb61 h
                      refine W_seq ?_
                      refine W_reg tbok ⟨[], []⟩ [] [0, 1] [(2, .adr 0 0 2 0), (3, .adr 1 0 2 0)] [(0, .box [.nils, .nils]), (1, .box [.p false (.int .i64) (23 : Int), .p false (.int .i64) ((r2.getD v22.toNat ((0 : Int), ((0 : Int), (0 : Int)))).2.1)])] 2 0 [True, True, True, True, True] (by kernel_rfl) (by kernel_rfl) ⟨trivial, trivial, trivial, trivial, trivial, trivial⟩ ?_
                      refine to_then ?_
                      refine W_ret ?_
                      obtain rfl := Option.some.inj h
                      refine postS_rr ?_
                      exact postR_mk (Ret_intro [(.prod (.slice (.prod (.slice (.int .i32)) (.slice (.int .u8)))) (.slice (.prod (.slice (.int .i32)) (.slice (.int .u8))))), (.prod (.int .i64) (.int .i64))] (by kernel_rfl))
                    · replace h := h_else hb61 h
                      obtain ⟨c69, h⟩ := h_guard h
                      refine W_reg tbok ⟨[], []⟩ [] [0, 1, 2, 3, 38] [(2, .adr 0 0 2 0), (3, .adr 1 0 2 0), (4, .adr 2 0 2 0), (5, .p false (.slice (.prod (.int .i32) (.prod (.int .i64) (.int .i64)))) r2), (7, .p false (.int .i64) v29)] [(0, .box [.nils, .nils]), (1, .box [.p false (.int .i64) (0 : Int), .p false (.int .i64) (0 : Int)]), (2, .box [.sl 3, .sl 4]), (3, .arr 37 (.prod (.slice (.int .i32)) (.slice (.int .u8))) v20), (4, .arr 37 (.prod (.slice (.int .i32)) (.slice (.int .u8))) (v21 ++ ([(r66.1, r66.2)] : List ((List Int) × List Int))))] 5 0 [True, True, True, True, (v21.length + ([(r66.1, r66.2)] : List ((List Int) × List Int)).length) * 48 ≤ 140737488355328 ∧ v21.length + ([(r66.1, r66.2)] : List ((List Int) × List Int)).length ≤ 9223372036854775807, True, True] (by kernel_rfl) (by kernel_rfl) ⟨trivial, trivial, trivial, trivial, c69, trivial, trivial, trivial⟩ ?_
                      obtain rfl := Option.some.inj h
                      refine postS_l ?_
                      exact postN_to (goal_le (gs := []) (f := [0, 1, 2, 3, 4]) (by kernel_rfl) (by kernel_rfl))
                · clear hp15
                  rcases r76 with ⟨v31, v32⟩ | ⟨r72, r73⟩
                  · obtain ⟨rfl, hle⟩ := hq
                    refine use_to ?_ hle
                    refine to_block ?_
                    refine to_then ?_
                    refine W_reg tbok ⟨[], []⟩ [] [0, 1, 2, 3, 4] [(2, .adr 0 0 2 0), (3, .adr 1 0 2 0), (4, .adr 2 0 2 0), (5, .p false (.slice (.prod (.int .i32) (.prod (.int .i64) (.int .i64)))) r2), (6, .p false (.int .i64) v29)] [(0, .box [.nils, .nils]), (1, .box [.p false (.int .i64) (0 : Int), .p false (.int .i64) (0 : Int)]), (2, .box [.sl 3, .sl 4]), (3, .arr 37 (.prod (.slice (.int .i32)) (.slice (.int .u8))) v31), (4, .arr 37 (.prod (.slice (.int .i32)) (.slice (.int .u8))) v32)] 5 0 [True, True] (by kernel_rfl) (by kernel_rfl) ⟨trivial, trivial, trivial⟩ ?_
                    refine to_block ?_
                    obtain rfl := Option.some.inj h
                    exact roundB (goal_le (gs := []) (f := [0, 1, 2, 3, 4]) (by kernel_rfl) (by kernel_rfl))
                  · obtain ⟨rfl, hr⟩ := hq
                    obtain rfl := Option.some.inj h
                    refine blockQ_ret ?_
                    refine thenQ_ret ?_
                    refine blockQ_ret ?_
                    refine round_ret ?_
                    refine postS_rr ?_
                    exact postR_mk hr
      · replace h := h_else hb42 h
        refine W_exit_to ?_
        refine thenE ?_
        obtain rfl := Option.some.inj h
        refine roundE ?_
        refine postS_l ?_
        exact postX_to (goal_le (gs := []) (f := [0, 1, 2, 3, 4]) (by kernel_rfl) (by kernel_rfl))
    · clear hp16
      rcases r77 with ⟨v23, v24⟩ | ⟨r51, r52⟩
      · obtain ⟨rfl, hle⟩ := hq
        refine use_to ?_ hle
        refine blockE_eq ?_
        refine to_then ?_
        refine W_seq ?_
        refine W_reg tbok ⟨[], []⟩ [] [0, 3, 4, 1] [(2, .adr 0 0 2 0), (3, .adr 3 0 2 0)] [(0, .box [.sl 1, .sl 2]), (1, .arr 37 (.prod (.slice (.int .i32)) (.slice (.int .u8))) v23), (2, .arr 37 (.prod (.slice (.int .i32)) (.slice (.int .u8))) v24), (3, .box [.p false (.int .i64) (0 : Int), .p false (.int .i64) (0 : Int)])] 4 0 [True, True, True, True] (by kernel_rfl) (by kernel_rfl) ⟨trivial, trivial, trivial, trivial, trivial⟩ ?_
        refine to_then ?_
        refine W_ret ?_
        obtain rfl := Option.some.inj h
        exact Ret_intro [(.prod (.slice (.prod (.slice (.int .i32)) (.slice (.int .u8)))) (.slice (.prod (.slice (.int .i32)) (.slice (.int .u8))))), (.prod (.int .i64) (.int .i64))] (by kernel_rfl)
      · obtain ⟨rfl, hr⟩ := hq
        refine blockQ_ret ?_
        refine thenQ_ret ?_
        obtain rfl := Option.some.inj h
        exact hr

end
end Go.Proofs.Ytcdmdcfpjeomfaa.T
