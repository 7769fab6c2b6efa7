/- Functions of the program as functions on data, and that the program's own come to them. -/
import Derived.Test.YtnjdmbifjbahdaaTvT04x0
import Derived.Test.YtnjdmbifjbahdaaTvT04xa
namespace Go.Proofs.Ytnjdmbifjbahdaa.T
open Go Go.Tv Go.Proofs
noncomputable section

/-- a loop of 'stanza/stanzaref04.Check': one round -/
def stanzaref04_Check_L1 (d1 : List (List Int)) (v13 : Int) : (Int) → Option ((Int) ⊕ ((Unit) ⊕ (Bool))) := fun (v17 : Int) =>
  (if 0 ≤ v13 ∧ v13 < (d1.length : Int) then (if (decide (v17 < ((d1.getD v13.toNat ([] : List Int)).length : Int))) = true then (((if 0 ≤ v13 ∧ v13 < (d1.length : Int) then (if 0 ≤ v17 ∧ v17 < ((d1.getD v13.toNat ([] : List Int)).length : Int) then (if (decide (((d1.getD v13.toNat ([] : List Int)).getD v17.toNat (0 : Int)) < (0 : Int))) = true then some (true)
  else (if 0 ≤ v13 ∧ v13 < (d1.length : Int) then (if 0 ≤ v17 ∧ v17 < ((d1.getD v13.toNat ([] : List Int)).length : Int) then some ((decide (((d1.getD v13.toNat ([] : List Int)).getD v17.toNat (0 : Int)) ≥ (d1.length : Int)))) else none) else none)) else none) else none)).bind fun (v18 : Bool) => (if v18 = true then some (Sum.inr (Sum.inr false))
  else some (Sum.inl (IntKind.i64.wrap (v17 + (1 : Int))))))
  else some (Sum.inr (Sum.inl ()))) else none)

/-- a loop of 'stanza/stanzaref04.Check': one round -/
def stanzaref04_Check_L2 (d1 : List (List Int)) : (Int) → Option ((Int) ⊕ ((Unit) ⊕ (Bool))) := fun (v13 : Int) =>
  (if (decide (v13 < (d1.length : Int))) = true then (if 0 ≤ v13 ∧ v13 < (d1.length : Int) then (if 0 ≤ (0 : Int) ∧ (0 : Int) < (d1.length : Int) then (if (((d1.getD v13.toNat ([] : List Int)).length : Int) != ((d1.getD ((0 : Int).toNat) ([] : List Int)).length : Int)) = true then some (Sum.inr (Sum.inr false))
  else ((iter (stanzaref04_Check_L1 d1 v13) (0 : Int)).bind fun (r7 : ((Unit) ⊕ (Bool))) => match r7 with
  | .inl _ => some (Sum.inl (IntKind.i64.wrap (v13 + (1 : Int))))
  | .inr (r6) => some (Sum.inr (Sum.inr r6)))) else none) else none)
  else some (Sum.inr (Sum.inl ())))

/-- 'stanza/stanzaref04.Check' -/
def stanzaref04_Check (d1 : List (List Int)) (d2 : List Int) : Option (Bool) :=
  (((if (decide ((d1.length : Int) < (1 : Int))) = true then some (true)
  else some (((d2.length : Int) != (d1.length : Int))))).bind fun (v1 : Bool) => (if v1 = true then some false
  else ((iter (stanzaref04_Check_L2 d1) (0 : Int)).bind fun (r8 : ((Unit) ⊕ (Bool))) => match r8 with
  | .inl _ => some true
  | .inr (r5) => some r5)))

set_option maxRecDepth 100000 in
set_option maxHeartbeats 4000000 in
theorem stanzaref04_Check_ok (β0 β1 : Bool) (d1 : List (List Int)) (d2 : List Int) (res : Bool) (h : stanzaref04_Check d1 d2 = some res) :
    Pure Try.prog 10 [.agg [.p β0 (.slice (.slice (.int .i64))) d1, .p β1 (.slice (.int .u32)) d2]] (wrapR (encs false [⟨.bool, res⟩])) := by
  refine Pure.of_body tbok Try.func10 (by kernel_rfl) rfl (Nat.le_of_ble_eq_true rfl) (fun Bw w0 => ?_) rfl
  unfold stanzaref04_Check at h
  refine W_seq ?_
  refine W_reg tbok ⟨[], []⟩ [] [0] [(1, .adr 0 0 2 0)] [(0, .box [.p β0 (.slice (.slice (.int .i64))) d1, .p β1 (.slice (.int .u32)) d2])] 1 0 [True, True] (by kernel_rfl) (by kernel_rfl) ⟨trivial, trivial, trivial⟩ ?_
  refine to_then ?_
  refine W_seq ?_
  refine W_reg tbok ⟨[], []⟩ [] [0] [(1, .adr 0 0 2 0), (3, .p false (.int .i64) (d1.length : Int))] [(0, .box [.p β0 (.slice (.slice (.int .i64))) d1, .p β1 (.slice (.int .u32)) d2])] 1 0 [True, True, True, True] (by kernel_rfl) (by kernel_rfl) ⟨trivial, trivial, trivial, trivial, trivial⟩ ?_
  refine to_then ?_
  refine W_seq ?_
  refine W_seq ?_
  obtain ⟨v1, hp1, h⟩ := h_bind h
  refine W.mono (Q := (postN Try.f10.ntmps (fun (v1 : Bool) => mkSt [(1, .adr 0 0 2 0), (3, .p false (.int .i64) (d1.length : Int)), (17, .p false .bool v1)] [(0, .box [.p β0 (.slice (.slice (.int .i64))) d1, .p β1 (.slice (.int .u32)) d2])] 1)) v1) ?_ (fun e σ' hq => ?_)
  · replace h := hp1
    clear hp1
    rcases Bool.eq_false_or_eq_true (decide ((d1.length : Int) < (1 : Int))) with hb3 | hb3
    · replace h := h_if hb3 h
      refine W_reg tbok ⟨[(2, true), (8, true)], []⟩ [] [0] [(1, .adr 0 0 2 0), (3, .p false (.int .i64) (d1.length : Int)), (17, .p false .bool true)] [(0, .box [.p β0 (.slice (.slice (.int .i64))) d1, .p β1 (.slice (.int .u32)) d2])] 1 0 [True, True, True, (decide ((d1.length : Int) < (1 : Int))) = true, (decide ((d1.length : Int) < (1 : Int))) = true, (decide ((d1.length : Int) < (1 : Int))) = true, (decide ((d1.length : Int) < (1 : Int))) = true, (decide ((d1.length : Int) < (1 : Int))) = true, (decide ((d1.length : Int) < (1 : Int))) = true] (by kernel_rfl) (by kernel_rfl) ⟨trivial, trivial, trivial, hb3, hb3, hb3, hb3, hb3, hb3, trivial⟩ ?_
      obtain rfl := Option.some.inj h
      exact postN_to (goal_le (gs := []) (f := [0]) (by kernel_rfl) (by kernel_rfl))
    · replace h := h_else hb3 h
      refine W_reg tbok ⟨[(2, false), (8, false)], []⟩ [] [0] [(1, .adr 0 0 2 0), (3, .p false (.int .i64) (d1.length : Int)), (17, .p false .bool ((d2.length : Int) != (d1.length : Int)))] [(0, .box [.p β0 (.slice (.slice (.int .i64))) d1, .p β1 (.slice (.int .u32)) d2])] 1 0 [True, True, True, (decide ((d1.length : Int) < (1 : Int))) = false ∧ True, (decide ((d1.length : Int) < (1 : Int))) = false ∧ True, (decide ((d1.length : Int) < (1 : Int))) = false ∧ True, (decide ((d1.length : Int) < (1 : Int))) = false ∧ True, (decide ((d1.length : Int) < (1 : Int))) = false ∧ True, (decide ((d1.length : Int) < (1 : Int))) = false] (by kernel_rfl) (by kernel_rfl) ⟨trivial, trivial, trivial, ⟨hb3, trivial⟩, ⟨hb3, trivial⟩, ⟨hb3, trivial⟩, ⟨hb3, trivial⟩, ⟨hb3, trivial⟩, hb3, trivial⟩ ?_
      obtain rfl := Option.some.inj h
      exact postN_to (goal_le (gs := []) (f := [0]) (by kernel_rfl) (by kernel_rfl))
  · clear hp1
    obtain ⟨rfl, hle⟩ := hq
    refine use_to ?_ hle
    refine to_then ?_
    refine W_cond (b := v1) (β := false) (by kernel_rfl) (fun hb4 => ?_) (fun hb4 => ?_)
    · replace h := h_if hb4 h
      refine W_seq ?_
      refine W_reg tbok ⟨[], []⟩ [] [] [(2, .p false .bool false)] [] 0 0 [True] (by kernel_rfl) (by kernel_rfl) ⟨trivial, trivial⟩ ?_
      refine to_then ?_
      refine W_ret ?_
      refine thenQ_ret ?_
      obtain rfl := Option.some.inj h
      exact Ret_intro [.bool] (by kernel_rfl)
    · replace h := h_else hb4 h
      refine W_skip_to ?_
      refine to_then ?_
      refine W_seq ?_
      refine W_seq ?_
      refine W_reg tbok ⟨[], []⟩ [] [0] [(1, .adr 0 0 2 0), (3, .p false (.int .i64) (d1.length : Int)), (4, .p false (.int .i64) (0 : Int))] [(0, .box [.p β0 (.slice (.slice (.int .i64))) d1, .p β1 (.slice (.int .u32)) d2])] 1 0 [True] (by kernel_rfl) (by kernel_rfl) ⟨trivial, trivial⟩ ?_
      refine to_then ?_
      refine W_block ?_
      obtain ⟨r8, hp14, h⟩ := h_bind h
      refine W.mono (Q := (postS (postX Try.f10.ntmps 0 (fun (_ : Unit) => mkSt [] [] 0)) (postR tb Try.f10.results.toList (fun (r5 : Bool) => [⟨.bool, r5⟩]))) r8) (W_iter (f := fun (v13 : Int) => mkSt [(1, .adr 0 0 2 0), (3, .p false (.int .i64) (d1.length : Int)), (4, .p false (.int .i64) v13)] [(0, .box [.p β0 (.slice (.slice (.int .i64))) d1, .p β1 (.slice (.int .u32)) d2])] 1) (Q := (postS (postX Try.f10.ntmps 0 (fun (_ : Unit) => mkSt [] [] 0)) (postR tb Try.f10.results.toList (fun (r5 : Bool) => [⟨.bool, r5⟩])))) hp14 (goal_le (gs := []) (f := [0]) (by kernel_rfl) (by kernel_rfl)) (fun v13 o ho => ?_)) (fun e σ' hq => ?_)
      · replace h := ho
        clear ho hp14
        unfold stanzaref04_Check_L2 at h
        refine W_seq ?_
        refine W_seq ?_
        refine W_reg tbok ⟨[], []⟩ [] [0] [(1, .adr 0 0 2 0), (3, .p false (.int .i64) (d1.length : Int)), (4, .p false (.int .i64) v13), (20, .p false .bool (decide (v13 < (d1.length : Int))))] [(0, .box [.p β0 (.slice (.slice (.int .i64))) d1, .p β1 (.slice (.int .u32)) d2])] 1 0 [True, True, True] (by kernel_rfl) (by kernel_rfl) ⟨trivial, trivial, trivial, trivial⟩ ?_
        refine to_then ?_
        refine W_cond (b := (decide (v13 < (d1.length : Int)))) (β := false) (by kernel_rfl) (fun hb39 => ?_) (fun hb39 => ?_)
        · replace h := h_if hb39 h
          refine W_skip_to ?_
          refine to_then ?_
          refine W_seq ?_
          refine W_block ?_
          refine W_seq ?_
          refine W_seq ?_
          obtain ⟨c95, h⟩ := h_guard h
          obtain ⟨c96, h⟩ := h_guard h
          refine W_regD tbok mixed ⟨[], []⟩ [] [0] [(1, .adr 0 0 2 0), (3, .p false (.int .i64) (d1.length : Int)), (4, .p false (.int .i64) v13), (34, .p false .bool (((d1.getD v13.toNat ([] : List Int)).length : Int) != ((d1.getD ((0 : Int).toNat) ([] : List Int)).length : Int)))] [(0, .box [.p β0 (.slice (.slice (.int .i64))) d1, .p β1 (.slice (.int .u32)) d2])] 1 0 [True, True, True, 0 ≤ v13 ∧ v13 < (d1.length : Int), True, True, True, True, 0 ≤ (0 : Int) ∧ (0 : Int) < (d1.length : Int), True, True, True] (by kernel_rfl) (by kernel_rfl) ⟨trivial, trivial, trivial, c95, trivial, trivial, trivial, trivial, c96, trivial, trivial, trivial, trivial⟩ ?_
          refine to_then ?_
          refine W_cond (b := (((d1.getD v13.toNat ([] : List Int)).length : Int) != ((d1.getD ((0 : Int).toNat) ([] : List Int)).length : Int))) (β := false) (by kernel_rfl) (fun hb40 => ?_) (fun hb40 => ?_)
          · replace h := h_if hb40 h
            refine W_seq ?_
            refine W_reg tbok ⟨[], []⟩ [] [] [(2, .p false .bool false)] [] 0 0 [True] (by kernel_rfl) (by kernel_rfl) ⟨trivial, trivial⟩ ?_
            refine to_then ?_
            refine W_ret ?_
            obtain rfl := Option.some.inj h
            refine thenQ_ret ?_
            refine blockQ_ret ?_
            refine thenQ_ret ?_
            refine round_ret ?_
            refine postS_rr ?_
            exact postR_mk (Ret_intro [.bool] (by kernel_rfl))
          · replace h := h_else hb40 h
            refine W_skip_to ?_
            refine to_then ?_
            refine W_seq ?_
            refine W_reg tbok ⟨[], []⟩ [] [0] [(1, .adr 0 0 2 0), (3, .p false (.int .i64) (d1.length : Int)), (4, .p false (.int .i64) v13), (5, .p false (.int .i64) (0 : Int))] [(0, .box [.p β0 (.slice (.slice (.int .i64))) d1, .p β1 (.slice (.int .u32)) d2])] 1 0 [True] (by kernel_rfl) (by kernel_rfl) ⟨trivial, trivial⟩ ?_
            refine to_then ?_
            refine W_block ?_
            obtain ⟨r7, hp13, h⟩ := h_bind h
            refine W.mono (Q := (postS (postX Try.f10.ntmps 2 (fun (_ : Unit) => mkSt [(1, .adr 0 0 2 0), (3, .p false (.int .i64) (d1.length : Int)), (4, .p false (.int .i64) v13)] [(0, .box [.p β0 (.slice (.slice (.int .i64))) d1, .p β1 (.slice (.int .u32)) d2])] 1)) (postR tb Try.f10.results.toList (fun (r6 : Bool) => [⟨.bool, r6⟩]))) r7) (W_iter (f := fun (v17 : Int) => mkSt [(1, .adr 0 0 2 0), (3, .p false (.int .i64) (d1.length : Int)), (4, .p false (.int .i64) v13), (5, .p false (.int .i64) v17)] [(0, .box [.p β0 (.slice (.slice (.int .i64))) d1, .p β1 (.slice (.int .u32)) d2])] 1) (Q := (postS (postX Try.f10.ntmps 2 (fun (_ : Unit) => mkSt [(1, .adr 0 0 2 0), (3, .p false (.int .i64) (d1.length : Int)), (4, .p false (.int .i64) v13)] [(0, .box [.p β0 (.slice (.slice (.int .i64))) d1, .p β1 (.slice (.int .u32)) d2])] 1)) (postR tb Try.f10.results.toList (fun (r6 : Bool) => [⟨.bool, r6⟩])))) hp13 (goal_le (gs := []) (f := [0]) (by kernel_rfl) (by kernel_rfl)) (fun v17 o ho => ?_)) (fun e σ' hq => ?_)
            · replace h := ho
              clear ho hp13
              unfold stanzaref04_Check_L1 at h
              refine W_seq ?_
              refine W_seq ?_
              obtain ⟨c126, h⟩ := h_guard h
              refine W_reg tbok ⟨[], []⟩ [] [0] [(1, .adr 0 0 2 0), (3, .p false (.int .i64) (d1.length : Int)), (4, .p false (.int .i64) v13), (5, .p false (.int .i64) v17), (42, .p false .bool (decide (v17 < ((d1.getD v13.toNat ([] : List Int)).length : Int))))] [(0, .box [.p β0 (.slice (.slice (.int .i64))) d1, .p β1 (.slice (.int .u32)) d2])] 1 0 [True, True, True, True, 0 ≤ v13 ∧ v13 < (d1.length : Int), True, True, True] (by kernel_rfl) (by kernel_rfl) ⟨trivial, trivial, trivial, trivial, c126, trivial, trivial, trivial, trivial⟩ ?_
              refine to_then ?_
              refine W_cond (b := (decide (v17 < ((d1.getD v13.toNat ([] : List Int)).length : Int)))) (β := false) (by kernel_rfl) (fun hb51 => ?_) (fun hb51 => ?_)
              · replace h := h_if hb51 h
                refine W_skip_to ?_
                refine to_then ?_
                refine W_seq ?_
                refine W_block ?_
                refine W_seq ?_
                obtain ⟨v18, hp12, h⟩ := h_bind h
                refine W.mono (Q := (postN Try.f10.ntmps (fun (v18 : Bool) => mkSt [(1, .adr 0 0 2 0), (3, .p false (.int .i64) (d1.length : Int)), (4, .p false (.int .i64) v13), (5, .p false (.int .i64) v17), (65, .p false .bool v18)] [(0, .box [.p β0 (.slice (.slice (.int .i64))) d1, .p β1 (.slice (.int .u32)) d2])] 1)) v18) ?_ (fun e σ' hq => ?_)
                · replace h := hp12
                  clear hp12
                  obtain ⟨c135, h⟩ := h_guard h
                  obtain ⟨c136, h⟩ := h_guard h
                  rcases Bool.eq_false_or_eq_true (decide (((d1.getD v13.toNat ([] : List Int)).getD v17.toNat (0 : Int)) < (0 : Int))) with hb54 | hb54
                  · replace h := h_if hb54 h
                    refine W_reg tbok ⟨[(9, true), (20, true)], []⟩ [] [0] [(1, .adr 0 0 2 0), (3, .p false (.int .i64) (d1.length : Int)), (4, .p false (.int .i64) v13), (5, .p false (.int .i64) v17), (65, .p false .bool true)] [(0, .box [.p β0 (.slice (.slice (.int .i64))) d1, .p β1 (.slice (.int .u32)) d2])] 1 0 [True, True, True, 0 ≤ v13 ∧ v13 < (d1.length : Int), True, True, 0 ≤ v17 ∧ v17 < ((d1.getD v13.toNat ([] : List Int)).length : Int), True, True, True, (decide (((d1.getD v13.toNat ([] : List Int)).getD v17.toNat (0 : Int)) < (0 : Int))) = true, (decide (((d1.getD v13.toNat ([] : List Int)).getD v17.toNat (0 : Int)) < (0 : Int))) = true, (decide (((d1.getD v13.toNat ([] : List Int)).getD v17.toNat (0 : Int)) < (0 : Int))) = true, (decide (((d1.getD v13.toNat ([] : List Int)).getD v17.toNat (0 : Int)) < (0 : Int))) = true, (decide (((d1.getD v13.toNat ([] : List Int)).getD v17.toNat (0 : Int)) < (0 : Int))) = true, (decide (((d1.getD v13.toNat ([] : List Int)).getD v17.toNat (0 : Int)) < (0 : Int))) = true, (decide (((d1.getD v13.toNat ([] : List Int)).getD v17.toNat (0 : Int)) < (0 : Int))) = true, (decide (((d1.getD v13.toNat ([] : List Int)).getD v17.toNat (0 : Int)) < (0 : Int))) = true, (decide (((d1.getD v13.toNat ([] : List Int)).getD v17.toNat (0 : Int)) < (0 : Int))) = true, (decide (((d1.getD v13.toNat ([] : List Int)).getD v17.toNat (0 : Int)) < (0 : Int))) = true, (decide (((d1.getD v13.toNat ([] : List Int)).getD v17.toNat (0 : Int)) < (0 : Int))) = true] (by kernel_rfl) (by kernel_rfl) ⟨trivial, trivial, trivial, c135, trivial, trivial, c136, trivial, trivial, trivial, hb54, hb54, hb54, hb54, hb54, hb54, hb54, hb54, hb54, hb54, hb54, trivial⟩ ?_
                    obtain rfl := Option.some.inj h
                    exact postN_to (goal_le (gs := []) (f := [0]) (by kernel_rfl) (by kernel_rfl))
                  · replace h := h_else hb54 h
                    obtain ⟨c137, h⟩ := h_guard h
                    obtain ⟨c138, h⟩ := h_guard h
                    refine W_reg tbok ⟨[(9, false), (20, false)], []⟩ [] [0] [(1, .adr 0 0 2 0), (3, .p false (.int .i64) (d1.length : Int)), (4, .p false (.int .i64) v13), (5, .p false (.int .i64) v17), (65, .p false .bool (decide (((d1.getD v13.toNat ([] : List Int)).getD v17.toNat (0 : Int)) ≥ (d1.length : Int))))] [(0, .box [.p β0 (.slice (.slice (.int .i64))) d1, .p β1 (.slice (.int .u32)) d2])] 1 0 [True, True, True, 0 ≤ v13 ∧ v13 < (d1.length : Int), True, True, 0 ≤ v17 ∧ v17 < ((d1.getD v13.toNat ([] : List Int)).length : Int), True, True, True, (decide (((d1.getD v13.toNat ([] : List Int)).getD v17.toNat (0 : Int)) < (0 : Int))) = false ∧ True, (decide (((d1.getD v13.toNat ([] : List Int)).getD v17.toNat (0 : Int)) < (0 : Int))) = false ∧ True, (decide (((d1.getD v13.toNat ([] : List Int)).getD v17.toNat (0 : Int)) < (0 : Int))) = false ∧ True, (decide (((d1.getD v13.toNat ([] : List Int)).getD v17.toNat (0 : Int)) < (0 : Int))) = false ∧ 0 ≤ v13 ∧ v13 < (d1.length : Int), (decide (((d1.getD v13.toNat ([] : List Int)).getD v17.toNat (0 : Int)) < (0 : Int))) = false ∧ True, (decide (((d1.getD v13.toNat ([] : List Int)).getD v17.toNat (0 : Int)) < (0 : Int))) = false ∧ True, (decide (((d1.getD v13.toNat ([] : List Int)).getD v17.toNat (0 : Int)) < (0 : Int))) = false ∧ 0 ≤ v17 ∧ v17 < ((d1.getD v13.toNat ([] : List Int)).length : Int), (decide (((d1.getD v13.toNat ([] : List Int)).getD v17.toNat (0 : Int)) < (0 : Int))) = false ∧ True, (decide (((d1.getD v13.toNat ([] : List Int)).getD v17.toNat (0 : Int)) < (0 : Int))) = false ∧ True, (decide (((d1.getD v13.toNat ([] : List Int)).getD v17.toNat (0 : Int)) < (0 : Int))) = false ∧ True, (decide (((d1.getD v13.toNat ([] : List Int)).getD v17.toNat (0 : Int)) < (0 : Int))) = false] (by kernel_rfl) (by kernel_rfl) ⟨trivial, trivial, trivial, c135, trivial, trivial, c136, trivial, trivial, trivial, ⟨hb54, trivial⟩, ⟨hb54, trivial⟩, ⟨hb54, trivial⟩, ⟨hb54, c137⟩, ⟨hb54, trivial⟩, ⟨hb54, trivial⟩, ⟨hb54, c138⟩, ⟨hb54, trivial⟩, ⟨hb54, trivial⟩, ⟨hb54, trivial⟩, hb54, trivial⟩ ?_
                    obtain rfl := Option.some.inj h
                    exact postN_to (goal_le (gs := []) (f := [0]) (by kernel_rfl) (by kernel_rfl))
                · clear hp12
                  obtain ⟨rfl, hle⟩ := hq
                  refine use_to ?_ hle
                  refine to_then ?_
                  refine W_cond (b := v18) (β := false) (by kernel_rfl) (fun hb55 => ?_) (fun hb55 => ?_)
                  · replace h := h_if hb55 h
                    refine W_seq ?_
                    refine W_reg tbok ⟨[], []⟩ [] [] [(2, .p false .bool false)] [] 0 0 [True] (by kernel_rfl) (by kernel_rfl) ⟨trivial, trivial⟩ ?_
                    refine to_then ?_
                    refine W_ret ?_
                    obtain rfl := Option.some.inj h
                    refine blockQ_ret ?_
                    refine thenQ_ret ?_
                    refine round_ret ?_
                    refine postS_rr ?_
                    exact postR_mk (Ret_intro [.bool] (by kernel_rfl))
                  · replace h := h_else hb55 h
                    refine W_skip_to ?_
                    refine to_block ?_
                    refine to_then ?_
                    refine W_reg tbok ⟨[], []⟩ [] [0] [(1, .adr 0 0 2 0), (3, .p false (.int .i64) (d1.length : Int)), (4, .p false (.int .i64) v13), (5, .p false (.int .i64) (IntKind.i64.wrap (v17 + (1 : Int))))] [(0, .box [.p β0 (.slice (.slice (.int .i64))) d1, .p β1 (.slice (.int .u32)) d2])] 1 0 [True, True, True] (by kernel_rfl) (by kernel_rfl) ⟨trivial, trivial, trivial, trivial⟩ ?_
                    obtain rfl := Option.some.inj h
                    exact roundB (goal_le (gs := []) (f := [0]) (by kernel_rfl) (by kernel_rfl))
              · replace h := h_else hb51 h
                refine W_exit_to ?_
                refine thenE ?_
                obtain rfl := Option.some.inj h
                refine roundE ?_
                refine postS_l ?_
                exact postX_to (goal_le (gs := []) (f := [0]) (by kernel_rfl) (by kernel_rfl))
            · clear hp13
              rcases r7 with _ | r6
              · obtain ⟨rfl, hle⟩ := hq
                refine use_to ?_ hle
                refine blockE_eq ?_
                refine to_block ?_
                refine to_then ?_
                refine W_reg tbok ⟨[], []⟩ [] [0] [(1, .adr 0 0 2 0), (3, .p false (.int .i64) (d1.length : Int)), (4, .p false (.int .i64) (IntKind.i64.wrap (v13 + (1 : Int))))] [(0, .box [.p β0 (.slice (.slice (.int .i64))) d1, .p β1 (.slice (.int .u32)) d2])] 1 0 [True, True, True] (by kernel_rfl) (by kernel_rfl) ⟨trivial, trivial, trivial, trivial⟩ ?_
                obtain rfl := Option.some.inj h
                exact roundB (goal_le (gs := []) (f := [0]) (by kernel_rfl) (by kernel_rfl))
              · obtain ⟨rfl, hr⟩ := hq
                obtain rfl := Option.some.inj h
                refine blockQ_ret ?_
                refine blockQ_ret ?_
                refine thenQ_ret ?_
                refine round_ret ?_
                refine postS_rr ?_
                exact postR_mk hr
        · replace h := h_else hb39 h
          refine W_exit_to ?_
          refine thenE ?_
          obtain rfl := Option.some.inj h
          refine roundE ?_
          refine postS_l ?_
          exact postX_to (goal_le (gs := []) (f := []) (by kernel_rfl) (by kernel_rfl))
      · clear hp14
        rcases r8 with _ | r5
        · obtain ⟨rfl, hle⟩ := hq
          refine use_to ?_ hle
          refine blockE_eq ?_
          refine to_then ?_
          refine W_seq ?_
          refine W_reg tbok ⟨[], []⟩ [] [] [(2, .p false .bool true)] [] 0 0 [True] (by kernel_rfl) (by kernel_rfl) ⟨trivial, trivial⟩ ?_
          refine to_then ?_
          refine W_ret ?_
          obtain rfl := Option.some.inj h
          exact Ret_intro [.bool] (by kernel_rfl)
        · obtain ⟨rfl, hr⟩ := hq
          refine blockQ_ret ?_
          refine thenQ_ret ?_
          obtain rfl := Option.some.inj h
          exact hr

/-- a loop of 'stanza/auto.Run': one round -/
def auto_Run_L1 (a1 : List (List Int)) (classes1 : List Int) : ((List Int) × Int × Int) → Option (((List Int) × Int × Int) ⊕ (List Int)) := fun ((out2, s2, v4) : (List Int) × Int × Int) =>
  (if (decide (v4 < (classes1.length : Int))) = true then (if 0 ≤ v4 ∧ v4 < (classes1.length : Int) then (((if (decide ((classes1.getD v4.toNat (0 : Int)) < (0 : Int))) = true then some (true)
  else (if 0 ≤ s2 ∧ s2 < (a1.length : Int) then some ((decide ((classes1.getD v4.toNat (0 : Int)) ≥ ((a1.getD s2.toNat ([] : List Int)).length : Int)))) else none))).bind fun (v5 : Bool) => (if v5 = true then some (Sum.inr out2)
  else (if 0 ≤ s2 ∧ s2 < (a1.length : Int) then (if 0 ≤ (classes1.getD v4.toNat (0 : Int)) ∧ (classes1.getD v4.toNat (0 : Int)) < ((a1.getD s2.toNat ([] : List Int)).length : Int) then (if (out2.length + ([((a1.getD s2.toNat ([] : List Int)).getD ((classes1.getD v4.toNat (0 : Int)).toNat) (0 : Int))] : List Int).length) * 8 ≤ 140737488355328 ∧ out2.length + ([((a1.getD s2.toNat ([] : List Int)).getD ((classes1.getD v4.toNat (0 : Int)).toNat) (0 : Int))] : List Int).length ≤ 9223372036854775807 then some (Sum.inl ((out2 ++ ([((a1.getD s2.toNat ([] : List Int)).getD ((classes1.getD v4.toNat (0 : Int)).toNat) (0 : Int))] : List Int)), ((a1.getD s2.toNat ([] : List Int)).getD ((classes1.getD v4.toNat (0 : Int)).toNat) (0 : Int)), (IntKind.i64.wrap (v4 + (1 : Int))))) else none) else none) else none))) else none)
  else some (Sum.inr out2))

/-- 'stanza/auto.Run' -/
def auto_Run (a1 : List (List Int)) (a2 : List Int) (classes1 : List Int) : Option (List Int) :=
  (if ((a1.length : Int) == (0 : Int)) = true then some ([] : List Int)
  else ((iter (auto_Run_L1 a1 classes1) (([(0 : Int)] : List Int), (0 : Int), (0 : Int))).bind fun (out3 : List Int) => some out3))

set_option maxRecDepth 100000 in
set_option maxHeartbeats 4000000 in
theorem auto_Run_ok (β0 β1 β2 : Bool) (a1 : List (List Int)) (a2 : List Int) (classes1 : List Int) (res : List Int) (h : auto_Run a1 a2 classes1 = some res) :
    Pure Try.prog 11 [.agg [.p β0 (.slice (.slice (.int .i64))) a1, .p β1 (.slice (.int .u32)) a2], .p β2 (.slice (.int .i64)) classes1] (wrapR (encs false [⟨(.slice (.int .i64)), res⟩])) := by
  refine Pure.of_body tbok Try.func11 (by kernel_rfl) rfl (Nat.le_of_ble_eq_true rfl) (fun Bw w0 => ?_) rfl
  unfold auto_Run at h
  refine W_seq ?_
  refine W_reg tbok ⟨[], []⟩ [] [0] [(1, .p β2 (.slice (.int .i64)) classes1), (2, .adr 0 0 2 0)] [(0, .box [.p β0 (.slice (.slice (.int .i64))) a1, .p β1 (.slice (.int .u32)) a2])] 1 0 [True, True] (by kernel_rfl) (by kernel_rfl) ⟨trivial, trivial, trivial⟩ ?_
  refine to_then ?_
  refine W_seq ?_
  refine W_seq ?_
  refine W_reg tbok ⟨[], []⟩ [] [0] [(1, .p β2 (.slice (.int .i64)) classes1), (2, .adr 0 0 2 0), (12, .p false .bool ((a1.length : Int) == (0 : Int)))] [(0, .box [.p β0 (.slice (.slice (.int .i64))) a1, .p β1 (.slice (.int .u32)) a2])] 1 0 [True, True, True, True] (by kernel_rfl) (by kernel_rfl) ⟨trivial, trivial, trivial, trivial, trivial⟩ ?_
  refine to_then ?_
  refine W_cond (b := ((a1.length : Int) == (0 : Int))) (β := false) (by kernel_rfl) (fun hb1 => ?_) (fun hb1 => ?_)
  · replace h := h_if hb1 h
    refine W_seq ?_
    refine W_reg tbok ⟨[], []⟩ [] [] [(4, .nils)] [] 0 0 [True] (by kernel_rfl) (by kernel_rfl) ⟨trivial, trivial⟩ ?_
    refine to_then ?_
    refine W_ret ?_
    refine thenQ_ret ?_
    obtain rfl := Option.some.inj h
    exact Ret_intro [(.slice (.int .i64))] (by kernel_rfl)
  · replace h := h_else hb1 h
    refine W_skip_to ?_
    refine to_then ?_
    refine W_seq ?_
    refine W_reg tbok ⟨[], []⟩ [] [0, 1] [(1, .p β2 (.slice (.int .i64)) classes1), (2, .adr 0 0 2 0), (5, .sl 1)] [(0, .box [.p β0 (.slice (.slice (.int .i64))) a1, .p β1 (.slice (.int .u32)) a2]), (1, .arr 3 (.int .i64) ([(0 : Int)] : List Int))] 2 0 [True, True] (by kernel_rfl) (by kernel_rfl) ⟨trivial, trivial, trivial⟩ ?_
    refine to_then ?_
    refine W_seq ?_
    refine W_reg tbok ⟨[], []⟩ [] [0, 1] [(1, .p β2 (.slice (.int .i64)) classes1), (2, .adr 0 0 2 0), (5, .sl 1), (6, .p false (.int .i64) (0 : Int))] [(0, .box [.p β0 (.slice (.slice (.int .i64))) a1, .p β1 (.slice (.int .u32)) a2]), (1, .arr 3 (.int .i64) ([(0 : Int)] : List Int))] 2 0 [True] (by kernel_rfl) (by kernel_rfl) ⟨trivial, trivial⟩ ?_
    refine to_then ?_
    refine W_seq ?_
    refine W_seq ?_
    refine W_reg tbok ⟨[], []⟩ [] [0, 1] [(2, .adr 0 0 2 0), (5, .sl 1), (6, .p false (.int .i64) (0 : Int)), (14, .p β2 (.slice (.int .i64)) classes1), (15, .p false (.int .i64) (classes1.length : Int)), (16, .p false (.int .i64) (0 : Int))] [(0, .box [.p β0 (.slice (.slice (.int .i64))) a1, .p β1 (.slice (.int .u32)) a2]), (1, .arr 3 (.int .i64) ([(0 : Int)] : List Int))] 2 0 [True, True, True] (by kernel_rfl) (by kernel_rfl) ⟨trivial, trivial, trivial, trivial⟩ ?_
    refine to_then ?_
    refine W_block ?_
    obtain ⟨out3, hp4, h⟩ := h_bind h
    refine W.mono (Q := (postX Try.f11.ntmps 0 (fun (out3 : List Int) => mkSt [(5, .sl 0)] [(0, .arr 3 (.int .i64) out3)] 1)) out3) (W_iter (f := fun ((out2, s2, v4) : (List Int) × Int × Int) => mkSt [(2, .adr 0 0 2 0), (5, .sl 1), (6, .p false (.int .i64) s2), (14, .p β2 (.slice (.int .i64)) classes1), (15, .p false (.int .i64) (classes1.length : Int)), (16, .p false (.int .i64) v4)] [(0, .box [.p β0 (.slice (.slice (.int .i64))) a1, .p β1 (.slice (.int .u32)) a2]), (1, .arr 3 (.int .i64) out2)] 2) (Q := (postX Try.f11.ntmps 0 (fun (out3 : List Int) => mkSt [(5, .sl 0)] [(0, .arr 3 (.int .i64) out3)] 1))) hp4 (goal_le (gs := []) (f := [0, 1]) (by kernel_rfl) (by kernel_rfl)) (fun y o ho => ?_)) (fun e σ' hq => ?_)
    · obtain ⟨out2, s2, v4⟩ := y
      replace h := ho
      clear ho hp4
      unfold auto_Run_L1 at h
      refine W_seq ?_
      refine W_reg tbok ⟨[], []⟩ [] [0, 1] [(2, .adr 0 0 2 0), (5, .sl 1), (6, .p false (.int .i64) s2), (14, .p β2 (.slice (.int .i64)) classes1), (15, .p false (.int .i64) (classes1.length : Int)), (16, .p false (.int .i64) v4), (17, .p false .bool (decide (v4 < (classes1.length : Int))))] [(0, .box [.p β0 (.slice (.slice (.int .i64))) a1, .p β1 (.slice (.int .u32)) a2]), (1, .arr 3 (.int .i64) out2)] 2 0 [True] (by kernel_rfl) (by kernel_rfl) ⟨trivial, trivial⟩ ?_
      refine to_then ?_
      refine W_seq ?_
      refine W_cond (b := (decide (v4 < (classes1.length : Int)))) (β := false) (by kernel_rfl) (fun hb12 => ?_) (fun hb12 => ?_)
      · replace h := h_if hb12 h
        refine W_skip_to ?_
        refine to_then ?_
        refine W_seq ?_
        refine W_block ?_
        refine W_seq ?_
        obtain ⟨c24, h⟩ := h_guard h
        refine W_reg tbok ⟨[], []⟩ [] [0, 1] [(2, .adr 0 0 2 0), (5, .sl 1), (6, .p false (.int .i64) s2), (8, .p false (.int .i64) (classes1.getD v4.toNat (0 : Int))), (14, .p β2 (.slice (.int .i64)) classes1), (15, .p false (.int .i64) (classes1.length : Int)), (16, .p false (.int .i64) v4)] [(0, .box [.p β0 (.slice (.slice (.int .i64))) a1, .p β1 (.slice (.int .u32)) a2]), (1, .arr 3 (.int .i64) out2)] 2 0 [0 ≤ v4 ∧ v4 < (classes1.length : Int), True, True] (by kernel_rfl) (by kernel_rfl) ⟨c24, trivial, trivial, trivial⟩ ?_
        refine to_then ?_
        refine W_seq ?_
        refine W_seq ?_
        obtain ⟨v5, hp3, h⟩ := h_bind h
        refine W.mono (Q := (postN Try.f11.ntmps (fun (v5 : Bool) => mkSt [(2, .adr 0 0 2 0), (5, .sl 1), (6, .p false (.int .i64) s2), (8, .p false (.int .i64) (classes1.getD v4.toNat (0 : Int))), (14, .p β2 (.slice (.int .i64)) classes1), (15, .p false (.int .i64) (classes1.length : Int)), (16, .p false (.int .i64) v4), (31, .p false .bool v5)] [(0, .box [.p β0 (.slice (.slice (.int .i64))) a1, .p β1 (.slice (.int .u32)) a2]), (1, .arr 3 (.int .i64) out2)] 2)) v5) ?_ (fun e σ' hq => ?_)
        · replace h := hp3
          clear hp3
          rcases Bool.eq_false_or_eq_true (decide ((classes1.getD v4.toNat (0 : Int)) < (0 : Int))) with hb15 | hb15
          · replace h := h_if hb15 h
            refine W_reg tbok ⟨[(2, true), (11, true)], []⟩ [] [0, 1] [(2, .adr 0 0 2 0), (5, .sl 1), (6, .p false (.int .i64) s2), (8, .p false (.int .i64) (classes1.getD v4.toNat (0 : Int))), (14, .p β2 (.slice (.int .i64)) classes1), (15, .p false (.int .i64) (classes1.length : Int)), (16, .p false (.int .i64) v4), (31, .p false .bool true)] [(0, .box [.p β0 (.slice (.slice (.int .i64))) a1, .p β1 (.slice (.int .u32)) a2]), (1, .arr 3 (.int .i64) out2)] 2 0 [True, True, True, (decide ((classes1.getD v4.toNat (0 : Int)) < (0 : Int))) = true, (decide ((classes1.getD v4.toNat (0 : Int)) < (0 : Int))) = true, (decide ((classes1.getD v4.toNat (0 : Int)) < (0 : Int))) = true, (decide ((classes1.getD v4.toNat (0 : Int)) < (0 : Int))) = true, (decide ((classes1.getD v4.toNat (0 : Int)) < (0 : Int))) = true, (decide ((classes1.getD v4.toNat (0 : Int)) < (0 : Int))) = true, (decide ((classes1.getD v4.toNat (0 : Int)) < (0 : Int))) = true, (decide ((classes1.getD v4.toNat (0 : Int)) < (0 : Int))) = true, (decide ((classes1.getD v4.toNat (0 : Int)) < (0 : Int))) = true] (by kernel_rfl) (by kernel_rfl) ⟨trivial, trivial, trivial, hb15, hb15, hb15, hb15, hb15, hb15, hb15, hb15, hb15, trivial⟩ ?_
            obtain rfl := Option.some.inj h
            exact postN_to (goal_le (gs := []) (f := [0, 1]) (by kernel_rfl) (by kernel_rfl))
          · replace h := h_else hb15 h
            obtain ⟨c27, h⟩ := h_guard h
            refine W_reg tbok ⟨[(2, false), (11, false)], []⟩ [] [0, 1] [(2, .adr 0 0 2 0), (5, .sl 1), (6, .p false (.int .i64) s2), (8, .p false (.int .i64) (classes1.getD v4.toNat (0 : Int))), (14, .p β2 (.slice (.int .i64)) classes1), (15, .p false (.int .i64) (classes1.length : Int)), (16, .p false (.int .i64) v4), (31, .p false .bool (decide ((classes1.getD v4.toNat (0 : Int)) ≥ ((a1.getD s2.toNat ([] : List Int)).length : Int))))] [(0, .box [.p β0 (.slice (.slice (.int .i64))) a1, .p β1 (.slice (.int .u32)) a2]), (1, .arr 3 (.int .i64) out2)] 2 0 [True, True, True, (decide ((classes1.getD v4.toNat (0 : Int)) < (0 : Int))) = false ∧ True, (decide ((classes1.getD v4.toNat (0 : Int)) < (0 : Int))) = false ∧ True, (decide ((classes1.getD v4.toNat (0 : Int)) < (0 : Int))) = false ∧ True, (decide ((classes1.getD v4.toNat (0 : Int)) < (0 : Int))) = false ∧ True, (decide ((classes1.getD v4.toNat (0 : Int)) < (0 : Int))) = false ∧ 0 ≤ s2 ∧ s2 < (a1.length : Int), (decide ((classes1.getD v4.toNat (0 : Int)) < (0 : Int))) = false ∧ True, (decide ((classes1.getD v4.toNat (0 : Int)) < (0 : Int))) = false ∧ True, (decide ((classes1.getD v4.toNat (0 : Int)) < (0 : Int))) = false ∧ True, (decide ((classes1.getD v4.toNat (0 : Int)) < (0 : Int))) = false] (by kernel_rfl) (by kernel_rfl) ⟨trivial, trivial, trivial, ⟨hb15, trivial⟩, ⟨hb15, trivial⟩, ⟨hb15, trivial⟩, ⟨hb15, trivial⟩, ⟨hb15, c27⟩, ⟨hb15, trivial⟩, ⟨hb15, trivial⟩, ⟨hb15, trivial⟩, hb15, trivial⟩ ?_
            obtain rfl := Option.some.inj h
            exact postN_to (goal_le (gs := []) (f := [0, 1]) (by kernel_rfl) (by kernel_rfl))
        · clear hp3
          obtain ⟨rfl, hle⟩ := hq
          refine use_to ?_ hle
          refine to_then ?_
          refine W_cond (b := v5) (β := false) (by kernel_rfl) (fun hb16 => ?_) (fun hb16 => ?_)
          · replace h := h_if hb16 h
            refine W_exit_to ?_
            refine thenE ?_
            refine blockE_ne rfl ?_
            refine thenE ?_
            obtain rfl := Option.some.inj h
            refine roundE ?_
            exact postX_to (goal_le (gs := []) (f := [1]) (by kernel_rfl) (by kernel_rfl))
          · replace h := h_else hb16 h
            refine W_skip_to ?_
            refine to_then ?_
            refine W_seq ?_
            obtain ⟨c30, h⟩ := h_guard h
            obtain ⟨c31, h⟩ := h_guard h
            refine W_reg tbok ⟨[], []⟩ [] [0, 1] [(2, .adr 0 0 2 0), (5, .sl 1), (6, .p false (.int .i64) ((a1.getD s2.toNat ([] : List Int)).getD ((classes1.getD v4.toNat (0 : Int)).toNat) (0 : Int))), (14, .p β2 (.slice (.int .i64)) classes1), (15, .p false (.int .i64) (classes1.length : Int)), (16, .p false (.int .i64) v4)] [(0, .box [.p β0 (.slice (.slice (.int .i64))) a1, .p β1 (.slice (.int .u32)) a2]), (1, .arr 3 (.int .i64) out2)] 2 0 [True, True, True, 0 ≤ s2 ∧ s2 < (a1.length : Int), True, True, 0 ≤ (classes1.getD v4.toNat (0 : Int)) ∧ (classes1.getD v4.toNat (0 : Int)) < ((a1.getD s2.toNat ([] : List Int)).length : Int), True, True] (by kernel_rfl) (by kernel_rfl) ⟨trivial, trivial, trivial, c30, trivial, trivial, c31, trivial, trivial, trivial⟩ ?_
            refine to_then ?_
            obtain ⟨c33, h⟩ := h_guard h
            refine W_reg tbok ⟨[], []⟩ [] [0, 26] [(2, .adr 0 0 2 0), (5, .sl 1), (6, .p false (.int .i64) ((a1.getD s2.toNat ([] : List Int)).getD ((classes1.getD v4.toNat (0 : Int)).toNat) (0 : Int))), (14, .p β2 (.slice (.int .i64)) classes1), (15, .p false (.int .i64) (classes1.length : Int)), (16, .p false (.int .i64) v4)] [(0, .box [.p β0 (.slice (.slice (.int .i64))) a1, .p β1 (.slice (.int .u32)) a2]), (1, .arr 3 (.int .i64) (out2 ++ ([((a1.getD s2.toNat ([] : List Int)).getD ((classes1.getD v4.toNat (0 : Int)).toNat) (0 : Int))] : List Int)))] 2 0 [True, True, True, (out2.length + ([((a1.getD s2.toNat ([] : List Int)).getD ((classes1.getD v4.toNat (0 : Int)).toNat) (0 : Int))] : List Int).length) * 8 ≤ 140737488355328 ∧ out2.length + ([((a1.getD s2.toNat ([] : List Int)).getD ((classes1.getD v4.toNat (0 : Int)).toNat) (0 : Int))] : List Int).length ≤ 9223372036854775807, True] (by kernel_rfl) (by kernel_rfl) ⟨trivial, trivial, trivial, c33, trivial, trivial⟩ ?_
            refine to_block ?_
            refine to_then ?_
            refine W_reg tbok ⟨[], []⟩ [] [0, 1] [(2, .adr 0 0 2 0), (5, .sl 1), (6, .p false (.int .i64) ((a1.getD s2.toNat ([] : List Int)).getD ((classes1.getD v4.toNat (0 : Int)).toNat) (0 : Int))), (14, .p β2 (.slice (.int .i64)) classes1), (15, .p false (.int .i64) (classes1.length : Int)), (16, .p false (.int .i64) (IntKind.i64.wrap (v4 + (1 : Int))))] [(0, .box [.p β0 (.slice (.slice (.int .i64))) a1, .p β1 (.slice (.int .u32)) a2]), (1, .arr 3 (.int .i64) (out2 ++ ([((a1.getD s2.toNat ([] : List Int)).getD ((classes1.getD v4.toNat (0 : Int)).toNat) (0 : Int))] : List Int)))] 2 0 [True, True] (by kernel_rfl) (by kernel_rfl) ⟨trivial, trivial, trivial⟩ ?_
            obtain rfl := Option.some.inj h
            exact roundB (goal_le (gs := []) (f := [0, 1]) (by kernel_rfl) (by kernel_rfl))
      · replace h := h_else hb12 h
        refine W_exit_to ?_
        refine thenE ?_
        obtain rfl := Option.some.inj h
        refine roundE ?_
        exact postX_to (goal_le (gs := []) (f := [1]) (by kernel_rfl) (by kernel_rfl))
    · clear hp4
      obtain ⟨rfl, hle⟩ := hq
      refine use_to ?_ hle
      refine blockE_eq ?_
      refine to_then ?_
      refine W_seq ?_
      refine W_reg tbok ⟨[], []⟩ [] [0] [(4, .sl 0)] [(0, .arr 3 (.int .i64) out3)] 1 0 [True, True] (by kernel_rfl) (by kernel_rfl) ⟨trivial, trivial, trivial⟩ ?_
      refine to_then ?_
      refine W_ret ?_
      obtain rfl := Option.some.inj h
      exact Ret_intro [(.slice (.int .i64))] (by kernel_rfl)

/-- a loop of 'stanza/stanzaref01.SameInts': one round -/
def stanzaref01_SameInts_L1 (a1 : List Int) (b1 : List Int) : (Int) → Option ((Int) ⊕ ((Unit) ⊕ (Bool))) := fun (i2 : Int) =>
  (if (decide (i2 < (a1.length : Int))) = true then (if 0 ≤ i2 ∧ i2 < (a1.length : Int) then (if 0 ≤ i2 ∧ i2 < (b1.length : Int) then (if ((a1.getD i2.toNat (0 : Int)) != (b1.getD i2.toNat (0 : Int))) = true then some (Sum.inr (Sum.inr false))
  else some (Sum.inl (IntKind.i64.wrap (i2 + (1 : Int))))) else none) else none)
  else some (Sum.inr (Sum.inl ())))

/-- 'stanza/stanzaref01.SameInts' -/
def stanzaref01_SameInts (a1 : List Int) (b1 : List Int) : Option (Bool) :=
  (if ((a1.length : Int) != (b1.length : Int)) = true then some false
  else ((iter (stanzaref01_SameInts_L1 a1 b1) (0 : Int)).bind fun (r2 : ((Unit) ⊕ (Bool))) => match r2 with
  | .inl _ => some true
  | .inr (r1) => some r1))

set_option maxRecDepth 100000 in
set_option maxHeartbeats 4000000 in
theorem stanzaref01_SameInts_ok (β0 β1 : Bool) (a1 : List Int) (b1 : List Int) (res : Bool) (h : stanzaref01_SameInts a1 b1 = some res) :
    Pure Try.prog 12 [.p β0 (.slice (.int .i64)) a1, .p β1 (.slice (.int .i64)) b1] (wrapR (encs false [⟨.bool, res⟩])) := by
  refine Pure.of_body tbok Try.func12 (by kernel_rfl) rfl (Nat.le_of_ble_eq_true rfl) (fun Bw w0 => ?_) rfl
  unfold stanzaref01_SameInts at h
  refine W_seq ?_
  refine W_reg tbok ⟨[], []⟩ [] [] [(0, .p β0 (.slice (.int .i64)) a1), (1, .p β1 (.slice (.int .i64)) b1)] [] 0 0 [True] (by kernel_rfl) (by kernel_rfl) ⟨trivial, trivial⟩ ?_
  refine to_then ?_
  refine W_seq ?_
  refine W_seq ?_
  refine W_reg tbok ⟨[], []⟩ [] [] [(0, .p β0 (.slice (.int .i64)) a1), (1, .p β1 (.slice (.int .i64)) b1), (10, .p false .bool ((a1.length : Int) != (b1.length : Int)))] [] 0 0 [True, True, True, True, True] (by kernel_rfl) (by kernel_rfl) ⟨trivial, trivial, trivial, trivial, trivial, trivial⟩ ?_
  refine to_then ?_
  refine W_cond (b := ((a1.length : Int) != (b1.length : Int))) (β := false) (by kernel_rfl) (fun hb1 => ?_) (fun hb1 => ?_)
  · replace h := h_if hb1 h
    refine W_seq ?_
    refine W_reg tbok ⟨[], []⟩ [] [] [(4, .p false .bool false)] [] 0 0 [True] (by kernel_rfl) (by kernel_rfl) ⟨trivial, trivial⟩ ?_
    refine to_then ?_
    refine W_ret ?_
    refine thenQ_ret ?_
    obtain rfl := Option.some.inj h
    exact Ret_intro [.bool] (by kernel_rfl)
  · replace h := h_else hb1 h
    refine W_skip_to ?_
    refine to_then ?_
    refine W_seq ?_
    refine W_seq ?_
    refine W_reg tbok ⟨[], []⟩ [] [] [(0, .p β0 (.slice (.int .i64)) a1), (1, .p β1 (.slice (.int .i64)) b1), (5, .p false (.int .i64) (0 : Int))] [] 0 0 [True] (by kernel_rfl) (by kernel_rfl) ⟨trivial, trivial⟩ ?_
    refine to_then ?_
    refine W_block ?_
    obtain ⟨r2, hp1, h⟩ := h_bind h
    refine W.mono (Q := (postS (postX Try.f12.ntmps 0 (fun (_ : Unit) => mkSt [] [] 0)) (postR tb Try.f12.results.toList (fun (r1 : Bool) => [⟨.bool, r1⟩]))) r2) (W_iter (f := fun (i2 : Int) => mkSt [(0, .p β0 (.slice (.int .i64)) a1), (1, .p β1 (.slice (.int .i64)) b1), (5, .p false (.int .i64) i2)] [] 0) (Q := (postS (postX Try.f12.ntmps 0 (fun (_ : Unit) => mkSt [] [] 0)) (postR tb Try.f12.results.toList (fun (r1 : Bool) => [⟨.bool, r1⟩])))) hp1 (goal_le (gs := []) (f := []) (by kernel_rfl) (by kernel_rfl)) (fun i2 o ho => ?_)) (fun e σ' hq => ?_)
    · replace h := ho
      clear ho hp1
      unfold stanzaref01_SameInts_L1 at h
      refine W_seq ?_
      refine W_seq ?_
      refine W_reg tbok ⟨[], []⟩ [] [] [(0, .p β0 (.slice (.int .i64)) a1), (1, .p β1 (.slice (.int .i64)) b1), (5, .p false (.int .i64) i2), (14, .p false .bool (decide (i2 < (a1.length : Int))))] [] 0 0 [True, True, True, True] (by kernel_rfl) (by kernel_rfl) ⟨trivial, trivial, trivial, trivial, trivial⟩ ?_
      refine to_then ?_
      refine W_cond (b := (decide (i2 < (a1.length : Int)))) (β := false) (by kernel_rfl) (fun hb6 => ?_) (fun hb6 => ?_)
      · replace h := h_if hb6 h
        refine W_skip_to ?_
        refine to_then ?_
        refine W_seq ?_
        refine W_block ?_
        refine W_seq ?_
        obtain ⟨c11, h⟩ := h_guard h
        obtain ⟨c12, h⟩ := h_guard h
        refine W_regD tbok mixed ⟨[], []⟩ [] [] [(0, .p β0 (.slice (.int .i64)) a1), (1, .p β1 (.slice (.int .i64)) b1), (5, .p false (.int .i64) i2), (25, .p false .bool ((a1.getD i2.toNat (0 : Int)) != (b1.getD i2.toNat (0 : Int))))] [] 0 0 [True, True, 0 ≤ i2 ∧ i2 < (a1.length : Int), True, True, True, 0 ≤ i2 ∧ i2 < (b1.length : Int), True, True] (by kernel_rfl) (by kernel_rfl) ⟨trivial, trivial, c11, trivial, trivial, trivial, c12, trivial, trivial, trivial⟩ ?_
        refine to_then ?_
        refine W_cond (b := ((a1.getD i2.toNat (0 : Int)) != (b1.getD i2.toNat (0 : Int)))) (β := false) (by kernel_rfl) (fun hb7 => ?_) (fun hb7 => ?_)
        · replace h := h_if hb7 h
          refine W_seq ?_
          refine W_reg tbok ⟨[], []⟩ [] [] [(4, .p false .bool false)] [] 0 0 [True] (by kernel_rfl) (by kernel_rfl) ⟨trivial, trivial⟩ ?_
          refine to_then ?_
          refine W_ret ?_
          obtain rfl := Option.some.inj h
          refine blockQ_ret ?_
          refine thenQ_ret ?_
          refine round_ret ?_
          refine postS_rr ?_
          exact postR_mk (Ret_intro [.bool] (by kernel_rfl))
        · replace h := h_else hb7 h
          refine W_skip_to ?_
          refine to_block ?_
          refine to_then ?_
          refine W_reg tbok ⟨[], []⟩ [] [] [(0, .p β0 (.slice (.int .i64)) a1), (1, .p β1 (.slice (.int .i64)) b1), (5, .p false (.int .i64) (IntKind.i64.wrap (i2 + (1 : Int))))] [] 0 0 [True, True, True] (by kernel_rfl) (by kernel_rfl) ⟨trivial, trivial, trivial, trivial⟩ ?_
          obtain rfl := Option.some.inj h
          exact roundB (goal_le (gs := []) (f := []) (by kernel_rfl) (by kernel_rfl))
      · replace h := h_else hb6 h
        refine W_exit_to ?_
        refine thenE ?_
        obtain rfl := Option.some.inj h
        refine roundE ?_
        refine postS_l ?_
        exact postX_to (goal_le (gs := []) (f := []) (by kernel_rfl) (by kernel_rfl))
    · clear hp1
      rcases r2 with _ | r1
      · obtain ⟨rfl, hle⟩ := hq
        refine use_to ?_ hle
        refine blockE_eq ?_
        refine to_then ?_
        refine W_seq ?_
        refine W_reg tbok ⟨[], []⟩ [] [] [(4, .p false .bool true)] [] 0 0 [True] (by kernel_rfl) (by kernel_rfl) ⟨trivial, trivial⟩ ?_
        refine to_then ?_
        refine W_ret ?_
        obtain rfl := Option.some.inj h
        exact Ret_intro [.bool] (by kernel_rfl)
      · obtain ⟨rfl, hr⟩ := hq
        refine blockQ_ret ?_
        refine thenQ_ret ?_
        obtain rfl := Option.some.inj h
        exact hr

/-- a loop of 'stanza/stanzalaw04.AutoRuns': one round -/
def stanzalaw04_AutoRuns_L1 (d1 : List (List Int)) (i1 : List Int) (x1 : Bool) : ((List Int) × Int) → Option (((List Int) × Int) ⊕ (List Int)) := fun ((v9, v10) : (List Int) × Int) =>
  (if (decide (v10 < ((([] : List Int) ++ i1).length : Int))) = true then (((if x1 = true then (if 0 ≤ (0 : Int) ∧ (0 : Int) < (d1.length : Int) then some ((decide (((d1.getD ((0 : Int).toNat) ([] : List Int)).length : Int) > (0 : Int)))) else none)
  else some (false))).bind fun (v12 : Bool) => (((if v12 = true then (if 0 ≤ v10 ∧ v10 < (v9.length : Int) then (if v10.toNat < v9.length then (if 0 ≤ (0 : Int) ∧ (0 : Int) < (d1.length : Int) then (if ¬ (IntKind.u64.wrap ((d1.getD ((0 : Int).toNat) ([] : List Int)).length : Int)) = 0 then (if 0 ≤ v10 ∧ v10 < (v9.length : Int) then (if v10.toNat < v9.length then some ((v9.set v10.toNat (IntKind.i64.wrap (Int.tmod (IntKind.u64.wrap (v9.getD v10.toNat (0 : Int))) (IntKind.u64.wrap ((d1.getD ((0 : Int).toNat) ([] : List Int)).length : Int)))))) else none) else none) else none) else none) else none) else none)
  else some (v9))).bind fun (v13 : List Int) => some (Sum.inl (v13, (IntKind.i64.wrap (v10 + (1 : Int)))))))
  else some (Sum.inr v9))

/-- a loop of 'stanza/stanzalaw04.AutoRuns': one round -/
def stanzalaw04_AutoRuns_L2 (d1 : List (List Int)) (v11 : List Int) : ((List Int) × Int × Int) → Option (((List Int) × Int × Int) ⊕ (List Int)) := fun ((v19, v20, v21) : (List Int) × Int × Int) =>
  (if (decide (v21 < (v11.length : Int))) = true then (if 0 ≤ v21 ∧ v21 < (v11.length : Int) then (if v21.toNat < v11.length then (((if (decide ((v11.getD v21.toNat (0 : Int)) < (0 : Int))) = true then some (true)
  else (if 0 ≤ (0 : Int) ∧ (0 : Int) < (d1.length : Int) then some ((decide ((v11.getD v21.toNat (0 : Int)) ≥ ((d1.getD ((0 : Int).toNat) ([] : List Int)).length : Int)))) else none))).bind fun (v23 : Bool) => (if v23 = true then some (Sum.inr v19)
  else (if 0 ≤ v20 ∧ v20 < (d1.length : Int) then (if 0 ≤ (v11.getD v21.toNat (0 : Int)) ∧ (v11.getD v21.toNat (0 : Int)) < ((d1.getD v20.toNat ([] : List Int)).length : Int) then (if (v19.length + ([((d1.getD v20.toNat ([] : List Int)).getD ((v11.getD v21.toNat (0 : Int)).toNat) (0 : Int))] : List Int).length) * 8 ≤ 140737488355328 ∧ v19.length + ([((d1.getD v20.toNat ([] : List Int)).getD ((v11.getD v21.toNat (0 : Int)).toNat) (0 : Int))] : List Int).length ≤ 9223372036854775807 then some (Sum.inl ((v19 ++ ([((d1.getD v20.toNat ([] : List Int)).getD ((v11.getD v21.toNat (0 : Int)).toNat) (0 : Int))] : List Int)), ((d1.getD v20.toNat ([] : List Int)).getD ((v11.getD v21.toNat (0 : Int)).toNat) (0 : Int)), (IntKind.i64.wrap (v21 + (1 : Int))))) else none) else none) else none))) else none) else none)
  else some (Sum.inr v19))

/-- 'stanza/stanzalaw04.AutoRuns' -/
def stanzalaw04_AutoRuns (d1 : List (List Int)) (d2 : List Int) (i1 : List Int) (x1 : Bool) : Option (Bool) :=
  ((stanzalaw04_Awake).bind fun (r2 : Bool) =>
  (if (!r2) = true then some false
  else (((if (decide ((d1.length : Int) > (100 : Int))) = true then some (true)
  else some ((decide ((i1.length : Int) > (200 : Int)))))).bind fun (v1 : Bool) => (if v1 = true then some true
  else ((stanzaref04_Check d1 d2).bind fun (r4 : Bool) =>
  (if (!r4) = true then (((if (decide ((d1.length : Int) > (0 : Int))) = true then some (true)
  else ((auto_Run d1 d2 i1).bind fun (r7 : List Int) =>
  some (((r7.length : Int) == (0 : Int)))))).bind fun (v2 : Bool) => some v2)
  else (if (([] : List Int).length + i1.length) * 8 ≤ 140737488355328 ∧ ([] : List Int).length + i1.length ≤ 9223372036854775807 then ((iter (stanzalaw04_AutoRuns_L1 d1 i1 x1) ((([] : List Int) ++ i1), (0 : Int))).bind fun (v11 : List Int) => ((iter (stanzalaw04_AutoRuns_L2 d1 v11) (([(0 : Int)] : List Int), (0 : Int), (0 : Int))).bind fun (v22 : List Int) => ((auto_Run d1 d2 v11).bind fun (r10 : List Int) =>
  ((stanzaref01_SameInts r10 v22).bind fun (r11 : Bool) =>
  some r11)))) else none)))))))

set_option maxRecDepth 100000 in
set_option maxHeartbeats 4000000 in
theorem stanzalaw04_AutoRuns_ok (β0 β1 β2 : Bool) (d1 : List (List Int)) (d2 : List Int) (i1 : List Int) (x1 : Bool) (res : Bool) (h : stanzalaw04_AutoRuns d1 d2 i1 x1 = some res) :
    Pure Try.prog 4 [.agg [.p β0 (.slice (.slice (.int .i64))) d1, .p β1 (.slice (.int .u32)) d2], .p β2 (.slice (.int .i64)) i1, .p false .bool x1] (wrapR (encs false [⟨.bool, res⟩])) := by
  refine Pure.of_body tbok Try.func4 (by kernel_rfl) rfl (Nat.le_of_ble_eq_true rfl) (fun Bw w0 => ?_) rfl
  unfold stanzalaw04_AutoRuns at h
  refine W_seq ?_
  refine W_reg tbok ⟨[], []⟩ [] [0] [(1, .p β2 (.slice (.int .i64)) i1), (2, .p false .bool x1), (3, .adr 0 0 2 0)] [(0, .box [.p β0 (.slice (.slice (.int .i64))) d1, .p β1 (.slice (.int .u32)) d2])] 1 0 [True, True] (by kernel_rfl) (by kernel_rfl) ⟨trivial, trivial, trivial⟩ ?_
  refine to_then ?_
  refine W_seq ?_
  refine W_seq ?_
  obtain ⟨r2, q2, h⟩ := h_bind h
  refine W_reg tbok ⟨[], [(0, ⟨.p false .bool r2, [], false, [], [], []⟩)]⟩ [] [0] [(1, .p β2 (.slice (.int .i64)) i1), (2, .p false .bool x1), (3, .adr 0 0 2 0), (14, .p false .bool (!r2))] [(0, .box [.p β0 (.slice (.slice (.int .i64))) d1, .p β1 (.slice (.int .u32)) d2])] 1 0 [Pure Try.prog 8 [] (.p false .bool r2), True] (by kernel_rfl) (by kernel_rfl) ⟨(stanzalaw04_Awake_ok _ q2), trivial, trivial⟩ ?_
  refine to_then ?_
  refine W_cond (b := (!r2)) (β := false) (by kernel_rfl) (fun hb1 => ?_) (fun hb1 => ?_)
  · replace h := h_if hb1 h
    refine W_seq ?_
    refine W_reg tbok ⟨[], []⟩ [] [] [(6, .p false .bool false)] [] 0 0 [True] (by kernel_rfl) (by kernel_rfl) ⟨trivial, trivial⟩ ?_
    refine to_then ?_
    refine W_ret ?_
    refine thenQ_ret ?_
    obtain rfl := Option.some.inj h
    exact Ret_intro [.bool] (by kernel_rfl)
  · replace h := h_else hb1 h
    refine W_skip_to ?_
    refine to_then ?_
    refine W_seq ?_
    refine W_seq ?_
    obtain ⟨v1, hp1, h⟩ := h_bind h
    refine W.mono (Q := (postN Try.f4.ntmps (fun (v1 : Bool) => mkSt [(1, .p β2 (.slice (.int .i64)) i1), (2, .p false .bool x1), (3, .adr 0 0 2 0), (23, .p false .bool v1)] [(0, .box [.p β0 (.slice (.slice (.int .i64))) d1, .p β1 (.slice (.int .u32)) d2])] 1)) v1) ?_ (fun e σ' hq => ?_)
    · replace h := hp1
      clear hp1
      rcases Bool.eq_false_or_eq_true (decide ((d1.length : Int) > (100 : Int))) with hb4 | hb4
      · replace h := h_if hb4 h
        refine W_reg tbok ⟨[(4, true), (8, true)], []⟩ [] [0] [(1, .p β2 (.slice (.int .i64)) i1), (2, .p false .bool x1), (3, .adr 0 0 2 0), (23, .p false .bool true)] [(0, .box [.p β0 (.slice (.slice (.int .i64))) d1, .p β1 (.slice (.int .u32)) d2])] 1 0 [True, True, True, True, True, (decide ((d1.length : Int) > (100 : Int))) = true, (decide ((d1.length : Int) > (100 : Int))) = true, (decide ((d1.length : Int) > (100 : Int))) = true, (decide ((d1.length : Int) > (100 : Int))) = true] (by kernel_rfl) (by kernel_rfl) ⟨trivial, trivial, trivial, trivial, trivial, hb4, hb4, hb4, hb4, trivial⟩ ?_
        obtain rfl := Option.some.inj h
        exact postN_to (goal_le (gs := []) (f := [0]) (by kernel_rfl) (by kernel_rfl))
      · replace h := h_else hb4 h
        refine W_reg tbok ⟨[(4, false), (8, false)], []⟩ [] [0] [(1, .p β2 (.slice (.int .i64)) i1), (2, .p false .bool x1), (3, .adr 0 0 2 0), (23, .p false .bool (decide ((i1.length : Int) > (200 : Int))))] [(0, .box [.p β0 (.slice (.slice (.int .i64))) d1, .p β1 (.slice (.int .u32)) d2])] 1 0 [True, True, True, True, True, (decide ((d1.length : Int) > (100 : Int))) = false ∧ True, (decide ((d1.length : Int) > (100 : Int))) = false ∧ True, (decide ((d1.length : Int) > (100 : Int))) = false ∧ True, (decide ((d1.length : Int) > (100 : Int))) = false] (by kernel_rfl) (by kernel_rfl) ⟨trivial, trivial, trivial, trivial, trivial, ⟨hb4, trivial⟩, ⟨hb4, trivial⟩, ⟨hb4, trivial⟩, hb4, trivial⟩ ?_
        obtain rfl := Option.some.inj h
        exact postN_to (goal_le (gs := []) (f := [0]) (by kernel_rfl) (by kernel_rfl))
    · clear hp1
      obtain ⟨rfl, hle⟩ := hq
      refine use_to ?_ hle
      refine to_then ?_
      refine W_cond (b := v1) (β := false) (by kernel_rfl) (fun hb5 => ?_) (fun hb5 => ?_)
      · replace h := h_if hb5 h
        refine W_seq ?_
        refine W_reg tbok ⟨[], []⟩ [] [] [(6, .p false .bool true)] [] 0 0 [True] (by kernel_rfl) (by kernel_rfl) ⟨trivial, trivial⟩ ?_
        refine to_then ?_
        refine W_ret ?_
        refine thenQ_ret ?_
        obtain rfl := Option.some.inj h
        exact Ret_intro [.bool] (by kernel_rfl)
      · replace h := h_else hb5 h
        refine W_skip_to ?_
        refine to_then ?_
        refine W_seq ?_
        refine W_seq ?_
        obtain ⟨r4, q4, h⟩ := h_bind h
        refine W_reg tbok ⟨[], [(1, ⟨.p false .bool r4, [false], false, [true], [], []⟩)]⟩ [] [0] [(1, .p β2 (.slice (.int .i64)) i1), (2, .p false .bool x1), (3, .adr 0 0 2 0), (26, .p false .bool (!r4))] [(0, .box [.p β0 (.slice (.slice (.int .i64))) d1, .p β1 (.slice (.int .u32)) d2])] 1 0 [True, Pure Try.prog 10 [.agg [.p β0 (.slice (.slice (.int .i64))) d1, .p β1 (.slice (.int .u32)) d2]] (.p false .bool r4), True] (by kernel_rfl) (by kernel_rfl) ⟨trivial, (stanzaref04_Check_ok β0 β1 d1 d2 _ q4), trivial, trivial⟩ ?_
        refine to_then ?_
        refine W_cond (b := (!r4)) (β := false) (by kernel_rfl) (fun hb6 => ?_) (fun hb6 => ?_)
        · replace h := h_if hb6 h
          refine W_seq ?_
          obtain ⟨v2, hp2, h⟩ := h_bind h
          refine W.mono (Q := (postN Try.f4.ntmps (fun (v2 : Bool) => mkSt [(6, .p false .bool v2)] [] 0)) v2) ?_ (fun e σ' hq => ?_)
          · replace h := hp2
            clear hp2
            rcases Bool.eq_false_or_eq_true (decide ((d1.length : Int) > (0 : Int))) with hb9 | hb9
            · replace h := h_if hb9 h
              refine W_reg tbok ⟨[(4, true), (10, true)], []⟩ [] [] [(6, .p false .bool true)] [] 0 0 [True, True, True, True, True, (decide ((d1.length : Int) > (0 : Int))) = true, (decide ((d1.length : Int) > (0 : Int))) = true, (decide ((d1.length : Int) > (0 : Int))) = true, (decide ((d1.length : Int) > (0 : Int))) = true, (decide ((d1.length : Int) > (0 : Int))) = true, (decide ((d1.length : Int) > (0 : Int))) = true, True] (by kernel_rfl) (by kernel_rfl) ⟨trivial, trivial, trivial, trivial, trivial, hb9, hb9, hb9, hb9, hb9, hb9, trivial, trivial⟩ ?_
              obtain rfl := Option.some.inj h
              exact postN_to (goal_le (gs := []) (f := []) (by kernel_rfl) (by kernel_rfl))
            · replace h := h_else hb9 h
              obtain ⟨r7, q7, h⟩ := h_bind h
              refine W_reg tbok ⟨[(4, false), (10, false)], [(7, ⟨.p false (.slice (.int .i64)) r7, [false, false], false, [true, true], [], []⟩)]⟩ [] [] [(6, .p false .bool ((r7.length : Int) == (0 : Int)))] [] 0 0 [True, True, True, True, True, (decide ((d1.length : Int) > (0 : Int))) = false ∧ True, (decide ((d1.length : Int) > (0 : Int))) = false ∧ True, (decide ((d1.length : Int) > (0 : Int))) = false ∧ Pure Try.prog 11 [.agg [.p β0 (.slice (.slice (.int .i64))) d1, .p β1 (.slice (.int .u32)) d2], .p β2 (.slice (.int .i64)) i1] (.p false (.slice (.int .i64)) r7), (decide ((d1.length : Int) > (0 : Int))) = false ∧ True, (decide ((d1.length : Int) > (0 : Int))) = false ∧ True, (decide ((d1.length : Int) > (0 : Int))) = false, True] (by kernel_rfl) (by kernel_rfl) ⟨trivial, trivial, trivial, trivial, trivial, ⟨hb9, trivial⟩, ⟨hb9, trivial⟩, ⟨hb9, (auto_Run_ok β0 β1 β2 d1 d2 i1 _ q7)⟩, ⟨hb9, trivial⟩, ⟨hb9, trivial⟩, hb9, trivial, trivial⟩ ?_
              obtain rfl := Option.some.inj h
              exact postN_to (goal_le (gs := []) (f := []) (by kernel_rfl) (by kernel_rfl))
          · clear hp2
            obtain ⟨rfl, hle⟩ := hq
            refine use_to ?_ hle
            refine to_then ?_
            refine W_ret ?_
            refine thenQ_ret ?_
            obtain rfl := Option.some.inj h
            exact Ret_intro [.bool] (by kernel_rfl)
        · replace h := h_else hb6 h
          refine W_skip_to ?_
          refine to_then ?_
          refine W_seq ?_
          obtain ⟨c2, h⟩ := h_guard h
          refine W_reg tbok ⟨[], []⟩ [] [0, 17] [(2, .p false .bool x1), (3, .adr 0 0 2 0), (7, .sl 1)] [(0, .box [.p β0 (.slice (.slice (.int .i64))) d1, .p β1 (.slice (.int .u32)) d2]), (1, .arr 3 (.int .i64) (([] : List Int) ++ i1))] 2 0 [True, True, (([] : List Int).length + i1.length) * 8 ≤ 140737488355328 ∧ ([] : List Int).length + i1.length ≤ 9223372036854775807, True] (by kernel_rfl) (by kernel_rfl) ⟨trivial, trivial, c2, trivial, trivial⟩ ?_
          refine to_then ?_
          refine W_seq ?_
          refine W_seq ?_
          refine W_reg tbok ⟨[], []⟩ [] [0, 1] [(2, .p false .bool x1), (3, .adr 0 0 2 0), (7, .sl 1), (42, .p false (.int .i64) ((([] : List Int) ++ i1).length : Int)), (43, .p false (.int .i64) (0 : Int))] [(0, .box [.p β0 (.slice (.slice (.int .i64))) d1, .p β1 (.slice (.int .u32)) d2]), (1, .arr 3 (.int .i64) (([] : List Int) ++ i1))] 2 0 [True, True, True] (by kernel_rfl) (by kernel_rfl) ⟨trivial, trivial, trivial, trivial⟩ ?_
          refine to_then ?_
          refine W_block ?_
          obtain ⟨v11, hp9, h⟩ := h_bind h
          refine W.mono (Q := (postX Try.f4.ntmps 0 (fun (v11 : List Int) => mkSt [(3, .adr 0 0 2 0), (7, .sl 1)] [(0, .box [.p β0 (.slice (.slice (.int .i64))) d1, .p β1 (.slice (.int .u32)) d2]), (1, .arr 3 (.int .i64) v11)] 2)) v11) (W_iter (f := fun ((v9, v10) : (List Int) × Int) => mkSt [(2, .p false .bool x1), (3, .adr 0 0 2 0), (7, .sl 1), (42, .p false (.int .i64) ((([] : List Int) ++ i1).length : Int)), (43, .p false (.int .i64) v10)] [(0, .box [.p β0 (.slice (.slice (.int .i64))) d1, .p β1 (.slice (.int .u32)) d2]), (1, .arr 3 (.int .i64) v9)] 2) (Q := (postX Try.f4.ntmps 0 (fun (v11 : List Int) => mkSt [(3, .adr 0 0 2 0), (7, .sl 1)] [(0, .box [.p β0 (.slice (.slice (.int .i64))) d1, .p β1 (.slice (.int .u32)) d2]), (1, .arr 3 (.int .i64) v11)] 2))) hp9 (goal_le (gs := []) (f := [0, 1]) (by kernel_rfl) (by kernel_rfl)) (fun y o ho => ?_)) (fun e σ' hq => ?_)
          · obtain ⟨v9, v10⟩ := y
            replace h := ho
            clear ho hp9
            unfold stanzalaw04_AutoRuns_L1 at h
            refine W_seq ?_
            refine W_reg tbok ⟨[], []⟩ [] [0, 1] [(2, .p false .bool x1), (3, .adr 0 0 2 0), (7, .sl 1), (42, .p false (.int .i64) ((([] : List Int) ++ i1).length : Int)), (43, .p false (.int .i64) v10), (44, .p false .bool (decide (v10 < ((([] : List Int) ++ i1).length : Int))))] [(0, .box [.p β0 (.slice (.slice (.int .i64))) d1, .p β1 (.slice (.int .u32)) d2]), (1, .arr 3 (.int .i64) v9)] 2 0 [True] (by kernel_rfl) (by kernel_rfl) ⟨trivial, trivial⟩ ?_
            refine to_then ?_
            refine W_seq ?_
            refine W_cond (b := (decide (v10 < ((([] : List Int) ++ i1).length : Int)))) (β := false) (by kernel_rfl) (fun hb22 => ?_) (fun hb22 => ?_)
            · replace h := h_if hb22 h
              refine W_skip_to ?_
              refine to_then ?_
              refine W_seq ?_
              refine W_block ?_
              refine W_seq ?_
              refine W_reg tbok ⟨[], []⟩ [] [0, 1] [(2, .p false .bool x1), (3, .adr 0 0 2 0), (7, .sl 1), (8, .p false (.int .i64) v10), (42, .p false (.int .i64) ((([] : List Int) ++ i1).length : Int)), (43, .p false (.int .i64) v10)] [(0, .box [.p β0 (.slice (.slice (.int .i64))) d1, .p β1 (.slice (.int .u32)) d2]), (1, .arr 3 (.int .i64) v9)] 2 0 [True, True] (by kernel_rfl) (by kernel_rfl) ⟨trivial, trivial, trivial⟩ ?_
              refine to_then ?_
              refine W_seq ?_
              obtain ⟨v12, hp7, h⟩ := h_bind h
              refine W.mono (Q := (postN Try.f4.ntmps (fun (v12 : Bool) => mkSt [(2, .p false .bool x1), (3, .adr 0 0 2 0), (7, .sl 1), (8, .p false (.int .i64) v10), (42, .p false (.int .i64) ((([] : List Int) ++ i1).length : Int)), (43, .p false (.int .i64) v10), (54, .p false .bool v12)] [(0, .box [.p β0 (.slice (.slice (.int .i64))) d1, .p β1 (.slice (.int .u32)) d2]), (1, .arr 3 (.int .i64) v9)] 2)) v12) ?_ (fun e σ' hq => ?_)
              · replace h := hp7
                clear hp7
                rcases Bool.eq_false_or_eq_true x1 with hb25 | hb25
                · replace h := h_if hb25 h
                  obtain ⟨c59, h⟩ := h_guard h
                  refine W_reg tbok ⟨[(1, true), (8, true)], []⟩ [] [0, 1] [(2, .p false .bool x1), (3, .adr 0 0 2 0), (7, .sl 1), (8, .p false (.int .i64) v10), (42, .p false (.int .i64) ((([] : List Int) ++ i1).length : Int)), (43, .p false (.int .i64) v10), (54, .p false .bool (decide (((d1.getD ((0 : Int).toNat) ([] : List Int)).length : Int) > (0 : Int))))] [(0, .box [.p β0 (.slice (.slice (.int .i64))) d1, .p β1 (.slice (.int .u32)) d2]), (1, .arr 3 (.int .i64) v9)] 2 0 [True, True, x1 = true ∧ True, x1 = true ∧ True, x1 = true ∧ 0 ≤ (0 : Int) ∧ (0 : Int) < (d1.length : Int), x1 = true ∧ True, x1 = true ∧ True, x1 = true ∧ True, x1 = true] (by kernel_rfl) (by kernel_rfl) ⟨trivial, trivial, ⟨hb25, trivial⟩, ⟨hb25, trivial⟩, ⟨hb25, c59⟩, ⟨hb25, trivial⟩, ⟨hb25, trivial⟩, ⟨hb25, trivial⟩, hb25, trivial⟩ ?_
                  obtain rfl := Option.some.inj h
                  exact postN_to (goal_le (gs := []) (f := [0, 1]) (by kernel_rfl) (by kernel_rfl))
                · replace h := h_else hb25 h
                  refine W_reg tbok ⟨[(1, false), (8, false)], []⟩ [] [0, 1] [(2, .p false .bool x1), (3, .adr 0 0 2 0), (7, .sl 1), (8, .p false (.int .i64) v10), (42, .p false (.int .i64) ((([] : List Int) ++ i1).length : Int)), (43, .p false (.int .i64) v10), (54, .p false .bool false)] [(0, .box [.p β0 (.slice (.slice (.int .i64))) d1, .p β1 (.slice (.int .u32)) d2]), (1, .arr 3 (.int .i64) v9)] 2 0 [True, True, x1 = false, x1 = false, x1 = false, x1 = false, x1 = false, x1 = false, x1 = false] (by kernel_rfl) (by kernel_rfl) ⟨trivial, trivial, hb25, hb25, hb25, hb25, hb25, hb25, hb25, trivial⟩ ?_
                  obtain rfl := Option.some.inj h
                  exact postN_to (goal_le (gs := []) (f := [0, 1]) (by kernel_rfl) (by kernel_rfl))
              · clear hp7
                obtain ⟨rfl, hle⟩ := hq
                refine use_to ?_ hle
                refine to_then ?_
                obtain ⟨v13, hp8, h⟩ := h_bind h
                refine W.mono (Q := (postN Try.f4.ntmps (fun (v13 : List Int) => mkSt [(2, .p false .bool x1), (3, .adr 0 0 2 0), (7, .sl 1), (42, .p false (.int .i64) ((([] : List Int) ++ i1).length : Int)), (43, .p false (.int .i64) v10)] [(0, .box [.p β0 (.slice (.slice (.int .i64))) d1, .p β1 (.slice (.int .u32)) d2]), (1, .arr 3 (.int .i64) v13)] 2)) v13) ?_ (fun e σ' hq => ?_)
                · replace h := hp8
                  clear hp8
                  refine W_cond (b := v12) (β := false) (by kernel_rfl) (fun hb27 => ?_) (fun hb27 => ?_)
                  · replace h := h_if hb27 h
                    obtain ⟨c78, h⟩ := h_guard h
                    obtain ⟨c79, h⟩ := h_guard h
                    obtain ⟨c80, h⟩ := h_guard h
                    obtain ⟨c81, h⟩ := h_guard h
                    obtain ⟨c82, h⟩ := h_guard h
                    obtain ⟨c83, h⟩ := h_guard h
                    refine W_regD tbok mixed ⟨[], []⟩ [] [0, 1] [(2, .p false .bool x1), (3, .adr 0 0 2 0), (7, .sl 1), (42, .p false (.int .i64) ((([] : List Int) ++ i1).length : Int)), (43, .p false (.int .i64) v10)] [(0, .box [.p β0 (.slice (.slice (.int .i64))) d1, .p β1 (.slice (.int .u32)) d2]), (1, .arr 3 (.int .i64) (v9.set v10.toNat (IntKind.i64.wrap (Int.tmod (IntKind.u64.wrap (v9.getD v10.toNat (0 : Int))) (IntKind.u64.wrap ((d1.getD ((0 : Int).toNat) ([] : List Int)).length : Int))))))] 2 0 [True, True, True, True, 0 ≤ v10 ∧ v10 < (v9.length : Int), v10.toNat < v9.length, True, True, True, 0 ≤ (0 : Int) ∧ (0 : Int) < (d1.length : Int), True, True, True, ¬ (IntKind.u64.wrap ((d1.getD ((0 : Int).toNat) ([] : List Int)).length : Int)) = 0, True, 0 ≤ v10 ∧ v10 < (v9.length : Int), v10.toNat < v9.length] (by kernel_rfl) (by kernel_rfl) ⟨trivial, trivial, trivial, trivial, c78, c79, trivial, trivial, trivial, c80, trivial, trivial, trivial, c81, trivial, c82, c83, trivial⟩ ?_
                    obtain rfl := Option.some.inj h
                    exact postN_to (goal_le (gs := []) (f := [0, 1]) (by kernel_rfl) (by kernel_rfl))
                  · replace h := h_else hb27 h
                    refine W_skip_to ?_
                    obtain rfl := Option.some.inj h
                    exact postN_to (goal_le (gs := []) (f := [0, 1]) (by kernel_rfl) (by kernel_rfl))
                · clear hp8
                  obtain ⟨rfl, hle⟩ := hq
                  refine use_to ?_ hle
                  refine to_block ?_
                  refine to_then ?_
                  refine W_reg tbok ⟨[], []⟩ [] [0, 1] [(2, .p false .bool x1), (3, .adr 0 0 2 0), (7, .sl 1), (42, .p false (.int .i64) ((([] : List Int) ++ i1).length : Int)), (43, .p false (.int .i64) (IntKind.i64.wrap (v10 + (1 : Int))))] [(0, .box [.p β0 (.slice (.slice (.int .i64))) d1, .p β1 (.slice (.int .u32)) d2]), (1, .arr 3 (.int .i64) v13)] 2 0 [True, True] (by kernel_rfl) (by kernel_rfl) ⟨trivial, trivial, trivial⟩ ?_
                  obtain rfl := Option.some.inj h
                  exact roundB (goal_le (gs := []) (f := [0, 1]) (by kernel_rfl) (by kernel_rfl))
            · replace h := h_else hb22 h
              refine W_exit_to ?_
              refine thenE ?_
              obtain rfl := Option.some.inj h
              refine roundE ?_
              exact postX_to (goal_le (gs := []) (f := [0, 1]) (by kernel_rfl) (by kernel_rfl))
          · clear hp9
            obtain ⟨rfl, hle⟩ := hq
            refine use_to ?_ hle
            refine blockE_eq ?_
            refine to_then ?_
            refine W_seq ?_
            refine W_reg tbok ⟨[], []⟩ [] [0, 1, 2] [(3, .adr 0 0 2 0), (7, .sl 1), (9, .sl 2)] [(0, .box [.p β0 (.slice (.slice (.int .i64))) d1, .p β1 (.slice (.int .u32)) d2]), (1, .arr 3 (.int .i64) v11), (2, .arr 3 (.int .i64) ([(0 : Int)] : List Int))] 3 0 [True, True] (by kernel_rfl) (by kernel_rfl) ⟨trivial, trivial, trivial⟩ ?_
            refine to_then ?_
            refine W_seq ?_
            refine W_reg tbok ⟨[], []⟩ [] [0, 1, 2] [(3, .adr 0 0 2 0), (7, .sl 1), (9, .sl 2), (10, .p false (.int .i64) (0 : Int))] [(0, .box [.p β0 (.slice (.slice (.int .i64))) d1, .p β1 (.slice (.int .u32)) d2]), (1, .arr 3 (.int .i64) v11), (2, .arr 3 (.int .i64) ([(0 : Int)] : List Int))] 3 0 [True] (by kernel_rfl) (by kernel_rfl) ⟨trivial, trivial⟩ ?_
            refine to_then ?_
            refine W_seq ?_
            refine W_seq ?_
            refine W_reg tbok ⟨[], []⟩ [] [0, 1, 2] [(3, .adr 0 0 2 0), (7, .sl 1), (9, .sl 2), (10, .p false (.int .i64) (0 : Int)), (73, .sl 1), (74, .p false (.int .i64) (v11.length : Int)), (75, .p false (.int .i64) (0 : Int))] [(0, .box [.p β0 (.slice (.slice (.int .i64))) d1, .p β1 (.slice (.int .u32)) d2]), (1, .arr 3 (.int .i64) v11), (2, .arr 3 (.int .i64) ([(0 : Int)] : List Int))] 3 0 [True, True, True] (by kernel_rfl) (by kernel_rfl) ⟨trivial, trivial, trivial, trivial⟩ ?_
            refine to_then ?_
            refine W_block ?_
            obtain ⟨v22, hp13, h⟩ := h_bind h
            refine W.mono (Q := (postX Try.f4.ntmps 2 (fun (v22 : List Int) => mkSt [(3, .adr 0 0 2 0), (7, .sl 1), (9, .sl 2)] [(0, .box [.p β0 (.slice (.slice (.int .i64))) d1, .p β1 (.slice (.int .u32)) d2]), (1, .arr 3 (.int .i64) v11), (2, .arr 3 (.int .i64) v22)] 3)) v22) (W_iter (f := fun ((v19, v20, v21) : (List Int) × Int × Int) => mkSt [(3, .adr 0 0 2 0), (7, .sl 1), (9, .sl 2), (10, .p false (.int .i64) v20), (73, .sl 1), (74, .p false (.int .i64) (v11.length : Int)), (75, .p false (.int .i64) v21)] [(0, .box [.p β0 (.slice (.slice (.int .i64))) d1, .p β1 (.slice (.int .u32)) d2]), (1, .arr 3 (.int .i64) v11), (2, .arr 3 (.int .i64) v19)] 3) (Q := (postX Try.f4.ntmps 2 (fun (v22 : List Int) => mkSt [(3, .adr 0 0 2 0), (7, .sl 1), (9, .sl 2)] [(0, .box [.p β0 (.slice (.slice (.int .i64))) d1, .p β1 (.slice (.int .u32)) d2]), (1, .arr 3 (.int .i64) v11), (2, .arr 3 (.int .i64) v22)] 3))) hp13 (goal_le (gs := []) (f := [0, 1, 2]) (by kernel_rfl) (by kernel_rfl)) (fun y o ho => ?_)) (fun e σ' hq => ?_)
            · obtain ⟨v19, v20, v21⟩ := y
              replace h := ho
              clear ho hp13
              unfold stanzalaw04_AutoRuns_L2 at h
              refine W_seq ?_
              refine W_reg tbok ⟨[], []⟩ [] [0, 1, 2] [(3, .adr 0 0 2 0), (7, .sl 1), (9, .sl 2), (10, .p false (.int .i64) v20), (73, .sl 1), (74, .p false (.int .i64) (v11.length : Int)), (75, .p false (.int .i64) v21), (76, .p false .bool (decide (v21 < (v11.length : Int))))] [(0, .box [.p β0 (.slice (.slice (.int .i64))) d1, .p β1 (.slice (.int .u32)) d2]), (1, .arr 3 (.int .i64) v11), (2, .arr 3 (.int .i64) v19)] 3 0 [True] (by kernel_rfl) (by kernel_rfl) ⟨trivial, trivial⟩ ?_
              refine to_then ?_
              refine W_seq ?_
              refine W_cond (b := (decide (v21 < (v11.length : Int)))) (β := false) (by kernel_rfl) (fun hb38 => ?_) (fun hb38 => ?_)
              · replace h := h_if hb38 h
                refine W_skip_to ?_
                refine to_then ?_
                refine W_seq ?_
                refine W_block ?_
                refine W_seq ?_
                obtain ⟨c112, h⟩ := h_guard h
                obtain ⟨c113, h⟩ := h_guard h
                refine W_reg tbok ⟨[], []⟩ [] [0, 1, 2] [(3, .adr 0 0 2 0), (7, .sl 1), (9, .sl 2), (10, .p false (.int .i64) v20), (12, .p false (.int .i64) (v11.getD v21.toNat (0 : Int))), (73, .sl 1), (74, .p false (.int .i64) (v11.length : Int)), (75, .p false (.int .i64) v21)] [(0, .box [.p β0 (.slice (.slice (.int .i64))) d1, .p β1 (.slice (.int .u32)) d2]), (1, .arr 3 (.int .i64) v11), (2, .arr 3 (.int .i64) v19)] 3 0 [0 ≤ v21 ∧ v21 < (v11.length : Int), v21.toNat < v11.length, True] (by kernel_rfl) (by kernel_rfl) ⟨c112, c113, trivial, trivial⟩ ?_
                refine to_then ?_
                refine W_seq ?_
                refine W_seq ?_
                obtain ⟨v23, hp12, h⟩ := h_bind h
                refine W.mono (Q := (postN Try.f4.ntmps (fun (v23 : Bool) => mkSt [(3, .adr 0 0 2 0), (7, .sl 1), (9, .sl 2), (10, .p false (.int .i64) v20), (12, .p false (.int .i64) (v11.getD v21.toNat (0 : Int))), (73, .sl 1), (74, .p false (.int .i64) (v11.length : Int)), (75, .p false (.int .i64) v21), (89, .p false .bool v23)] [(0, .box [.p β0 (.slice (.slice (.int .i64))) d1, .p β1 (.slice (.int .u32)) d2]), (1, .arr 3 (.int .i64) v11), (2, .arr 3 (.int .i64) v19)] 3)) v23) ?_ (fun e σ' hq => ?_)
                · replace h := hp12
                  clear hp12
                  rcases Bool.eq_false_or_eq_true (decide ((v11.getD v21.toNat (0 : Int)) < (0 : Int))) with hb41 | hb41
                  · replace h := h_if hb41 h
                    refine W_reg tbok ⟨[(2, true), (10, true)], []⟩ [] [0, 1, 2] [(3, .adr 0 0 2 0), (7, .sl 1), (9, .sl 2), (10, .p false (.int .i64) v20), (12, .p false (.int .i64) (v11.getD v21.toNat (0 : Int))), (73, .sl 1), (74, .p false (.int .i64) (v11.length : Int)), (75, .p false (.int .i64) v21), (89, .p false .bool true)] [(0, .box [.p β0 (.slice (.slice (.int .i64))) d1, .p β1 (.slice (.int .u32)) d2]), (1, .arr 3 (.int .i64) v11), (2, .arr 3 (.int .i64) v19)] 3 0 [True, True, True, (decide ((v11.getD v21.toNat (0 : Int)) < (0 : Int))) = true, (decide ((v11.getD v21.toNat (0 : Int)) < (0 : Int))) = true, (decide ((v11.getD v21.toNat (0 : Int)) < (0 : Int))) = true, (decide ((v11.getD v21.toNat (0 : Int)) < (0 : Int))) = true, (decide ((v11.getD v21.toNat (0 : Int)) < (0 : Int))) = true, (decide ((v11.getD v21.toNat (0 : Int)) < (0 : Int))) = true, (decide ((v11.getD v21.toNat (0 : Int)) < (0 : Int))) = true, (decide ((v11.getD v21.toNat (0 : Int)) < (0 : Int))) = true] (by kernel_rfl) (by kernel_rfl) ⟨trivial, trivial, trivial, hb41, hb41, hb41, hb41, hb41, hb41, hb41, hb41, trivial⟩ ?_
                    obtain rfl := Option.some.inj h
                    exact postN_to (goal_le (gs := []) (f := [0, 1, 2]) (by kernel_rfl) (by kernel_rfl))
                  · replace h := h_else hb41 h
                    obtain ⟨c116, h⟩ := h_guard h
                    refine W_reg tbok ⟨[(2, false), (10, false)], []⟩ [] [0, 1, 2] [(3, .adr 0 0 2 0), (7, .sl 1), (9, .sl 2), (10, .p false (.int .i64) v20), (12, .p false (.int .i64) (v11.getD v21.toNat (0 : Int))), (73, .sl 1), (74, .p false (.int .i64) (v11.length : Int)), (75, .p false (.int .i64) v21), (89, .p false .bool (decide ((v11.getD v21.toNat (0 : Int)) ≥ ((d1.getD ((0 : Int).toNat) ([] : List Int)).length : Int))))] [(0, .box [.p β0 (.slice (.slice (.int .i64))) d1, .p β1 (.slice (.int .u32)) d2]), (1, .arr 3 (.int .i64) v11), (2, .arr 3 (.int .i64) v19)] 3 0 [True, True, True, (decide ((v11.getD v21.toNat (0 : Int)) < (0 : Int))) = false ∧ True, (decide ((v11.getD v21.toNat (0 : Int)) < (0 : Int))) = false ∧ True, (decide ((v11.getD v21.toNat (0 : Int)) < (0 : Int))) = false ∧ True, (decide ((v11.getD v21.toNat (0 : Int)) < (0 : Int))) = false ∧ 0 ≤ (0 : Int) ∧ (0 : Int) < (d1.length : Int), (decide ((v11.getD v21.toNat (0 : Int)) < (0 : Int))) = false ∧ True, (decide ((v11.getD v21.toNat (0 : Int)) < (0 : Int))) = false ∧ True, (decide ((v11.getD v21.toNat (0 : Int)) < (0 : Int))) = false ∧ True, (decide ((v11.getD v21.toNat (0 : Int)) < (0 : Int))) = false] (by kernel_rfl) (by kernel_rfl) ⟨trivial, trivial, trivial, ⟨hb41, trivial⟩, ⟨hb41, trivial⟩, ⟨hb41, trivial⟩, ⟨hb41, c116⟩, ⟨hb41, trivial⟩, ⟨hb41, trivial⟩, ⟨hb41, trivial⟩, hb41, trivial⟩ ?_
                    obtain rfl := Option.some.inj h
                    exact postN_to (goal_le (gs := []) (f := [0, 1, 2]) (by kernel_rfl) (by kernel_rfl))
                · clear hp12
                  obtain ⟨rfl, hle⟩ := hq
                  refine use_to ?_ hle
                  refine to_then ?_
                  refine W_cond (b := v23) (β := false) (by kernel_rfl) (fun hb42 => ?_) (fun hb42 => ?_)
                  · replace h := h_if hb42 h
                    refine W_exit_to ?_
                    refine thenE ?_
                    refine blockE_ne rfl ?_
                    refine thenE ?_
                    obtain rfl := Option.some.inj h
                    refine roundE ?_
                    exact postX_to (goal_le (gs := []) (f := [0, 1, 2]) (by kernel_rfl) (by kernel_rfl))
                  · replace h := h_else hb42 h
                    refine W_skip_to ?_
                    refine to_then ?_
                    refine W_seq ?_
                    obtain ⟨c119, h⟩ := h_guard h
                    obtain ⟨c120, h⟩ := h_guard h
                    refine W_reg tbok ⟨[], []⟩ [] [0, 1, 2] [(3, .adr 0 0 2 0), (7, .sl 1), (9, .sl 2), (10, .p false (.int .i64) ((d1.getD v20.toNat ([] : List Int)).getD ((v11.getD v21.toNat (0 : Int)).toNat) (0 : Int))), (73, .sl 1), (74, .p false (.int .i64) (v11.length : Int)), (75, .p false (.int .i64) v21)] [(0, .box [.p β0 (.slice (.slice (.int .i64))) d1, .p β1 (.slice (.int .u32)) d2]), (1, .arr 3 (.int .i64) v11), (2, .arr 3 (.int .i64) v19)] 3 0 [True, True, True, 0 ≤ v20 ∧ v20 < (d1.length : Int), True, True, 0 ≤ (v11.getD v21.toNat (0 : Int)) ∧ (v11.getD v21.toNat (0 : Int)) < ((d1.getD v20.toNat ([] : List Int)).length : Int), True, True] (by kernel_rfl) (by kernel_rfl) ⟨trivial, trivial, trivial, c119, trivial, trivial, c120, trivial, trivial, trivial⟩ ?_
                    refine to_then ?_
                    obtain ⟨c122, h⟩ := h_guard h
                    refine W_reg tbok ⟨[], []⟩ [] [0, 1, 27] [(3, .adr 0 0 2 0), (7, .sl 1), (9, .sl 2), (10, .p false (.int .i64) ((d1.getD v20.toNat ([] : List Int)).getD ((v11.getD v21.toNat (0 : Int)).toNat) (0 : Int))), (73, .sl 1), (74, .p false (.int .i64) (v11.length : Int)), (75, .p false (.int .i64) v21)] [(0, .box [.p β0 (.slice (.slice (.int .i64))) d1, .p β1 (.slice (.int .u32)) d2]), (1, .arr 3 (.int .i64) v11), (2, .arr 3 (.int .i64) (v19 ++ ([((d1.getD v20.toNat ([] : List Int)).getD ((v11.getD v21.toNat (0 : Int)).toNat) (0 : Int))] : List Int)))] 3 0 [True, True, True, (v19.length + ([((d1.getD v20.toNat ([] : List Int)).getD ((v11.getD v21.toNat (0 : Int)).toNat) (0 : Int))] : List Int).length) * 8 ≤ 140737488355328 ∧ v19.length + ([((d1.getD v20.toNat ([] : List Int)).getD ((v11.getD v21.toNat (0 : Int)).toNat) (0 : Int))] : List Int).length ≤ 9223372036854775807, True] (by kernel_rfl) (by kernel_rfl) ⟨trivial, trivial, trivial, c122, trivial, trivial⟩ ?_
                    refine to_block ?_
                    refine to_then ?_
                    refine W_reg tbok ⟨[], []⟩ [] [0, 1, 2] [(3, .adr 0 0 2 0), (7, .sl 1), (9, .sl 2), (10, .p false (.int .i64) ((d1.getD v20.toNat ([] : List Int)).getD ((v11.getD v21.toNat (0 : Int)).toNat) (0 : Int))), (73, .sl 1), (74, .p false (.int .i64) (v11.length : Int)), (75, .p false (.int .i64) (IntKind.i64.wrap (v21 + (1 : Int))))] [(0, .box [.p β0 (.slice (.slice (.int .i64))) d1, .p β1 (.slice (.int .u32)) d2]), (1, .arr 3 (.int .i64) v11), (2, .arr 3 (.int .i64) (v19 ++ ([((d1.getD v20.toNat ([] : List Int)).getD ((v11.getD v21.toNat (0 : Int)).toNat) (0 : Int))] : List Int)))] 3 0 [True, True] (by kernel_rfl) (by kernel_rfl) ⟨trivial, trivial, trivial⟩ ?_
                    obtain rfl := Option.some.inj h
                    exact roundB (goal_le (gs := []) (f := [0, 1, 2]) (by kernel_rfl) (by kernel_rfl))
              · replace h := h_else hb38 h
                refine W_exit_to ?_
                refine thenE ?_
                obtain rfl := Option.some.inj h
                refine roundE ?_
                exact postX_to (goal_le (gs := []) (f := [0, 1, 2]) (by kernel_rfl) (by kernel_rfl))
            · clear hp13
              obtain ⟨rfl, hle⟩ := hq
              refine use_to ?_ hle
              refine blockE_eq ?_
              refine to_then ?_
              refine W_seq ?_
              obtain ⟨r10, q10, h⟩ := h_bind h
              obtain ⟨r11, q11, h⟩ := h_bind h
              refine W_reg tbok ⟨[], [(2, ⟨.p false (.slice (.int .i64)) r10, [false, false], false, [true, true], [], []⟩), (4, ⟨.p false .bool r11, [false, false], false, [true, true], [], []⟩)]⟩ [] [] [(6, .p false .bool r11)] [] 0 0 [True, True, Pure Try.prog 11 [.agg [.p β0 (.slice (.slice (.int .i64))) d1, .p β1 (.slice (.int .u32)) d2], .p true (.slice (.int .i64)) v11] (.p false (.slice (.int .i64)) r10), True, Pure Try.prog 12 [.p false (.slice (.int .i64)) r10, .p true (.slice (.int .i64)) v22] (.p false .bool r11), True] (by kernel_rfl) (by kernel_rfl) ⟨trivial, trivial, (auto_Run_ok β0 β1 true d1 d2 v11 _ q10), trivial, (stanzaref01_SameInts_ok false true r10 v22 _ q11), trivial, trivial⟩ ?_
              refine to_then ?_
              refine W_ret ?_
              obtain rfl := Option.some.inj h
              exact Ret_intro [.bool] (by kernel_rfl)

end
end Go.Proofs.Ytnjdmbifjbahdaa.T
