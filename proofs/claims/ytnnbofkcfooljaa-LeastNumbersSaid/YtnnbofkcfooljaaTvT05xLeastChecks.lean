/- Functions of the program as functions on data, and that the program's own come to them. -/
import Derived.Test.YtnnbofkcfooljaaTvT05x0
import Derived.Test.YtnnbofkcfooljaaTvT05xa
import Derived.Test.YtnnbofkcfooljaaTvT05xc
namespace Go.Proofs.Ytnnbofkcfooljaa.T
open Go Go.Tv Go.Proofs
noncomputable section

/-- a loop of 'stanza/stanzaref04.Check': one round -/
def stanzaref04_Check_L1 (d1 : List (List Int)) (v13 : Int) : (Int) → Option ((Int) ⊕ ((Unit) ⊕ (Bool))) := fun (v17 : Int) =>
  (if 0 ≤ v13 ∧ v13 < (d1.length : Int) then (if (decide (v17 < ((d1.getD v13.toNat ([] : List Int)).length : Int))) = true then (((if 0 ≤ v13 ∧ v13 < (d1.length : Int) then (if 0 ≤ v17 ∧ v17 < ((d1.getD v13.toNat ([] : List Int)).length : Int) then (if (decide (((d1.getD v13.toNat ([] : List Int)).getD v17.toNat (0 : Int)) < (0 : Int))) = true then some (true)
  else (if 0 ≤ v13 ∧ v13 < (d1.length : Int) then (if 0 ≤ v17 ∧ v17 < ((d1.getD v13.toNat ([] : List Int)).length : Int) then some ((decide (((d1.getD v13.toNat ([] : List Int)).getD v17.toNat (0 : Int)) ≥ (d1.length : Int)))) else none) else none)) else none) else none)).bind fun (v18 : Bool) => (if v18 = true then some (Sum.inr (Sum.inr false))
  else some (Sum.inl (IntKind.i64.wrap (v17 + (1 : Int))))))
  else some (Sum.inr (Sum.inl ()))) else none)

/-- a loop of 'stanza/stanzaref04.Check': one round -/
def stanzaref04_Check_L2 (d1 : List (List Int)) : (Int) → Option ((Int) ⊕ ((Unit) ⊕ (Bool))) := fun (v13 : Int) =>
  (if (decide (v13 < (d1.length : Int))) = true then (if 0 ≤ v13 ∧ v13 < (d1.length : Int) then (if 0 ≤ (0 : Int) ∧ (0 : Int) < (d1.length : Int) then (if (((d1.getD v13.toNat ([] : List Int)).length : Int) != ((d1.getD ((0 : Int).toNat) ([] : List Int)).length : Int)) = true then some (Sum.inr (Sum.inr false))
  else ((iter (stanzaref04_Check_L1 d1 v13) (0 : Int)).bind fun (r7 : ((Unit) ⊕ (Bool))) => match r7 with
  | .inl _ => some (Sum.inl (IntKind.i64.wrap (v13 + (1 : Int))))
  | .inr (r6) => some (Sum.inr (Sum.inr r6)))) else none) else none)
  else some (Sum.inr (Sum.inl ())))

/-- 'stanza/stanzaref04.Check' -/
def stanzaref04_Check (d1 : List (List Int)) (d2 : List Int) : Option (Bool) :=
  (((if (decide ((d1.length : Int) < (1 : Int))) = true then some (true)
  else some (((d2.length : Int) != (d1.length : Int))))).bind fun (v1 : Bool) => (if v1 = true then some false
  else ((iter (stanzaref04_Check_L2 d1) (0 : Int)).bind fun (r8 : ((Unit) ⊕ (Bool))) => match r8 with
  | .inl _ => some true
  | .inr (r5) => some r5)))

set_option maxRecDepth 100000 in
set_option maxHeartbeats 4000000 in
theorem stanzaref04_Check_ok (β0 β1 : Bool) (d1 : List (List Int)) (d2 : List Int) (res : Bool) (h : stanzaref04_Check d1 d2 = some res) :
    Pure Try.prog 15 [.agg [.p β0 (.slice (.slice (.int .i64))) d1, .p β1 (.slice (.int .u32)) d2]] (wrapR (encs false [⟨.bool, res⟩])) := by
  refine Pure.of_body tbok Try.func15 (by kernel_rfl) rfl (Nat.le_of_ble_eq_true rfl) (fun Bw w0 => ?_) rfl
  unfold stanzaref04_Check at h
  refine W_seq ?_
  refine W_reg tbok ⟨[], []⟩ [] [0] [(1, .adr 0 0 2 0)] [(0, .box [.p β0 (.slice (.slice (.int .i64))) d1, .p β1 (.slice (.int .u32)) d2])] 1 0 [True, True] (by kernel_rfl) (by kernel_rfl) ⟨trivial, trivial, trivial⟩ ?_
  refine to_then ?_
  refine W_seq ?_
  refine W_reg tbok ⟨[], []⟩ [] [0] [(1, .adr 0 0 2 0), (3, .p false (.int .i64) (d1.length : Int))] [(0, .box [.p β0 (.slice (.slice (.int .i64))) d1, .p β1 (.slice (.int .u32)) d2])] 1 0 [True, True, True, True] (by kernel_rfl) (by kernel_rfl) ⟨trivial, trivial, trivial, trivial, trivial⟩ ?_
  refine to_then ?_
  refine W_seq ?_
  refine W_seq ?_
  obtain ⟨v1, hp1, h⟩ := h_bind h
  refine W.mono (Q := (postN Try.f15.ntmps (fun (v1 : Bool) => mkSt [(1, .adr 0 0 2 0), (3, .p false (.int .i64) (d1.length : Int)), (17, .p false .bool v1)] [(0, .box [.p β0 (.slice (.slice (.int .i64))) d1, .p β1 (.slice (.int .u32)) d2])] 1)) v1) ?_ (fun e σ' hq => ?_)
  · replace h := hp1
    clear hp1
    rcases Bool.eq_false_or_eq_true (decide ((d1.length : Int) < (1 : Int))) with hb3 | hb3
    · replace h := h_if hb3 h
      refine W_reg tbok ⟨[(2, true), (8, true)], []⟩ [] [0] [(1, .adr 0 0 2 0), (3, .p false (.int .i64) (d1.length : Int)), (17, .p false .bool true)] [(0, .box [.p β0 (.slice (.slice (.int .i64))) d1, .p β1 (.slice (.int .u32)) d2])] 1 0 [True, True, True, (decide ((d1.length : Int) < (1 : Int))) = true, (decide ((d1.length : Int) < (1 : Int))) = true, (decide ((d1.length : Int) < (1 : Int))) = true, (decide ((d1.length : Int) < (1 : Int))) = true, (decide ((d1.length : Int) < (1 : Int))) = true, (decide ((d1.length : Int) < (1 : Int))) = true] (by kernel_rfl) (by kernel_rfl) ⟨trivial, trivial, trivial, hb3, hb3, hb3, hb3, hb3, hb3, trivial⟩ ?_
      obtain rfl := Option.some.inj h
      exact postN_to (goal_le (gs := []) (f := [0]) (by kernel_rfl) (by kernel_rfl))
    · replace h := h_else hb3 h
      refine W_reg tbok ⟨[(2, false), (8, false)], []⟩ [] [0] [(1, .adr 0 0 2 0), (3, .p false (.int .i64) (d1.length : Int)), (17, .p false .bool ((d2.length : Int) != (d1.length : Int)))] [(0, .box [.p β0 (.slice (.slice (.int .i64))) d1, .p β1 (.slice (.int .u32)) d2])] 1 0 [True, True, True, (decide ((d1.length : Int) < (1 : Int))) = false ∧ True, (decide ((d1.length : Int) < (1 : Int))) = false ∧ True, (decide ((d1.length : Int) < (1 : Int))) = false ∧ True, (decide ((d1.length : Int) < (1 : Int))) = false ∧ True, (decide ((d1.length : Int) < (1 : Int))) = false ∧ True, (decide ((d1.length : Int) < (1 : Int))) = false] (by kernel_rfl) (by kernel_rfl) ⟨trivial, trivial, trivial, ⟨hb3, trivial⟩, ⟨hb3, trivial⟩, ⟨hb3, trivial⟩, ⟨hb3, trivial⟩, ⟨hb3, trivial⟩, hb3, trivial⟩ ?_
      obtain rfl := Option.some.inj h
      exact postN_to (goal_le (gs := []) (f := [0]) (by kernel_rfl) (by kernel_rfl))
  · clear hp1
    obtain ⟨rfl, hle⟩ := hq
    refine use_to ?_ hle
    refine to_then ?_
    refine W_cond (b := v1) (β := false) (by kernel_rfl) (fun hb4 => ?_) (fun hb4 => ?_)
    · replace h := h_if hb4 h
      refine W_seq ?_
      refine W_reg tbok ⟨[], []⟩ [] [] [(2, .p false .bool false)] [] 0 0 [True] (by kernel_rfl) (by kernel_rfl) ⟨trivial, trivial⟩ ?_
      refine to_then ?_
      refine W_ret ?_
      refine thenQ_ret ?_
      obtain rfl := Option.some.inj h
      exact Ret_intro [.bool] (by kernel_rfl)
    · replace h := h_else hb4 h
      refine W_skip_to ?_
      refine to_then ?_
      refine W_seq ?_
      refine W_seq ?_
      refine W_reg tbok ⟨[], []⟩ [] [0] [(1, .adr 0 0 2 0), (3, .p false (.int .i64) (d1.length : Int)), (4, .p false (.int .i64) (0 : Int))] [(0, .box [.p β0 (.slice (.slice (.int .i64))) d1, .p β1 (.slice (.int .u32)) d2])] 1 0 [True] (by kernel_rfl) (by kernel_rfl) ⟨trivial, trivial⟩ ?_
      refine to_then ?_
      refine W_block ?_
      obtain ⟨r8, hp14, h⟩ := h_bind h
      refine W.mono (Q := (postS (postX Try.f15.ntmps 0 (fun (_ : Unit) => mkSt [] [] 0)) (postR tb Try.f15.results.toList (fun (r5 : Bool) => [⟨.bool, r5⟩]))) r8) (W_iter (f := fun (v13 : Int) => mkSt [(1, .adr 0 0 2 0), (3, .p false (.int .i64) (d1.length : Int)), (4, .p false (.int .i64) v13)] [(0, .box [.p β0 (.slice (.slice (.int .i64))) d1, .p β1 (.slice (.int .u32)) d2])] 1) (Q := (postS (postX Try.f15.ntmps 0 (fun (_ : Unit) => mkSt [] [] 0)) (postR tb Try.f15.results.toList (fun (r5 : Bool) => [⟨.bool, r5⟩])))) hp14 (goal_le (gs := []) (f := [0]) (by kernel_rfl) (by kernel_rfl)) (fun v13 o ho => ?_)) (fun e σ' hq => ?_)
      · replace h := ho
        clear ho hp14
        unfold stanzaref04_Check_L2 at h
        refine W_seq ?_
        refine W_seq ?_
        refine W_reg tbok ⟨[], []⟩ [] [0] [(1, .adr 0 0 2 0), (3, .p false (.int .i64) (d1.length : Int)), (4, .p false (.int .i64) v13), (20, .p false .bool (decide (v13 < (d1.length : Int))))] [(0, .box [.p β0 (.slice (.slice (.int .i64))) d1, .p β1 (.slice (.int .u32)) d2])] 1 0 [True, True, True] (by kernel_rfl) (by kernel_rfl) ⟨trivial, trivial, trivial, trivial⟩ ?_
        refine to_then ?_
        refine W_cond (b := (decide (v13 < (d1.length : Int)))) (β := false) (by kernel_rfl) (fun hb39 => ?_) (fun hb39 => ?_)
        · replace h := h_if hb39 h
          refine W_skip_to ?_
          refine to_then ?_
          refine W_seq ?_
          refine W_block ?_
          refine W_seq ?_
          refine W_seq ?_
          obtain ⟨c95, h⟩ := h_guard h
          obtain ⟨c96, h⟩ := h_guard h
          refine W_regD tbok mixed ⟨[], []⟩ [] [0] [(1, .adr 0 0 2 0), (3, .p false (.int .i64) (d1.length : Int)), (4, .p false (.int .i64) v13), (34, .p false .bool (((d1.getD v13.toNat ([] : List Int)).length : Int) != ((d1.getD ((0 : Int).toNat) ([] : List Int)).length : Int)))] [(0, .box [.p β0 (.slice (.slice (.int .i64))) d1, .p β1 (.slice (.int .u32)) d2])] 1 0 [True, True, True, 0 ≤ v13 ∧ v13 < (d1.length : Int), True, True, True, True, 0 ≤ (0 : Int) ∧ (0 : Int) < (d1.length : Int), True, True, True] (by kernel_rfl) (by kernel_rfl) ⟨trivial, trivial, trivial, c95, trivial, trivial, trivial, trivial, c96, trivial, trivial, trivial, trivial⟩ ?_
          refine to_then ?_
          refine W_cond (b := (((d1.getD v13.toNat ([] : List Int)).length : Int) != ((d1.getD ((0 : Int).toNat) ([] : List Int)).length : Int))) (β := false) (by kernel_rfl) (fun hb40 => ?_) (fun hb40 => ?_)
          · replace h := h_if hb40 h
            refine W_seq ?_
            refine W_reg tbok ⟨[], []⟩ [] [] [(2, .p false .bool false)] [] 0 0 [True] (by kernel_rfl) (by kernel_rfl) ⟨trivial, trivial⟩ ?_
            refine to_then ?_
            refine W_ret ?_
            obtain rfl := Option.some.inj h
            refine thenQ_ret ?_
            refine blockQ_ret ?_
            refine thenQ_ret ?_
            refine round_ret ?_
            refine postS_rr ?_
            exact postR_mk (Ret_intro [.bool] (by kernel_rfl))
          · replace h := h_else hb40 h
            refine W_skip_to ?_
            refine to_then ?_
            refine W_seq ?_
            refine W_reg tbok ⟨[], []⟩ [] [0] [(1, .adr 0 0 2 0), (3, .p false (.int .i64) (d1.length : Int)), (4, .p false (.int .i64) v13), (5, .p false (.int .i64) (0 : Int))] [(0, .box [.p β0 (.slice (.slice (.int .i64))) d1, .p β1 (.slice (.int .u32)) d2])] 1 0 [True] (by kernel_rfl) (by kernel_rfl) ⟨trivial, trivial⟩ ?_
            refine to_then ?_
            refine W_block ?_
            obtain ⟨r7, hp13, h⟩ := h_bind h
            refine W.mono (Q := (postS (postX Try.f15.ntmps 2 (fun (_ : Unit) => mkSt [(1, .adr 0 0 2 0), (3, .p false (.int .i64) (d1.length : Int)), (4, .p false (.int .i64) v13)] [(0, .box [.p β0 (.slice (.slice (.int .i64))) d1, .p β1 (.slice (.int .u32)) d2])] 1)) (postR tb Try.f15.results.toList (fun (r6 : Bool) => [⟨.bool, r6⟩]))) r7) (W_iter (f := fun (v17 : Int) => mkSt [(1, .adr 0 0 2 0), (3, .p false (.int .i64) (d1.length : Int)), (4, .p false (.int .i64) v13), (5, .p false (.int .i64) v17)] [(0, .box [.p β0 (.slice (.slice (.int .i64))) d1, .p β1 (.slice (.int .u32)) d2])] 1) (Q := (postS (postX Try.f15.ntmps 2 (fun (_ : Unit) => mkSt [(1, .adr 0 0 2 0), (3, .p false (.int .i64) (d1.length : Int)), (4, .p false (.int .i64) v13)] [(0, .box [.p β0 (.slice (.slice (.int .i64))) d1, .p β1 (.slice (.int .u32)) d2])] 1)) (postR tb Try.f15.results.toList (fun (r6 : Bool) => [⟨.bool, r6⟩])))) hp13 (goal_le (gs := []) (f := [0]) (by kernel_rfl) (by kernel_rfl)) (fun v17 o ho => ?_)) (fun e σ' hq => ?_)
            · replace h := ho
              clear ho hp13
              unfold stanzaref04_Check_L1 at h
              refine W_seq ?_
              refine W_seq ?_
              obtain ⟨c126, h⟩ := h_guard h
              refine W_reg tbok ⟨[], []⟩ [] [0] [(1, .adr 0 0 2 0), (3, .p false (.int .i64) (d1.length : Int)), (4, .p false (.int .i64) v13), (5, .p false (.int .i64) v17), (42, .p false .bool (decide (v17 < ((d1.getD v13.toNat ([] : List Int)).length : Int))))] [(0, .box [.p β0 (.slice (.slice (.int .i64))) d1, .p β1 (.slice (.int .u32)) d2])] 1 0 [True, True, True, True, 0 ≤ v13 ∧ v13 < (d1.length : Int), True, True, True] (by kernel_rfl) (by kernel_rfl) ⟨trivial, trivial, trivial, trivial, c126, trivial, trivial, trivial, trivial⟩ ?_
              refine to_then ?_
              refine W_cond (b := (decide (v17 < ((d1.getD v13.toNat ([] : List Int)).length : Int)))) (β := false) (by kernel_rfl) (fun hb51 => ?_) (fun hb51 => ?_)
              · replace h := h_if hb51 h
                refine W_skip_to ?_
                refine to_then ?_
                refine W_seq ?_
                refine W_block ?_
                refine W_seq ?_
                obtain ⟨v18, hp12, h⟩ := h_bind h
                refine W.mono (Q := (postN Try.f15.ntmps (fun (v18 : Bool) => mkSt [(1, .adr 0 0 2 0), (3, .p false (.int .i64) (d1.length : Int)), (4, .p false (.int .i64) v13), (5, .p false (.int .i64) v17), (65, .p false .bool v18)] [(0, .box [.p β0 (.slice (.slice (.int .i64))) d1, .p β1 (.slice (.int .u32)) d2])] 1)) v18) ?_ (fun e σ' hq => ?_)
                · replace h := hp12
                  clear hp12
                  obtain ⟨c135, h⟩ := h_guard h
                  obtain ⟨c136, h⟩ := h_guard h
                  rcases Bool.eq_false_or_eq_true (decide (((d1.getD v13.toNat ([] : List Int)).getD v17.toNat (0 : Int)) < (0 : Int))) with hb54 | hb54
                  · replace h := h_if hb54 h
                    refine W_reg tbok ⟨[(9, true), (20, true)], []⟩ [] [0] [(1, .adr 0 0 2 0), (3, .p false (.int .i64) (d1.length : Int)), (4, .p false (.int .i64) v13), (5, .p false (.int .i64) v17), (65, .p false .bool true)] [(0, .box [.p β0 (.slice (.slice (.int .i64))) d1, .p β1 (.slice (.int .u32)) d2])] 1 0 [True, True, True, 0 ≤ v13 ∧ v13 < (d1.length : Int), True, True, 0 ≤ v17 ∧ v17 < ((d1.getD v13.toNat ([] : List Int)).length : Int), True, True, True, (decide (((d1.getD v13.toNat ([] : List Int)).getD v17.toNat (0 : Int)) < (0 : Int))) = true, (decide (((d1.getD v13.toNat ([] : List Int)).getD v17.toNat (0 : Int)) < (0 : Int))) = true, (decide (((d1.getD v13.toNat ([] : List Int)).getD v17.toNat (0 : Int)) < (0 : Int))) = true, (decide (((d1.getD v13.toNat ([] : List Int)).getD v17.toNat (0 : Int)) < (0 : Int))) = true, (decide (((d1.getD v13.toNat ([] : List Int)).getD v17.toNat (0 : Int)) < (0 : Int))) = true, (decide (((d1.getD v13.toNat ([] : List Int)).getD v17.toNat (0 : Int)) < (0 : Int))) = true, (decide (((d1.getD v13.toNat ([] : List Int)).getD v17.toNat (0 : Int)) < (0 : Int))) = true, (decide (((d1.getD v13.toNat ([] : List Int)).getD v17.toNat (0 : Int)) < (0 : Int))) = true, (decide (((d1.getD v13.toNat ([] : List Int)).getD v17.toNat (0 : Int)) < (0 : Int))) = true, (decide (((d1.getD v13.toNat ([] : List Int)).getD v17.toNat (0 : Int)) < (0 : Int))) = true, (decide (((d1.getD v13.toNat ([] : List Int)).getD v17.toNat (0 : Int)) < (0 : Int))) = true] (by kernel_rfl) (by kernel_rfl) ⟨trivial, trivial, trivial, c135, trivial, trivial, c136, trivial, trivial, trivial, hb54, hb54, hb54, hb54, hb54, hb54, hb54, hb54, hb54, hb54, hb54, trivial⟩ ?_
                    obtain rfl := Option.some.inj h
                    exact postN_to (goal_le (gs := []) (f := [0]) (by kernel_rfl) (by kernel_rfl))
                  · replace h := h_else hb54 h
                    obtain ⟨c137, h⟩ := h_guard h
                    obtain ⟨c138, h⟩ := h_guard h
                    refine W_reg tbok ⟨[(9, false), (20, false)], []⟩ [] [0] [(1, .adr 0 0 2 0), (3, .p false (.int .i64) (d1.length : Int)), (4, .p false (.int .i64) v13), (5, .p false (.int .i64) v17), (65, .p false .bool (decide (((d1.getD v13.toNat ([] : List Int)).getD v17.toNat (0 : Int)) ≥ (d1.length : Int))))] [(0, .box [.p β0 (.slice (.slice (.int .i64))) d1, .p β1 (.slice (.int .u32)) d2])] 1 0 [True, True, True, 0 ≤ v13 ∧ v13 < (d1.length : Int), True, True, 0 ≤ v17 ∧ v17 < ((d1.getD v13.toNat ([] : List Int)).length : Int), True, True, True, (decide (((d1.getD v13.toNat ([] : List Int)).getD v17.toNat (0 : Int)) < (0 : Int))) = false ∧ True, (decide (((d1.getD v13.toNat ([] : List Int)).getD v17.toNat (0 : Int)) < (0 : Int))) = false ∧ True, (decide (((d1.getD v13.toNat ([] : List Int)).getD v17.toNat (0 : Int)) < (0 : Int))) = false ∧ True, (decide (((d1.getD v13.toNat ([] : List Int)).getD v17.toNat (0 : Int)) < (0 : Int))) = false ∧ 0 ≤ v13 ∧ v13 < (d1.length : Int), (decide (((d1.getD v13.toNat ([] : List Int)).getD v17.toNat (0 : Int)) < (0 : Int))) = false ∧ True, (decide (((d1.getD v13.toNat ([] : List Int)).getD v17.toNat (0 : Int)) < (0 : Int))) = false ∧ True, (decide (((d1.getD v13.toNat ([] : List Int)).getD v17.toNat (0 : Int)) < (0 : Int))) = false ∧ 0 ≤ v17 ∧ v17 < ((d1.getD v13.toNat ([] : List Int)).length : Int), (decide (((d1.getD v13.toNat ([] : List Int)).getD v17.toNat (0 : Int)) < (0 : Int))) = false ∧ True, (decide (((d1.getD v13.toNat ([] : List Int)).getD v17.toNat (0 : Int)) < (0 : Int))) = false ∧ True, (decide (((d1.getD v13.toNat ([] : List Int)).getD v17.toNat (0 : Int)) < (0 : Int))) = false ∧ True, (decide (((d1.getD v13.toNat ([] : List Int)).getD v17.toNat (0 : Int)) < (0 : Int))) = false] (by kernel_rfl) (by kernel_rfl) ⟨trivial, trivial, trivial, c135, trivial, trivial, c136, trivial, trivial, trivial, ⟨hb54, trivial⟩, ⟨hb54, trivial⟩, ⟨hb54, trivial⟩, ⟨hb54, c137⟩, ⟨hb54, trivial⟩, ⟨hb54, trivial⟩, ⟨hb54, c138⟩, ⟨hb54, trivial⟩, ⟨hb54, trivial⟩, ⟨hb54, trivial⟩, hb54, trivial⟩ ?_
                    obtain rfl := Option.some.inj h
                    exact postN_to (goal_le (gs := []) (f := [0]) (by kernel_rfl) (by kernel_rfl))
                · clear hp12
                  obtain ⟨rfl, hle⟩ := hq
                  refine use_to ?_ hle
                  refine to_then ?_
                  refine W_cond (b := v18) (β := false) (by kernel_rfl) (fun hb55 => ?_) (fun hb55 => ?_)
                  · replace h := h_if hb55 h
                    refine W_seq ?_
                    refine W_reg tbok ⟨[], []⟩ [] [] [(2, .p false .bool false)] [] 0 0 [True] (by kernel_rfl) (by kernel_rfl) ⟨trivial, trivial⟩ ?_
                    refine to_then ?_
                    refine W_ret ?_
                    obtain rfl := Option.some.inj h
                    refine blockQ_ret ?_
                    refine thenQ_ret ?_
                    refine round_ret ?_
                    refine postS_rr ?_
                    exact postR_mk (Ret_intro [.bool] (by kernel_rfl))
                  · replace h := h_else hb55 h
                    refine W_skip_to ?_
                    refine to_block ?_
                    refine to_then ?_
                    refine W_reg tbok ⟨[], []⟩ [] [0] [(1, .adr 0 0 2 0), (3, .p false (.int .i64) (d1.length : Int)), (4, .p false (.int .i64) v13), (5, .p false (.int .i64) (IntKind.i64.wrap (v17 + (1 : Int))))] [(0, .box [.p β0 (.slice (.slice (.int .i64))) d1, .p β1 (.slice (.int .u32)) d2])] 1 0 [True, True, True] (by kernel_rfl) (by kernel_rfl) ⟨trivial, trivial, trivial, trivial⟩ ?_
                    obtain rfl := Option.some.inj h
                    exact roundB (goal_le (gs := []) (f := [0]) (by kernel_rfl) (by kernel_rfl))
              · replace h := h_else hb51 h
                refine W_exit_to ?_
                refine thenE ?_
                obtain rfl := Option.some.inj h
                refine roundE ?_
                refine postS_l ?_
                exact postX_to (goal_le (gs := []) (f := [0]) (by kernel_rfl) (by kernel_rfl))
            · clear hp13
              rcases r7 with _ | r6
              · obtain ⟨rfl, hle⟩ := hq
                refine use_to ?_ hle
                refine blockE_eq ?_
                refine to_block ?_
                refine to_then ?_
                refine W_reg tbok ⟨[], []⟩ [] [0] [(1, .adr 0 0 2 0), (3, .p false (.int .i64) (d1.length : Int)), (4, .p false (.int .i64) (IntKind.i64.wrap (v13 + (1 : Int))))] [(0, .box [.p β0 (.slice (.slice (.int .i64))) d1, .p β1 (.slice (.int .u32)) d2])] 1 0 [True, True, True] (by kernel_rfl) (by kernel_rfl) ⟨trivial, trivial, trivial, trivial⟩ ?_
                obtain rfl := Option.some.inj h
                exact roundB (goal_le (gs := []) (f := [0]) (by kernel_rfl) (by kernel_rfl))
              · obtain ⟨rfl, hr⟩ := hq
                obtain rfl := Option.some.inj h
                refine blockQ_ret ?_
                refine blockQ_ret ?_
                refine thenQ_ret ?_
                refine round_ret ?_
                refine postS_rr ?_
                exact postR_mk hr
        · replace h := h_else hb39 h
          refine W_exit_to ?_
          refine thenE ?_
          obtain rfl := Option.some.inj h
          refine roundE ?_
          refine postS_l ?_
          exact postX_to (goal_le (gs := []) (f := []) (by kernel_rfl) (by kernel_rfl))
      · clear hp14
        rcases r8 with _ | r5
        · obtain ⟨rfl, hle⟩ := hq
          refine use_to ?_ hle
          refine blockE_eq ?_
          refine to_then ?_
          refine W_seq ?_
          refine W_reg tbok ⟨[], []⟩ [] [] [(2, .p false .bool true)] [] 0 0 [True] (by kernel_rfl) (by kernel_rfl) ⟨trivial, trivial⟩ ?_
          refine to_then ?_
          refine W_ret ?_
          obtain rfl := Option.some.inj h
          exact Ret_intro [.bool] (by kernel_rfl)
        · obtain ⟨rfl, hr⟩ := hq
          refine blockQ_ret ?_
          refine thenQ_ret ?_
          obtain rfl := Option.some.inj h
          exact hr

/-- a loop of 'stanza/stanzalaw05.LeastChecks': one round -/
def stanzalaw05_LeastChecks_L1 (d1 : List (List Int)) : (Int) → Option ((Int) ⊕ ((Unit) ⊕ (Bool))) := fun (v2 : Int) =>
  (if (decide (v2 < (d1.length : Int))) = true then (if 0 ≤ v2 ∧ v2 < (d1.length : Int) then (if (decide (((d1.getD v2.toNat ([] : List Int)).length : Int) > (100 : Int))) = true then some (Sum.inr (Sum.inr true))
  else some (Sum.inl (IntKind.i64.wrap (v2 + (1 : Int))))) else none)
  else some (Sum.inr (Sum.inl ())))

/-- 'stanza/stanzalaw05.LeastChecks' -/
def stanzalaw05_LeastChecks (d1 : List (List Int)) (d2 : List Int) : Option (Bool) :=
  ((stanzalaw05_Awake).bind fun (r2 : Bool) =>
  (if (!r2) = true then some false
  else (if (decide ((d1.length : Int) > (100 : Int))) = true then some true
  else ((iter (stanzalaw05_LeastChecks_L1 d1) (0 : Int)).bind fun (r4 : ((Unit) ⊕ (Bool))) => match r4 with
  | .inl _ => ((stanzaref04_Check d1 d2).bind fun (r6 : Bool) =>
  ((least_Make d1 d2).bind fun ((r9, r10) : ((List (List Int)) × List Int) × Int) =>
  ((((least_Check d1 d2).bind fun (r21 : Bool) =>
  (if (r21 == r6) = true then (if ((r10 == (0 : Int)) == r6) = true then (if r6 = true then (if (!r6) = true then some (true)
  else ((stanzaref04_Least d1 d2).bind fun (r22 : (List (List Int)) × List Int) =>
  ((stanzaref04_SameAuto r9.1 r9.2 r22.1 r22.2).bind fun (r23 : Bool) =>
  some (r23))))
  else (if (r10 == (2 : Int)) = true then (if ((r9.1.length : Int) == (0 : Int)) = true then (if (!r6) = true then some (true)
  else ((stanzaref04_Least d1 d2).bind fun (r24 : (List (List Int)) × List Int) =>
  ((stanzaref04_SameAuto r9.1 r9.2 r24.1 r24.2).bind fun (r25 : Bool) =>
  some (r25))))
  else some (false))
  else some (false)))
  else some (false))
  else some (false)))).bind fun (v3 : Bool) => some v3)))
  | .inr (r3) => some r3))))

set_option maxRecDepth 100000 in
set_option maxHeartbeats 4000000 in
theorem stanzalaw05_LeastChecks_ok (β0 β1 : Bool) (d1 : List (List Int)) (d2 : List Int) (res : Bool) (h : stanzalaw05_LeastChecks d1 d2 = some res) :
    Pure Try.prog 4 [.agg [.p β0 (.slice (.slice (.int .i64))) d1, .p β1 (.slice (.int .u32)) d2]] (wrapR (encs false [⟨.bool, res⟩])) := by
  refine Pure.of_body tbok Try.func4 (by kernel_rfl) rfl (Nat.le_of_ble_eq_true rfl) (fun Bw w0 => ?_) rfl
  unfold stanzalaw05_LeastChecks at h
  refine W_seq ?_
  refine W_reg tbok ⟨[], []⟩ [] [0] [(1, .adr 0 0 2 0)] [(0, .box [.p β0 (.slice (.slice (.int .i64))) d1, .p β1 (.slice (.int .u32)) d2])] 1 0 [True, True] (by kernel_rfl) (by kernel_rfl) ⟨trivial, trivial, trivial⟩ ?_
  refine to_then ?_
  refine W_seq ?_
  refine W_seq ?_
  obtain ⟨r2, q2, h⟩ := h_bind h
  refine W_reg tbok ⟨[], [(0, ⟨.p false .bool r2, [], false, [], [], []⟩)]⟩ [] [0] [(1, .adr 0 0 2 0), (9, .p false .bool (!r2))] [(0, .box [.p β0 (.slice (.slice (.int .i64))) d1, .p β1 (.slice (.int .u32)) d2])] 1 0 [Pure Try.prog 8 [] (.p false .bool r2), True] (by kernel_rfl) (by kernel_rfl) ⟨(stanzalaw05_Awake_ok _ q2), trivial, trivial⟩ ?_
  refine to_then ?_
  refine W_cond (b := (!r2)) (β := false) (by kernel_rfl) (fun hb1 => ?_) (fun hb1 => ?_)
  · replace h := h_if hb1 h
    refine W_seq ?_
    refine W_reg tbok ⟨[], []⟩ [] [] [(2, .p false .bool false)] [] 0 0 [True] (by kernel_rfl) (by kernel_rfl) ⟨trivial, trivial⟩ ?_
    refine to_then ?_
    refine W_ret ?_
    refine thenQ_ret ?_
    obtain rfl := Option.some.inj h
    exact Ret_intro [.bool] (by kernel_rfl)
  · replace h := h_else hb1 h
    refine W_skip_to ?_
    refine to_then ?_
    refine W_seq ?_
    refine W_seq ?_
    refine W_reg tbok ⟨[], []⟩ [] [0] [(1, .adr 0 0 2 0), (13, .p false .bool (decide ((d1.length : Int) > (100 : Int))))] [(0, .box [.p β0 (.slice (.slice (.int .i64))) d1, .p β1 (.slice (.int .u32)) d2])] 1 0 [True, True, True, True] (by kernel_rfl) (by kernel_rfl) ⟨trivial, trivial, trivial, trivial, trivial⟩ ?_
    refine to_then ?_
    refine W_cond (b := (decide ((d1.length : Int) > (100 : Int)))) (β := false) (by kernel_rfl) (fun hb2 => ?_) (fun hb2 => ?_)
    · replace h := h_if hb2 h
      refine W_seq ?_
      refine W_reg tbok ⟨[], []⟩ [] [] [(2, .p false .bool true)] [] 0 0 [True] (by kernel_rfl) (by kernel_rfl) ⟨trivial, trivial⟩ ?_
      refine to_then ?_
      refine W_ret ?_
      refine thenQ_ret ?_
      obtain rfl := Option.some.inj h
      exact Ret_intro [.bool] (by kernel_rfl)
    · replace h := h_else hb2 h
      refine W_skip_to ?_
      refine to_then ?_
      refine W_seq ?_
      refine W_seq ?_
      refine W_reg tbok ⟨[], []⟩ [] [0] [(1, .adr 0 0 2 0), (15, .p β0 (.slice (.slice (.int .i64))) d1), (16, .p false (.int .i64) (d1.length : Int)), (17, .p false (.int .i64) (0 : Int))] [(0, .box [.p β0 (.slice (.slice (.int .i64))) d1, .p β1 (.slice (.int .u32)) d2])] 1 0 [True, True, True, True] (by kernel_rfl) (by kernel_rfl) ⟨trivial, trivial, trivial, trivial, trivial⟩ ?_
      refine to_then ?_
      refine W_block ?_
      obtain ⟨r4, hp1, h⟩ := h_bind h
      refine W.mono (Q := (postS (postX Try.f4.ntmps 0 (fun (_ : Unit) => mkSt [(1, .adr 0 0 2 0)] [(0, .box [.p β0 (.slice (.slice (.int .i64))) d1, .p β1 (.slice (.int .u32)) d2])] 1)) (postR tb Try.f4.results.toList (fun (r3 : Bool) => [⟨.bool, r3⟩]))) r4) (W_iter (f := fun (v2 : Int) => mkSt [(1, .adr 0 0 2 0), (15, .p β0 (.slice (.slice (.int .i64))) d1), (16, .p false (.int .i64) (d1.length : Int)), (17, .p false (.int .i64) v2)] [(0, .box [.p β0 (.slice (.slice (.int .i64))) d1, .p β1 (.slice (.int .u32)) d2])] 1) (Q := (postS (postX Try.f4.ntmps 0 (fun (_ : Unit) => mkSt [(1, .adr 0 0 2 0)] [(0, .box [.p β0 (.slice (.slice (.int .i64))) d1, .p β1 (.slice (.int .u32)) d2])] 1)) (postR tb Try.f4.results.toList (fun (r3 : Bool) => [⟨.bool, r3⟩])))) hp1 (goal_le (gs := []) (f := [0]) (by kernel_rfl) (by kernel_rfl)) (fun v2 o ho => ?_)) (fun e σ' hq => ?_)
      · replace h := ho
        clear ho hp1
        unfold stanzalaw05_LeastChecks_L1 at h
        refine W_seq ?_
        refine W_reg tbok ⟨[], []⟩ [] [0] [(1, .adr 0 0 2 0), (15, .p β0 (.slice (.slice (.int .i64))) d1), (16, .p false (.int .i64) (d1.length : Int)), (17, .p false (.int .i64) v2), (18, .p false .bool (decide (v2 < (d1.length : Int))))] [(0, .box [.p β0 (.slice (.slice (.int .i64))) d1, .p β1 (.slice (.int .u32)) d2])] 1 0 [True] (by kernel_rfl) (by kernel_rfl) ⟨trivial, trivial⟩ ?_
        refine to_then ?_
        refine W_seq ?_
        refine W_cond (b := (decide (v2 < (d1.length : Int)))) (β := false) (by kernel_rfl) (fun hb7 => ?_) (fun hb7 => ?_)
        · replace h := h_if hb7 h
          refine W_skip_to ?_
          refine to_then ?_
          refine W_seq ?_
          refine W_block ?_
          refine W_seq ?_
          obtain ⟨c6, h⟩ := h_guard h
          refine W_reg tbok ⟨[], []⟩ [] [0] [(1, .adr 0 0 2 0), (4, .p β0 (.slice (.int .i64)) (d1.getD v2.toNat ([] : List Int))), (15, .p β0 (.slice (.slice (.int .i64))) d1), (16, .p false (.int .i64) (d1.length : Int)), (17, .p false (.int .i64) v2)] [(0, .box [.p β0 (.slice (.slice (.int .i64))) d1, .p β1 (.slice (.int .u32)) d2])] 1 0 [0 ≤ v2 ∧ v2 < (d1.length : Int), True, True] (by kernel_rfl) (by kernel_rfl) ⟨c6, trivial, trivial, trivial⟩ ?_
          refine to_then ?_
          refine W_seq ?_
          refine W_reg tbok ⟨[], []⟩ [] [0] [(1, .adr 0 0 2 0), (15, .p β0 (.slice (.slice (.int .i64))) d1), (16, .p false (.int .i64) (d1.length : Int)), (17, .p false (.int .i64) v2), (23, .p false .bool (decide (((d1.getD v2.toNat ([] : List Int)).length : Int) > (100 : Int))))] [(0, .box [.p β0 (.slice (.slice (.int .i64))) d1, .p β1 (.slice (.int .u32)) d2])] 1 0 [True, True, True] (by kernel_rfl) (by kernel_rfl) ⟨trivial, trivial, trivial, trivial⟩ ?_
          refine to_then ?_
          refine W_cond (b := (decide (((d1.getD v2.toNat ([] : List Int)).length : Int) > (100 : Int)))) (β := false) (by kernel_rfl) (fun hb8 => ?_) (fun hb8 => ?_)
          · replace h := h_if hb8 h
            refine W_seq ?_
            refine W_reg tbok ⟨[], []⟩ [] [] [(2, .p false .bool true)] [] 0 0 [True] (by kernel_rfl) (by kernel_rfl) ⟨trivial, trivial⟩ ?_
            refine to_then ?_
            refine W_ret ?_
            obtain rfl := Option.some.inj h
            refine blockQ_ret ?_
            refine thenQ_ret ?_
            refine round_ret ?_
            refine postS_rr ?_
            exact postR_mk (Ret_intro [.bool] (by kernel_rfl))
          · replace h := h_else hb8 h
            refine W_skip_to ?_
            refine to_block ?_
            refine to_then ?_
            refine W_reg tbok ⟨[], []⟩ [] [0] [(1, .adr 0 0 2 0), (15, .p β0 (.slice (.slice (.int .i64))) d1), (16, .p false (.int .i64) (d1.length : Int)), (17, .p false (.int .i64) (IntKind.i64.wrap (v2 + (1 : Int))))] [(0, .box [.p β0 (.slice (.slice (.int .i64))) d1, .p β1 (.slice (.int .u32)) d2])] 1 0 [True, True] (by kernel_rfl) (by kernel_rfl) ⟨trivial, trivial, trivial⟩ ?_
            obtain rfl := Option.some.inj h
            exact roundB (goal_le (gs := []) (f := [0]) (by kernel_rfl) (by kernel_rfl))
        · replace h := h_else hb7 h
          refine W_exit_to ?_
          refine thenE ?_
          obtain rfl := Option.some.inj h
          refine roundE ?_
          refine postS_l ?_
          exact postX_to (goal_le (gs := []) (f := [0]) (by kernel_rfl) (by kernel_rfl))
      · clear hp1
        rcases r4 with _ | r3
        · obtain ⟨rfl, hle⟩ := hq
          refine use_to ?_ hle
          refine blockE_eq ?_
          refine to_then ?_
          refine W_seq ?_
          obtain ⟨r6, q4, h⟩ := h_bind h
          refine W_reg tbok ⟨[], [(1, ⟨.p false .bool r6, [false], false, [true], [], []⟩)]⟩ [] [0] [(1, .adr 0 0 2 0), (5, .p false .bool r6)] [(0, .box [.p β0 (.slice (.slice (.int .i64))) d1, .p β1 (.slice (.int .u32)) d2])] 1 0 [True, Pure Try.prog 15 [.agg [.p β0 (.slice (.slice (.int .i64))) d1, .p β1 (.slice (.int .u32)) d2]] (.p false .bool r6), True] (by kernel_rfl) (by kernel_rfl) ⟨trivial, (stanzaref04_Check_ok β0 β1 d1 d2 _ q4), trivial, trivial⟩ ?_
          refine to_then ?_
          refine W_seq ?_
          obtain ⟨⟨r9, r10⟩, q6, h⟩ := h_bind h
          refine W_reg tbok ⟨[], [(1, ⟨.tup [.agg [.p false (.slice (.slice (.int .i64))) r9.1, .p false (.slice (.int .u32)) r9.2], .p false (.int .i64) r10], [false], false, [true], [], []⟩)]⟩ [] [0, 41] [(1, .adr 0 0 2 0), (5, .p false .bool r6), (6, .adr 1 0 2 0), (7, .p false (.int .i64) r10)] [(0, .box [.p β0 (.slice (.slice (.int .i64))) d1, .p β1 (.slice (.int .u32)) d2]), (1, .box [.p false (.slice (.slice (.int .i64))) r9.1, .p false (.slice (.int .u32)) r9.2])] 2 0 [True, Pure Try.prog 12 [.agg [.p β0 (.slice (.slice (.int .i64))) d1, .p β1 (.slice (.int .u32)) d2]] (.tup [.agg [.p false (.slice (.slice (.int .i64))) r9.1, .p false (.slice (.int .u32)) r9.2], .p false (.int .i64) r10]), True, True, True, True, True, True] (by kernel_rfl) (by kernel_rfl) ⟨trivial, (least_Make_ok β0 β1 d1 d2 _ q6), trivial, trivial, trivial, trivial, trivial, trivial, trivial⟩ ?_
          refine to_then ?_
          refine W_seq ?_
          obtain ⟨v3, hp2, h⟩ := h_bind h
          refine W.mono (Q := (postN Try.f4.ntmps (fun (v3 : Bool) => mkSt [(2, .p false .bool v3)] [] 0)) v3) ?_ (fun e σ' hq => ?_)
          · replace h := hp2
            clear hp2
            obtain ⟨r21, q17, h⟩ := h_bind h
            rcases Bool.eq_false_or_eq_true (r21 == r6) with hb23 | hb23
            · replace h := h_if hb23 h
              rcases Bool.eq_false_or_eq_true ((r10 == (0 : Int)) == r6) with hb24 | hb24
              · replace h := h_if hb24 h
                rcases Bool.eq_false_or_eq_true r6 with hb25 | hb25
                · replace h := h_if hb25 h
                  rcases Bool.eq_false_or_eq_true (!r6) with hb26 | hb26
                  · replace h := h_if hb26 h
                    refine W_regD tbok mixed ⟨[(4, true), (9, true), (10, true), (12, true), (21, true), (22, true), (23, true), (26, true), (31, true), (32, true)], [(1, ⟨.p false .bool r21, [false], false, [true], [], []⟩)]⟩ [] [] [(2, .p false .bool true)] [] 0 0 [True, Pure Try.prog 10 [.agg [.p β0 (.slice (.slice (.int .i64))) d1, .p β1 (.slice (.int .u32)) d2]] (.p false .bool r21), True, True, True, (r21 == r6) = true ∧ True, (r21 == r6) = true ∧ True, (r21 == r6) = true ∧ True, (r21 == r6) = true ∧ True, (r21 == r6) = true, True, ((r10 == (0 : Int)) == r6) = true ∧ True, ((r10 == (0 : Int)) == r6) = true ∧ True, r6 = true, r6 = true, r6 = true, True, True, True, True, r6 = true, ((r10 == (0 : Int)) == r6) = true ∧ r6 = true, ((r10 == (0 : Int)) == r6) = true, True, true = true ∧ True, true = true ∧ True, true = true ∧ True, (!r6) = true, (!r6) = true, (!r6) = true, (!r6) = true, true = true ∧ (!r6) = true, true = true, True] (by kernel_rfl) (by kernel_rfl) ⟨trivial, (least_Check_ok β0 β1 d1 d2 _ q17), trivial, trivial, trivial, ⟨hb23, trivial⟩, ⟨hb23, trivial⟩, ⟨hb23, trivial⟩, ⟨hb23, trivial⟩, hb23, trivial, ⟨hb24, trivial⟩, ⟨hb24, trivial⟩, hb25, hb25, hb25, trivial, trivial, trivial, trivial, hb25, ⟨hb24, hb25⟩, hb24, trivial, ⟨rfl, trivial⟩, ⟨rfl, trivial⟩, ⟨rfl, trivial⟩, hb26, hb26, hb26, hb26, ⟨rfl, hb26⟩, rfl, trivial, trivial⟩ ?_
                    obtain rfl := Option.some.inj h
                    exact postN_to (goal_le (gs := []) (f := []) (by kernel_rfl) (by kernel_rfl))
                  · replace h := h_else hb26 h
                    obtain ⟨r22, q18, h⟩ := h_bind h
                    obtain ⟨r23, q19, h⟩ := h_bind h
                    refine W_regD tbok mixed ⟨[(4, true), (9, true), (10, true), (12, true), (21, true), (22, true), (23, true), (26, false), (31, false), (32, true)], [(1, ⟨.p false .bool r21, [false], false, [true], [], []⟩), (29, ⟨.agg [.p false (.slice (.slice (.int .i64))) r22.1, .p false (.slice (.int .u32)) r22.2], [false], false, [true], [], []⟩), (30, ⟨.p false .bool r23, [false, false], false, [true, true], [], []⟩)]⟩ [] [] [(2, .p false .bool r23)] [] 0 0 [True, Pure Try.prog 10 [.agg [.p β0 (.slice (.slice (.int .i64))) d1, .p β1 (.slice (.int .u32)) d2]] (.p false .bool r21), True, True, True, (r21 == r6) = true ∧ True, (r21 == r6) = true ∧ True, (r21 == r6) = true ∧ True, (r21 == r6) = true ∧ True, (r21 == r6) = true, True, ((r10 == (0 : Int)) == r6) = true ∧ True, ((r10 == (0 : Int)) == r6) = true ∧ True, r6 = true, r6 = true, r6 = true, True, True, True, True, r6 = true, ((r10 == (0 : Int)) == r6) = true ∧ r6 = true, ((r10 == (0 : Int)) == r6) = true, True, true = true ∧ True, true = true ∧ True, true = true ∧ True, (!r6) = false ∧ True, (!r6) = false ∧ True, (!r6) = false ∧ Pure Try.prog 14 [.agg [.p β0 (.slice (.slice (.int .i64))) d1, .p β1 (.slice (.int .u32)) d2]] (.agg [.p false (.slice (.slice (.int .i64))) r22.1, .p false (.slice (.int .u32)) r22.2]), (!r6) = false ∧ Pure Try.prog 13 [.agg [.p false (.slice (.slice (.int .i64))) r9.1, .p false (.slice (.int .u32)) r9.2], .agg [.p false (.slice (.slice (.int .i64))) r22.1, .p false (.slice (.int .u32)) r22.2]] (.p false .bool r23), true = true ∧ (!r6) = false, true = true, True] (by kernel_rfl) (by kernel_rfl) ⟨trivial, (least_Check_ok β0 β1 d1 d2 _ q17), trivial, trivial, trivial, ⟨hb23, trivial⟩, ⟨hb23, trivial⟩, ⟨hb23, trivial⟩, ⟨hb23, trivial⟩, hb23, trivial, ⟨hb24, trivial⟩, ⟨hb24, trivial⟩, hb25, hb25, hb25, trivial, trivial, trivial, trivial, hb25, ⟨hb24, hb25⟩, hb24, trivial, ⟨rfl, trivial⟩, ⟨rfl, trivial⟩, ⟨rfl, trivial⟩, ⟨hb26, trivial⟩, ⟨hb26, trivial⟩, ⟨hb26, (stanzaref04_Least_ok β0 β1 d1 d2 _ q18)⟩, ⟨hb26, (stanzaref04_SameAuto_ok false false false false r9.1 r9.2 r22.1 r22.2 _ q19)⟩, ⟨rfl, hb26⟩, rfl, trivial, trivial⟩ ?_
                    obtain rfl := Option.some.inj h
                    exact postN_to (goal_le (gs := []) (f := []) (by kernel_rfl) (by kernel_rfl))
                · replace h := h_else hb25 h
                  rcases Bool.eq_false_or_eq_true (r10 == (2 : Int)) with hb27 | hb27
                  · replace h := h_if hb27 h
                    rcases Bool.eq_false_or_eq_true ((r9.1.length : Int) == (0 : Int)) with hb28 | hb28
                    · replace h := h_if hb28 h
                      rcases Bool.eq_false_or_eq_true (!r6) with hb29 | hb29
                      · replace h := h_if hb29 h
                        refine W_regD tbok mixed ⟨[(4, true), (9, true), (10, true), (12, false), (15, true), (20, true), (21, false), (22, true), (23, true), (26, true), (31, true), (32, true)], [(1, ⟨.p false .bool r21, [false], false, [true], [], []⟩)]⟩ [] [] [(2, .p false .bool true)] [] 0 0 [True, Pure Try.prog 10 [.agg [.p β0 (.slice (.slice (.int .i64))) d1, .p β1 (.slice (.int .u32)) d2]] (.p false .bool r21), True, True, True, (r21 == r6) = true ∧ True, (r21 == r6) = true ∧ True, (r21 == r6) = true ∧ True, (r21 == r6) = true ∧ True, (r21 == r6) = true, True, ((r10 == (0 : Int)) == r6) = true ∧ True, ((r10 == (0 : Int)) == r6) = true ∧ True, r6 = false ∧ True, r6 = false ∧ True, r6 = false ∧ True, (r10 == (2 : Int)) = true ∧ True, (r10 == (2 : Int)) = true ∧ True, (r10 == (2 : Int)) = true ∧ True, (r10 == (2 : Int)) = true ∧ True, r6 = false ∧ (r10 == (2 : Int)) = true, ((r10 == (0 : Int)) == r6) = true ∧ r6 = false, ((r10 == (0 : Int)) == r6) = true, True, ((r9.1.length : Int) == (0 : Int)) = true ∧ True, ((r9.1.length : Int) == (0 : Int)) = true ∧ True, ((r9.1.length : Int) == (0 : Int)) = true ∧ True, (!r6) = true, (!r6) = true, (!r6) = true, (!r6) = true, ((r9.1.length : Int) == (0 : Int)) = true ∧ (!r6) = true, ((r9.1.length : Int) == (0 : Int)) = true, True] (by kernel_rfl) (by kernel_rfl) ⟨trivial, (least_Check_ok β0 β1 d1 d2 _ q17), trivial, trivial, trivial, ⟨hb23, trivial⟩, ⟨hb23, trivial⟩, ⟨hb23, trivial⟩, ⟨hb23, trivial⟩, hb23, trivial, ⟨hb24, trivial⟩, ⟨hb24, trivial⟩, ⟨hb25, trivial⟩, ⟨hb25, trivial⟩, ⟨hb25, trivial⟩, ⟨hb27, trivial⟩, ⟨hb27, trivial⟩, ⟨hb27, trivial⟩, ⟨hb27, trivial⟩, ⟨hb25, hb27⟩, ⟨hb24, hb25⟩, hb24, trivial, ⟨hb28, trivial⟩, ⟨hb28, trivial⟩, ⟨hb28, trivial⟩, hb29, hb29, hb29, hb29, ⟨hb28, hb29⟩, hb28, trivial, trivial⟩ ?_
                        obtain rfl := Option.some.inj h
                        exact postN_to (goal_le (gs := []) (f := []) (by kernel_rfl) (by kernel_rfl))
                      · replace h := h_else hb29 h
                        obtain ⟨r24, q20, h⟩ := h_bind h
                        obtain ⟨r25, q21, h⟩ := h_bind h
                        refine W_regD tbok mixed ⟨[(4, true), (9, true), (10, true), (12, false), (15, true), (20, true), (21, false), (22, true), (23, true), (26, false), (31, false), (32, true)], [(1, ⟨.p false .bool r21, [false], false, [true], [], []⟩), (29, ⟨.agg [.p false (.slice (.slice (.int .i64))) r24.1, .p false (.slice (.int .u32)) r24.2], [false], false, [true], [], []⟩), (30, ⟨.p false .bool r25, [false, false], false, [true, true], [], []⟩)]⟩ [] [] [(2, .p false .bool r25)] [] 0 0 [True, Pure Try.prog 10 [.agg [.p β0 (.slice (.slice (.int .i64))) d1, .p β1 (.slice (.int .u32)) d2]] (.p false .bool r21), True, True, True, (r21 == r6) = true ∧ True, (r21 == r6) = true ∧ True, (r21 == r6) = true ∧ True, (r21 == r6) = true ∧ True, (r21 == r6) = true, True, ((r10 == (0 : Int)) == r6) = true ∧ True, ((r10 == (0 : Int)) == r6) = true ∧ True, r6 = false ∧ True, r6 = false ∧ True, r6 = false ∧ True, (r10 == (2 : Int)) = true ∧ True, (r10 == (2 : Int)) = true ∧ True, (r10 == (2 : Int)) = true ∧ True, (r10 == (2 : Int)) = true ∧ True, r6 = false ∧ (r10 == (2 : Int)) = true, ((r10 == (0 : Int)) == r6) = true ∧ r6 = false, ((r10 == (0 : Int)) == r6) = true, True, ((r9.1.length : Int) == (0 : Int)) = true ∧ True, ((r9.1.length : Int) == (0 : Int)) = true ∧ True, ((r9.1.length : Int) == (0 : Int)) = true ∧ True, (!r6) = false ∧ True, (!r6) = false ∧ True, (!r6) = false ∧ Pure Try.prog 14 [.agg [.p β0 (.slice (.slice (.int .i64))) d1, .p β1 (.slice (.int .u32)) d2]] (.agg [.p false (.slice (.slice (.int .i64))) r24.1, .p false (.slice (.int .u32)) r24.2]), (!r6) = false ∧ Pure Try.prog 13 [.agg [.p false (.slice (.slice (.int .i64))) r9.1, .p false (.slice (.int .u32)) r9.2], .agg [.p false (.slice (.slice (.int .i64))) r24.1, .p false (.slice (.int .u32)) r24.2]] (.p false .bool r25), ((r9.1.length : Int) == (0 : Int)) = true ∧ (!r6) = false, ((r9.1.length : Int) == (0 : Int)) = true, True] (by kernel_rfl) (by kernel_rfl) ⟨trivial, (least_Check_ok β0 β1 d1 d2 _ q17), trivial, trivial, trivial, ⟨hb23, trivial⟩, ⟨hb23, trivial⟩, ⟨hb23, trivial⟩, ⟨hb23, trivial⟩, hb23, trivial, ⟨hb24, trivial⟩, ⟨hb24, trivial⟩, ⟨hb25, trivial⟩, ⟨hb25, trivial⟩, ⟨hb25, trivial⟩, ⟨hb27, trivial⟩, ⟨hb27, trivial⟩, ⟨hb27, trivial⟩, ⟨hb27, trivial⟩, ⟨hb25, hb27⟩, ⟨hb24, hb25⟩, hb24, trivial, ⟨hb28, trivial⟩, ⟨hb28, trivial⟩, ⟨hb28, trivial⟩, ⟨hb29, trivial⟩, ⟨hb29, trivial⟩, ⟨hb29, (stanzaref04_Least_ok β0 β1 d1 d2 _ q20)⟩, ⟨hb29, (stanzaref04_SameAuto_ok false false false false r9.1 r9.2 r24.1 r24.2 _ q21)⟩, ⟨hb28, hb29⟩, hb28, trivial, trivial⟩ ?_
                        obtain rfl := Option.some.inj h
                        exact postN_to (goal_le (gs := []) (f := []) (by kernel_rfl) (by kernel_rfl))
                    · replace h := h_else hb28 h
                      refine W_regD tbok mixed ⟨[(4, true), (9, true), (10, true), (12, false), (15, true), (20, true), (21, false), (22, true), (23, false), (32, false)], [(1, ⟨.p false .bool r21, [false], false, [true], [], []⟩)]⟩ [] [] [(2, .p false .bool false)] [] 0 0 [True, Pure Try.prog 10 [.agg [.p β0 (.slice (.slice (.int .i64))) d1, .p β1 (.slice (.int .u32)) d2]] (.p false .bool r21), True, True, True, (r21 == r6) = true ∧ True, (r21 == r6) = true ∧ True, (r21 == r6) = true ∧ True, (r21 == r6) = true ∧ True, (r21 == r6) = true, True, ((r10 == (0 : Int)) == r6) = true ∧ True, ((r10 == (0 : Int)) == r6) = true ∧ True, r6 = false ∧ True, r6 = false ∧ True, r6 = false ∧ True, (r10 == (2 : Int)) = true ∧ True, (r10 == (2 : Int)) = true ∧ True, (r10 == (2 : Int)) = true ∧ True, (r10 == (2 : Int)) = true ∧ True, r6 = false ∧ (r10 == (2 : Int)) = true, ((r10 == (0 : Int)) == r6) = true ∧ r6 = false, ((r10 == (0 : Int)) == r6) = true, True, ((r9.1.length : Int) == (0 : Int)) = false, ((r9.1.length : Int) == (0 : Int)) = false, ((r9.1.length : Int) == (0 : Int)) = false, True, True, True, True, ((r9.1.length : Int) == (0 : Int)) = false, ((r9.1.length : Int) == (0 : Int)) = false, True] (by kernel_rfl) (by kernel_rfl) ⟨trivial, (least_Check_ok β0 β1 d1 d2 _ q17), trivial, trivial, trivial, ⟨hb23, trivial⟩, ⟨hb23, trivial⟩, ⟨hb23, trivial⟩, ⟨hb23, trivial⟩, hb23, trivial, ⟨hb24, trivial⟩, ⟨hb24, trivial⟩, ⟨hb25, trivial⟩, ⟨hb25, trivial⟩, ⟨hb25, trivial⟩, ⟨hb27, trivial⟩, ⟨hb27, trivial⟩, ⟨hb27, trivial⟩, ⟨hb27, trivial⟩, ⟨hb25, hb27⟩, ⟨hb24, hb25⟩, hb24, trivial, hb28, hb28, hb28, trivial, trivial, trivial, trivial, hb28, hb28, trivial, trivial⟩ ?_
                      obtain rfl := Option.some.inj h
                      exact postN_to (goal_le (gs := []) (f := []) (by kernel_rfl) (by kernel_rfl))
                  · replace h := h_else hb27 h
                    refine W_regD tbok mixed ⟨[(4, true), (9, true), (10, true), (12, false), (15, false), (20, false), (21, false), (22, true), (23, false), (32, false)], [(1, ⟨.p false .bool r21, [false], false, [true], [], []⟩)]⟩ [] [] [(2, .p false .bool false)] [] 0 0 [True, Pure Try.prog 10 [.agg [.p β0 (.slice (.slice (.int .i64))) d1, .p β1 (.slice (.int .u32)) d2]] (.p false .bool r21), True, True, True, (r21 == r6) = true ∧ True, (r21 == r6) = true ∧ True, (r21 == r6) = true ∧ True, (r21 == r6) = true ∧ True, (r21 == r6) = true, True, ((r10 == (0 : Int)) == r6) = true ∧ True, ((r10 == (0 : Int)) == r6) = true ∧ True, r6 = false ∧ True, r6 = false ∧ True, r6 = false ∧ True, (r10 == (2 : Int)) = false, (r10 == (2 : Int)) = false, (r10 == (2 : Int)) = false, (r10 == (2 : Int)) = false, r6 = false ∧ (r10 == (2 : Int)) = false, ((r10 == (0 : Int)) == r6) = true ∧ r6 = false, ((r10 == (0 : Int)) == r6) = true, True, false = false, false = false, false = false, True, True, True, True, false = false, false = false, True] (by kernel_rfl) (by kernel_rfl) ⟨trivial, (least_Check_ok β0 β1 d1 d2 _ q17), trivial, trivial, trivial, ⟨hb23, trivial⟩, ⟨hb23, trivial⟩, ⟨hb23, trivial⟩, ⟨hb23, trivial⟩, hb23, trivial, ⟨hb24, trivial⟩, ⟨hb24, trivial⟩, ⟨hb25, trivial⟩, ⟨hb25, trivial⟩, ⟨hb25, trivial⟩, hb27, hb27, hb27, hb27, ⟨hb25, hb27⟩, ⟨hb24, hb25⟩, hb24, trivial, rfl, rfl, rfl, trivial, trivial, trivial, trivial, rfl, rfl, trivial, trivial⟩ ?_
                    obtain rfl := Option.some.inj h
                    exact postN_to (goal_le (gs := []) (f := []) (by kernel_rfl) (by kernel_rfl))
              · replace h := h_else hb24 h
                refine W_regD tbok mixed ⟨[(4, true), (9, true), (10, false), (22, false), (23, false), (32, false)], [(1, ⟨.p false .bool r21, [false], false, [true], [], []⟩)]⟩ [] [] [(2, .p false .bool false)] [] 0 0 [True, Pure Try.prog 10 [.agg [.p β0 (.slice (.slice (.int .i64))) d1, .p β1 (.slice (.int .u32)) d2]] (.p false .bool r21), True, True, True, (r21 == r6) = true ∧ True, (r21 == r6) = true ∧ True, (r21 == r6) = true ∧ True, (r21 == r6) = true ∧ True, (r21 == r6) = true, True, ((r10 == (0 : Int)) == r6) = false, ((r10 == (0 : Int)) == r6) = false, True, True, True, True, True, True, True, True, ((r10 == (0 : Int)) == r6) = false, ((r10 == (0 : Int)) == r6) = false, True, false = false, false = false, false = false, True, True, True, True, false = false, false = false, True] (by kernel_rfl) (by kernel_rfl) ⟨trivial, (least_Check_ok β0 β1 d1 d2 _ q17), trivial, trivial, trivial, ⟨hb23, trivial⟩, ⟨hb23, trivial⟩, ⟨hb23, trivial⟩, ⟨hb23, trivial⟩, hb23, trivial, hb24, hb24, trivial, trivial, trivial, trivial, trivial, trivial, trivial, trivial, hb24, hb24, trivial, rfl, rfl, rfl, trivial, trivial, trivial, trivial, rfl, rfl, trivial, trivial⟩ ?_
                obtain rfl := Option.some.inj h
                exact postN_to (goal_le (gs := []) (f := []) (by kernel_rfl) (by kernel_rfl))
            · replace h := h_else hb23 h
              refine W_regD tbok mixed ⟨[(4, false), (9, false), (10, false), (22, false), (23, false), (32, false)], [(1, ⟨.p false .bool r21, [false], false, [true], [], []⟩)]⟩ [] [] [(2, .p false .bool false)] [] 0 0 [True, Pure Try.prog 10 [.agg [.p β0 (.slice (.slice (.int .i64))) d1, .p β1 (.slice (.int .u32)) d2]] (.p false .bool r21), True, True, True, (r21 == r6) = false, (r21 == r6) = false, (r21 == r6) = false, (r21 == r6) = false, (r21 == r6) = false, True, false = false, false = false, True, True, True, True, True, True, True, True, false = false, false = false, True, false = false, false = false, false = false, True, True, True, True, false = false, false = false, True] (by kernel_rfl) (by kernel_rfl) ⟨trivial, (least_Check_ok β0 β1 d1 d2 _ q17), trivial, trivial, trivial, hb23, hb23, hb23, hb23, hb23, trivial, rfl, rfl, trivial, trivial, trivial, trivial, trivial, trivial, trivial, trivial, rfl, rfl, trivial, rfl, rfl, rfl, trivial, trivial, trivial, trivial, rfl, rfl, trivial, trivial⟩ ?_
              obtain rfl := Option.some.inj h
              exact postN_to (goal_le (gs := []) (f := []) (by kernel_rfl) (by kernel_rfl))
          · clear hp2
            obtain ⟨rfl, hle⟩ := hq
            refine use_to ?_ hle
            refine to_then ?_
            refine W_ret ?_
            obtain rfl := Option.some.inj h
            exact Ret_intro [.bool] (by kernel_rfl)
        · obtain ⟨rfl, hr⟩ := hq
          refine blockQ_ret ?_
          refine thenQ_ret ?_
          obtain rfl := Option.some.inj h
          exact hr

end
end Go.Proofs.Ytnnbofkcfooljaa.T
