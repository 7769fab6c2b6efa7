/- Functions of the program as functions on data, and that the program's own come to them. -/
import Derived.Test.YtcdmdcfpjeomfaaTvT07x0
import Derived.Test.YtcdmdcfpjeomfaaTvT07xa
import Derived.Test.YtcdmdcfpjeomfaaTvT07xa1
namespace Go.Proofs.Ytcdmdcfpjeomfaa.T
open Go Go.Tv Go.Proofs
noncomputable section

/-- 'stanza/stanzaref01.length' -/
def stanzaref01_length (c1 : Int) : Option (Int) :=
  (if (decide (c1 < (128 : Int))) = true then some (1 : Int)
  else (((if (decide (c1 ≥ (194 : Int))) = true then some ((decide (c1 ≤ (223 : Int))))
  else some (false))).bind fun (v1 : Bool) => (if v1 = true then some (2 : Int)
  else (((if (decide (c1 ≥ (224 : Int))) = true then some ((decide (c1 ≤ (239 : Int))))
  else some (false))).bind fun (v2 : Bool) => (if v2 = true then some (3 : Int)
  else (((if (decide (c1 ≥ (240 : Int))) = true then some ((decide (c1 ≤ (244 : Int))))
  else some (false))).bind fun (v3 : Bool) => (if v3 = true then some (4 : Int)
  else some (0 : Int))))))))

set_option maxRecDepth 100000 in
set_option maxHeartbeats 4000000 in
theorem stanzaref01_length_ok (c1 : Int) (res : Int) (h : stanzaref01_length c1 = some res) :
    Pure Try.prog 33 [.p false (.int .u8) c1] (wrapR (encs false [⟨(.int .i64), res⟩])) := by
  refine Pure.of_body tbok Try.func33 (by kernel_rfl) rfl (Nat.le_of_ble_eq_true rfl) (fun Bw w0 => ?_) rfl
  unfold stanzaref01_length at h
  refine W_seq ?_
  refine W_reg tbok ⟨[], []⟩ [] [] [(0, .p false (.int .u8) c1)] [] 0 0 [True] (by kernel_rfl) (by kernel_rfl) ⟨trivial, trivial⟩ ?_
  refine to_then ?_
  refine W_seq ?_
  refine W_block ?_
  refine W_seq ?_
  refine W_reg tbok ⟨[], []⟩ [] [] [(0, .p false (.int .u8) c1), (3, .p false .bool (decide (c1 < (128 : Int))))] [] 0 0 [True, True, True] (by kernel_rfl) (by kernel_rfl) ⟨trivial, trivial, trivial, trivial⟩ ?_
  refine to_then ?_
  refine W_cond (b := (decide (c1 < (128 : Int)))) (β := false) (by kernel_rfl) (fun hb1 => ?_) (fun hb1 => ?_)
  · replace h := h_if hb1 h
    refine W_seq ?_
    refine W_reg tbok ⟨[], []⟩ [] [] [(2, .p false (.int .i64) (1 : Int))] [] 0 0 [True] (by kernel_rfl) (by kernel_rfl) ⟨trivial, trivial⟩ ?_
    refine to_then ?_
    refine W_ret ?_
    refine blockQ_ret ?_
    refine thenQ_ret ?_
    obtain rfl := Option.some.inj h
    exact Ret_intro [(.int .i64)] (by kernel_rfl)
  · replace h := h_else hb1 h
    refine W_seq ?_
    obtain ⟨v1, hp1, h⟩ := h_bind h
    refine W.mono (Q := (postN Try.f33.ntmps (fun (v1 : Bool) => mkSt [(0, .p false (.int .u8) c1), (6, .p false .bool v1)] [] 0)) v1) ?_ (fun e σ' hq => ?_)
    · replace h := hp1
      clear hp1
      rcases Bool.eq_false_or_eq_true (decide (c1 ≥ (194 : Int))) with hb4 | hb4
      · replace h := h_if hb4 h
        refine W_reg tbok ⟨[(2, true), (5, true)], []⟩ [] [] [(0, .p false (.int .u8) c1), (6, .p false .bool (decide (c1 ≤ (223 : Int))))] [] 0 0 [True, True, True, (decide (c1 ≥ (194 : Int))) = true ∧ True, (decide (c1 ≥ (194 : Int))) = true ∧ True, (decide (c1 ≥ (194 : Int))) = true, True] (by kernel_rfl) (by kernel_rfl) ⟨trivial, trivial, trivial, ⟨hb4, trivial⟩, ⟨hb4, trivial⟩, hb4, trivial, trivial⟩ ?_
        obtain rfl := Option.some.inj h
        exact postN_to (goal_le (gs := []) (f := []) (by kernel_rfl) (by kernel_rfl))
      · replace h := h_else hb4 h
        refine W_reg tbok ⟨[(2, false), (5, false)], []⟩ [] [] [(0, .p false (.int .u8) c1), (6, .p false .bool false)] [] 0 0 [True, True, True, (decide (c1 ≥ (194 : Int))) = false, (decide (c1 ≥ (194 : Int))) = false, (decide (c1 ≥ (194 : Int))) = false, True] (by kernel_rfl) (by kernel_rfl) ⟨trivial, trivial, trivial, hb4, hb4, hb4, trivial, trivial⟩ ?_
        obtain rfl := Option.some.inj h
        exact postN_to (goal_le (gs := []) (f := []) (by kernel_rfl) (by kernel_rfl))
    · clear hp1
      obtain ⟨rfl, hle⟩ := hq
      refine use_to ?_ hle
      refine to_then ?_
      refine W_cond (b := v1) (β := false) (by kernel_rfl) (fun hb5 => ?_) (fun hb5 => ?_)
      · replace h := h_if hb5 h
        refine W_seq ?_
        refine W_reg tbok ⟨[], []⟩ [] [] [(2, .p false (.int .i64) (2 : Int))] [] 0 0 [True] (by kernel_rfl) (by kernel_rfl) ⟨trivial, trivial⟩ ?_
        refine to_then ?_
        refine W_ret ?_
        refine blockQ_ret ?_
        refine thenQ_ret ?_
        obtain rfl := Option.some.inj h
        exact Ret_intro [(.int .i64)] (by kernel_rfl)
      · replace h := h_else hb5 h
        refine W_seq ?_
        obtain ⟨v2, hp2, h⟩ := h_bind h
        refine W.mono (Q := (postN Try.f33.ntmps (fun (v2 : Bool) => mkSt [(0, .p false (.int .u8) c1), (13, .p false .bool v2)] [] 0)) v2) ?_ (fun e σ' hq => ?_)
        · replace h := hp2
          clear hp2
          rcases Bool.eq_false_or_eq_true (decide (c1 ≥ (224 : Int))) with hb8 | hb8
          · replace h := h_if hb8 h
            refine W_reg tbok ⟨[(2, true), (5, true)], []⟩ [] [] [(0, .p false (.int .u8) c1), (13, .p false .bool (decide (c1 ≤ (239 : Int))))] [] 0 0 [True, True, True, (decide (c1 ≥ (224 : Int))) = true ∧ True, (decide (c1 ≥ (224 : Int))) = true ∧ True, (decide (c1 ≥ (224 : Int))) = true, True] (by kernel_rfl) (by kernel_rfl) ⟨trivial, trivial, trivial, ⟨hb8, trivial⟩, ⟨hb8, trivial⟩, hb8, trivial, trivial⟩ ?_
            obtain rfl := Option.some.inj h
            exact postN_to (goal_le (gs := []) (f := []) (by kernel_rfl) (by kernel_rfl))
          · replace h := h_else hb8 h
            refine W_reg tbok ⟨[(2, false), (5, false)], []⟩ [] [] [(0, .p false (.int .u8) c1), (13, .p false .bool false)] [] 0 0 [True, True, True, (decide (c1 ≥ (224 : Int))) = false, (decide (c1 ≥ (224 : Int))) = false, (decide (c1 ≥ (224 : Int))) = false, True] (by kernel_rfl) (by kernel_rfl) ⟨trivial, trivial, trivial, hb8, hb8, hb8, trivial, trivial⟩ ?_
            obtain rfl := Option.some.inj h
            exact postN_to (goal_le (gs := []) (f := []) (by kernel_rfl) (by kernel_rfl))
        · clear hp2
          obtain ⟨rfl, hle⟩ := hq
          refine use_to ?_ hle
          refine to_then ?_
          refine W_cond (b := v2) (β := false) (by kernel_rfl) (fun hb9 => ?_) (fun hb9 => ?_)
          · replace h := h_if hb9 h
            refine W_seq ?_
            refine W_reg tbok ⟨[], []⟩ [] [] [(2, .p false (.int .i64) (3 : Int))] [] 0 0 [True] (by kernel_rfl) (by kernel_rfl) ⟨trivial, trivial⟩ ?_
            refine to_then ?_
            refine W_ret ?_
            refine blockQ_ret ?_
            refine thenQ_ret ?_
            obtain rfl := Option.some.inj h
            exact Ret_intro [(.int .i64)] (by kernel_rfl)
          · replace h := h_else hb9 h
            refine W_seq ?_
            obtain ⟨v3, hp3, h⟩ := h_bind h
            refine W.mono (Q := (postN Try.f33.ntmps (fun (v3 : Bool) => mkSt [(20, .p false .bool v3)] [] 0)) v3) ?_ (fun e σ' hq => ?_)
            · replace h := hp3
              clear hp3
              rcases Bool.eq_false_or_eq_true (decide (c1 ≥ (240 : Int))) with hb12 | hb12
              · replace h := h_if hb12 h
                refine W_reg tbok ⟨[(2, true), (5, true)], []⟩ [] [] [(20, .p false .bool (decide (c1 ≤ (244 : Int))))] [] 0 0 [True, True, True, (decide (c1 ≥ (240 : Int))) = true ∧ True, (decide (c1 ≥ (240 : Int))) = true ∧ True, (decide (c1 ≥ (240 : Int))) = true, True] (by kernel_rfl) (by kernel_rfl) ⟨trivial, trivial, trivial, ⟨hb12, trivial⟩, ⟨hb12, trivial⟩, hb12, trivial, trivial⟩ ?_
                obtain rfl := Option.some.inj h
                exact postN_to (goal_le (gs := []) (f := []) (by kernel_rfl) (by kernel_rfl))
              · replace h := h_else hb12 h
                refine W_reg tbok ⟨[(2, false), (5, false)], []⟩ [] [] [(20, .p false .bool false)] [] 0 0 [True, True, True, (decide (c1 ≥ (240 : Int))) = false, (decide (c1 ≥ (240 : Int))) = false, (decide (c1 ≥ (240 : Int))) = false, True] (by kernel_rfl) (by kernel_rfl) ⟨trivial, trivial, trivial, hb12, hb12, hb12, trivial, trivial⟩ ?_
                obtain rfl := Option.some.inj h
                exact postN_to (goal_le (gs := []) (f := []) (by kernel_rfl) (by kernel_rfl))
            · clear hp3
              obtain ⟨rfl, hle⟩ := hq
              refine use_to ?_ hle
              refine to_then ?_
              refine W_cond (b := v3) (β := false) (by kernel_rfl) (fun hb13 => ?_) (fun hb13 => ?_)
              · replace h := h_if hb13 h
                refine W_seq ?_
                refine W_reg tbok ⟨[], []⟩ [] [] [(2, .p false (.int .i64) (4 : Int))] [] 0 0 [True] (by kernel_rfl) (by kernel_rfl) ⟨trivial, trivial⟩ ?_
                refine to_then ?_
                refine W_ret ?_
                refine blockQ_ret ?_
                refine thenQ_ret ?_
                obtain rfl := Option.some.inj h
                exact Ret_intro [(.int .i64)] (by kernel_rfl)
              · replace h := h_else hb13 h
                refine W_skip_to ?_
                refine to_block ?_
                refine to_then ?_
                refine W_seq ?_
                refine W_reg tbok ⟨[], []⟩ [] [] [(2, .p false (.int .i64) (0 : Int))] [] 0 0 [True] (by kernel_rfl) (by kernel_rfl) ⟨trivial, trivial⟩ ?_
                refine to_then ?_
                refine W_ret ?_
                obtain rfl := Option.some.inj h
                exact Ret_intro [(.int .i64)] (by kernel_rfl)

/-- a loop of 'stanza/stanzaref01.Begins': one round -/
def stanzaref01_Begins_L1 (b1 : List Int) : (Int) → Option ((Int) ⊕ ((Unit) ⊕ (Bool))) := fun (i2 : Int) =>
  (if (decide (i2 < (b1.length : Int))) = true then (((if 0 ≤ i2 ∧ i2 < (b1.length : Int) then (if (decide ((b1.getD i2.toNat (0 : Int)) < (128 : Int))) = true then some (true)
  else (if 0 ≤ i2 ∧ i2 < (b1.length : Int) then some ((decide ((b1.getD i2.toNat (0 : Int)) > (191 : Int)))) else none)) else none)).bind fun (v4 : Bool) => (if v4 = true then some (Sum.inr (Sum.inr false))
  else some (Sum.inl (IntKind.i64.wrap (i2 + (1 : Int))))))
  else some (Sum.inr (Sum.inl ())))

/-- 'stanza/stanzaref01.Begins' -/
def stanzaref01_Begins (b1 : List Int) : Option (Bool) :=
  (((if ((b1.length : Int) == (0 : Int)) = true then some (true)
  else (if 0 ≤ (0 : Int) ∧ (0 : Int) < (b1.length : Int) then ((stanzaref01_length (b1.getD ((0 : Int).toNat) (0 : Int))).bind fun (r3 : Int) =>
  some ((decide ((b1.length : Int) > r3)))) else none))).bind fun (v1 : Bool) => (if v1 = true then some false
  else ((iter (stanzaref01_Begins_L1 b1) (1 : Int)).bind fun (r5 : ((Unit) ⊕ (Bool))) => match r5 with
  | .inl _ => (if ((b1.length : Int) == (1 : Int)) = true then some true
  else (if 0 ≤ (0 : Int) ∧ (0 : Int) < (b1.length : Int) then (if ((b1.getD ((0 : Int).toNat) (0 : Int)) == (224 : Int)) = true then (if 0 ≤ (1 : Int) ∧ (1 : Int) < (b1.length : Int) then some (decide ((b1.getD ((1 : Int).toNat) (0 : Int)) ≥ (160 : Int))) else none)
  else (if ((b1.getD ((0 : Int).toNat) (0 : Int)) == (237 : Int)) = true then (if 0 ≤ (1 : Int) ∧ (1 : Int) < (b1.length : Int) then some (decide ((b1.getD ((1 : Int).toNat) (0 : Int)) < (160 : Int))) else none)
  else (if ((b1.getD ((0 : Int).toNat) (0 : Int)) == (240 : Int)) = true then (if 0 ≤ (1 : Int) ∧ (1 : Int) < (b1.length : Int) then some (decide ((b1.getD ((1 : Int).toNat) (0 : Int)) ≥ (144 : Int))) else none)
  else (if ((b1.getD ((0 : Int).toNat) (0 : Int)) == (244 : Int)) = true then (if 0 ≤ (1 : Int) ∧ (1 : Int) < (b1.length : Int) then some (decide ((b1.getD ((1 : Int).toNat) (0 : Int)) < (144 : Int))) else none)
  else some true)))) else none))
  | .inr (r4) => some r4)))

set_option maxRecDepth 100000 in
set_option maxHeartbeats 4000000 in
theorem stanzaref01_Begins_ok (β0 : Bool) (b1 : List Int) (res : Bool) (h : stanzaref01_Begins b1 = some res) :
    Pure Try.prog 32 [.p β0 (.slice (.int .u8)) b1] (wrapR (encs false [⟨.bool, res⟩])) := by
  refine Pure.of_body tbok Try.func32 (by kernel_rfl) rfl (Nat.le_of_ble_eq_true rfl) (fun Bw w0 => ?_) rfl
  unfold stanzaref01_Begins at h
  refine W_seq ?_
  refine W_reg tbok ⟨[], []⟩ [] [] [(0, .p β0 (.slice (.int .u8)) b1)] [] 0 0 [True] (by kernel_rfl) (by kernel_rfl) ⟨trivial, trivial⟩ ?_
  refine to_then ?_
  refine W_seq ?_
  refine W_seq ?_
  obtain ⟨v1, hp1, h⟩ := h_bind h
  refine W.mono (Q := (postN Try.f32.ntmps (fun (v1 : Bool) => mkSt [(0, .p β0 (.slice (.int .u8)) b1), (15, .p false .bool v1)] [] 0)) v1) ?_ (fun e σ' hq => ?_)
  · replace h := hp1
    clear hp1
    rcases Bool.eq_false_or_eq_true ((b1.length : Int) == (0 : Int)) with hb3 | hb3
    · replace h := h_if hb3 h
      refine W_reg tbok ⟨[(3, true), (11, true)], []⟩ [] [] [(0, .p β0 (.slice (.int .u8)) b1), (15, .p false .bool true)] [] 0 0 [True, True, True, True, ((b1.length : Int) == (0 : Int)) = true, ((b1.length : Int) == (0 : Int)) = true, ((b1.length : Int) == (0 : Int)) = true, ((b1.length : Int) == (0 : Int)) = true, ((b1.length : Int) == (0 : Int)) = true, ((b1.length : Int) == (0 : Int)) = true, ((b1.length : Int) == (0 : Int)) = true, ((b1.length : Int) == (0 : Int)) = true] (by kernel_rfl) (by kernel_rfl) ⟨trivial, trivial, trivial, trivial, hb3, hb3, hb3, hb3, hb3, hb3, hb3, hb3, trivial⟩ ?_
      obtain rfl := Option.some.inj h
      exact postN_to (goal_le (gs := []) (f := []) (by kernel_rfl) (by kernel_rfl))
    · replace h := h_else hb3 h
      obtain ⟨c3, h⟩ := h_guard h
      obtain ⟨r3, q3, h⟩ := h_bind h
      refine W_reg tbok ⟨[(3, false), (11, false)], [(9, ⟨.p false (.int .i64) r3, [false], false, [true], [], []⟩)]⟩ [] [] [(0, .p β0 (.slice (.int .u8)) b1), (15, .p false .bool (decide ((b1.length : Int) > r3)))] [] 0 0 [True, True, True, True, ((b1.length : Int) == (0 : Int)) = false ∧ True, ((b1.length : Int) == (0 : Int)) = false ∧ True, ((b1.length : Int) == (0 : Int)) = false ∧ True, ((b1.length : Int) == (0 : Int)) = false ∧ 0 ≤ (0 : Int) ∧ (0 : Int) < (b1.length : Int), ((b1.length : Int) == (0 : Int)) = false ∧ True, ((b1.length : Int) == (0 : Int)) = false ∧ Pure Try.prog 33 [.p false (.int .u8) (b1.getD ((0 : Int).toNat) (0 : Int))] (.p false (.int .i64) r3), ((b1.length : Int) == (0 : Int)) = false ∧ True, ((b1.length : Int) == (0 : Int)) = false] (by kernel_rfl) (by kernel_rfl) ⟨trivial, trivial, trivial, trivial, ⟨hb3, trivial⟩, ⟨hb3, trivial⟩, ⟨hb3, trivial⟩, ⟨hb3, c3⟩, ⟨hb3, trivial⟩, ⟨hb3, (stanzaref01_length_ok (b1.getD ((0 : Int).toNat) (0 : Int)) _ q3)⟩, ⟨hb3, trivial⟩, hb3, trivial⟩ ?_
      obtain rfl := Option.some.inj h
      exact postN_to (goal_le (gs := []) (f := []) (by kernel_rfl) (by kernel_rfl))
  · clear hp1
    obtain ⟨rfl, hle⟩ := hq
    refine use_to ?_ hle
    refine to_then ?_
    refine W_cond (b := v1) (β := false) (by kernel_rfl) (fun hb4 => ?_) (fun hb4 => ?_)
    · replace h := h_if hb4 h
      refine W_seq ?_
      refine W_reg tbok ⟨[], []⟩ [] [] [(2, .p false .bool false)] [] 0 0 [True] (by kernel_rfl) (by kernel_rfl) ⟨trivial, trivial⟩ ?_
      refine to_then ?_
      refine W_ret ?_
      refine thenQ_ret ?_
      obtain rfl := Option.some.inj h
      exact Ret_intro [.bool] (by kernel_rfl)
    · replace h := h_else hb4 h
      refine W_skip_to ?_
      refine to_then ?_
      refine W_seq ?_
      refine W_seq ?_
      refine W_reg tbok ⟨[], []⟩ [] [] [(0, .p β0 (.slice (.int .u8)) b1), (3, .p false (.int .i64) (1 : Int))] [] 0 0 [True] (by kernel_rfl) (by kernel_rfl) ⟨trivial, trivial⟩ ?_
      refine to_then ?_
      refine W_block ?_
      obtain ⟨r5, hp5, h⟩ := h_bind h
      refine W.mono (Q := (postS (postX Try.f32.ntmps 0 (fun (_ : Unit) => mkSt [(0, .p β0 (.slice (.int .u8)) b1)] [] 0)) (postR tb Try.f32.results.toList (fun (r4 : Bool) => [⟨.bool, r4⟩]))) r5) (W_iter (f := fun (i2 : Int) => mkSt [(0, .p β0 (.slice (.int .u8)) b1), (3, .p false (.int .i64) i2)] [] 0) (Q := (postS (postX Try.f32.ntmps 0 (fun (_ : Unit) => mkSt [(0, .p β0 (.slice (.int .u8)) b1)] [] 0)) (postR tb Try.f32.results.toList (fun (r4 : Bool) => [⟨.bool, r4⟩])))) hp5 (goal_le (gs := []) (f := []) (by kernel_rfl) (by kernel_rfl)) (fun i2 o ho => ?_)) (fun e σ' hq => ?_)
      · replace h := ho
        clear ho hp5
        unfold stanzaref01_Begins_L1 at h
        refine W_seq ?_
        refine W_seq ?_
        refine W_reg tbok ⟨[], []⟩ [] [] [(0, .p β0 (.slice (.int .u8)) b1), (3, .p false (.int .i64) i2), (19, .p false .bool (decide (i2 < (b1.length : Int))))] [] 0 0 [True, True, True, True] (by kernel_rfl) (by kernel_rfl) ⟨trivial, trivial, trivial, trivial, trivial⟩ ?_
        refine to_then ?_
        refine W_cond (b := (decide (i2 < (b1.length : Int)))) (β := false) (by kernel_rfl) (fun hb15 => ?_) (fun hb15 => ?_)
        · replace h := h_if hb15 h
          refine W_skip_to ?_
          refine to_then ?_
          refine W_seq ?_
          refine W_block ?_
          refine W_seq ?_
          obtain ⟨v4, hp4, h⟩ := h_bind h
          refine W.mono (Q := (postN Try.f32.ntmps (fun (v4 : Bool) => mkSt [(0, .p β0 (.slice (.int .u8)) b1), (3, .p false (.int .i64) i2), (33, .p false .bool v4)] [] 0)) v4) ?_ (fun e σ' hq => ?_)
          · replace h := hp4
            clear hp4
            obtain ⟨c20, h⟩ := h_guard h
            rcases Bool.eq_false_or_eq_true (decide ((b1.getD i2.toNat (0 : Int)) < (128 : Int))) with hb18 | hb18
            · replace h := h_if hb18 h
              refine W_reg tbok ⟨[(5, true), (11, true)], []⟩ [] [] [(0, .p β0 (.slice (.int .u8)) b1), (3, .p false (.int .i64) i2), (33, .p false .bool true)] [] 0 0 [True, True, 0 ≤ i2 ∧ i2 < (b1.length : Int), True, True, True, (decide ((b1.getD i2.toNat (0 : Int)) < (128 : Int))) = true, (decide ((b1.getD i2.toNat (0 : Int)) < (128 : Int))) = true, (decide ((b1.getD i2.toNat (0 : Int)) < (128 : Int))) = true, (decide ((b1.getD i2.toNat (0 : Int)) < (128 : Int))) = true, (decide ((b1.getD i2.toNat (0 : Int)) < (128 : Int))) = true, (decide ((b1.getD i2.toNat (0 : Int)) < (128 : Int))) = true] (by kernel_rfl) (by kernel_rfl) ⟨trivial, trivial, c20, trivial, trivial, trivial, hb18, hb18, hb18, hb18, hb18, hb18, trivial⟩ ?_
              obtain rfl := Option.some.inj h
              exact postN_to (goal_le (gs := []) (f := []) (by kernel_rfl) (by kernel_rfl))
            · replace h := h_else hb18 h
              obtain ⟨c21, h⟩ := h_guard h
              refine W_reg tbok ⟨[(5, false), (11, false)], []⟩ [] [] [(0, .p β0 (.slice (.int .u8)) b1), (3, .p false (.int .i64) i2), (33, .p false .bool (decide ((b1.getD i2.toNat (0 : Int)) > (191 : Int))))] [] 0 0 [True, True, 0 ≤ i2 ∧ i2 < (b1.length : Int), True, True, True, (decide ((b1.getD i2.toNat (0 : Int)) < (128 : Int))) = false ∧ True, (decide ((b1.getD i2.toNat (0 : Int)) < (128 : Int))) = false ∧ True, (decide ((b1.getD i2.toNat (0 : Int)) < (128 : Int))) = false ∧ 0 ≤ i2 ∧ i2 < (b1.length : Int), (decide ((b1.getD i2.toNat (0 : Int)) < (128 : Int))) = false ∧ True, (decide ((b1.getD i2.toNat (0 : Int)) < (128 : Int))) = false ∧ True, (decide ((b1.getD i2.toNat (0 : Int)) < (128 : Int))) = false] (by kernel_rfl) (by kernel_rfl) ⟨trivial, trivial, c20, trivial, trivial, trivial, ⟨hb18, trivial⟩, ⟨hb18, trivial⟩, ⟨hb18, c21⟩, ⟨hb18, trivial⟩, ⟨hb18, trivial⟩, hb18, trivial⟩ ?_
              obtain rfl := Option.some.inj h
              exact postN_to (goal_le (gs := []) (f := []) (by kernel_rfl) (by kernel_rfl))
          · clear hp4
            obtain ⟨rfl, hle⟩ := hq
            refine use_to ?_ hle
            refine to_then ?_
            refine W_cond (b := v4) (β := false) (by kernel_rfl) (fun hb19 => ?_) (fun hb19 => ?_)
            · replace h := h_if hb19 h
              refine W_seq ?_
              refine W_reg tbok ⟨[], []⟩ [] [] [(2, .p false .bool false)] [] 0 0 [True] (by kernel_rfl) (by kernel_rfl) ⟨trivial, trivial⟩ ?_
              refine to_then ?_
              refine W_ret ?_
              obtain rfl := Option.some.inj h
              refine blockQ_ret ?_
              refine thenQ_ret ?_
              refine round_ret ?_
              refine postS_rr ?_
              exact postR_mk (Ret_intro [.bool] (by kernel_rfl))
            · replace h := h_else hb19 h
              refine W_skip_to ?_
              refine to_block ?_
              refine to_then ?_
              refine W_reg tbok ⟨[], []⟩ [] [] [(0, .p β0 (.slice (.int .u8)) b1), (3, .p false (.int .i64) (IntKind.i64.wrap (i2 + (1 : Int))))] [] 0 0 [True, True, True] (by kernel_rfl) (by kernel_rfl) ⟨trivial, trivial, trivial, trivial⟩ ?_
              obtain rfl := Option.some.inj h
              exact roundB (goal_le (gs := []) (f := []) (by kernel_rfl) (by kernel_rfl))
        · replace h := h_else hb15 h
          refine W_exit_to ?_
          refine thenE ?_
          obtain rfl := Option.some.inj h
          refine roundE ?_
          refine postS_l ?_
          exact postX_to (goal_le (gs := []) (f := []) (by kernel_rfl) (by kernel_rfl))
      · clear hp5
        rcases r5 with _ | r4
        · obtain ⟨rfl, hle⟩ := hq
          refine use_to ?_ hle
          refine blockE_eq ?_
          refine to_then ?_
          refine W_seq ?_
          refine W_seq ?_
          refine W_reg tbok ⟨[], []⟩ [] [] [(0, .p β0 (.slice (.int .u8)) b1), (36, .p false .bool ((b1.length : Int) == (1 : Int)))] [] 0 0 [True, True, True] (by kernel_rfl) (by kernel_rfl) ⟨trivial, trivial, trivial, trivial⟩ ?_
          refine to_then ?_
          refine W_cond (b := ((b1.length : Int) == (1 : Int))) (β := false) (by kernel_rfl) (fun hb20 => ?_) (fun hb20 => ?_)
          · replace h := h_if hb20 h
            refine W_seq ?_
            refine W_reg tbok ⟨[], []⟩ [] [] [(2, .p false .bool true)] [] 0 0 [True] (by kernel_rfl) (by kernel_rfl) ⟨trivial, trivial⟩ ?_
            refine to_then ?_
            refine W_ret ?_
            refine thenQ_ret ?_
            obtain rfl := Option.some.inj h
            exact Ret_intro [.bool] (by kernel_rfl)
          · replace h := h_else hb20 h
            refine W_skip_to ?_
            refine to_then ?_
            refine W_seq ?_
            refine W_seq ?_
            obtain ⟨c23, h⟩ := h_guard h
            refine W_reg tbok ⟨[], []⟩ [] [] [(0, .p β0 (.slice (.int .u8)) b1), (39, .p false (.int .u8) (b1.getD ((0 : Int).toNat) (0 : Int)))] [] 0 0 [True, 0 ≤ (0 : Int) ∧ (0 : Int) < (b1.length : Int), True] (by kernel_rfl) (by kernel_rfl) ⟨trivial, c23, trivial, trivial⟩ ?_
            refine to_then ?_
            refine W_block ?_
            refine W_seq ?_
            refine W_reg tbok ⟨[], []⟩ [] [] [(0, .p β0 (.slice (.int .u8)) b1), (39, .p false (.int .u8) (b1.getD ((0 : Int).toNat) (0 : Int))), (40, .p false .bool ((b1.getD ((0 : Int).toNat) (0 : Int)) == (224 : Int)))] [] 0 0 [True, True] (by kernel_rfl) (by kernel_rfl) ⟨trivial, trivial, trivial⟩ ?_
            refine to_then ?_
            refine W_cond (b := ((b1.getD ((0 : Int).toNat) (0 : Int)) == (224 : Int))) (β := false) (by kernel_rfl) (fun hb21 => ?_) (fun hb21 => ?_)
            · replace h := h_if hb21 h
              refine W_seq ?_
              obtain ⟨c25, h⟩ := h_guard h
              refine W_reg tbok ⟨[], []⟩ [] [] [(2, .p false .bool (decide ((b1.getD ((1 : Int).toNat) (0 : Int)) ≥ (160 : Int))))] [] 0 0 [True, 0 ≤ (1 : Int) ∧ (1 : Int) < (b1.length : Int), True, True, True] (by kernel_rfl) (by kernel_rfl) ⟨trivial, c25, trivial, trivial, trivial, trivial⟩ ?_
              refine to_then ?_
              refine W_ret ?_
              refine blockQ_ret ?_
              refine thenQ_ret ?_
              obtain rfl := Option.some.inj h
              exact Ret_intro [.bool] (by kernel_rfl)
            · replace h := h_else hb21 h
              refine W_seq ?_
              refine W_reg tbok ⟨[], []⟩ [] [] [(0, .p β0 (.slice (.int .u8)) b1), (39, .p false (.int .u8) (b1.getD ((0 : Int).toNat) (0 : Int))), (46, .p false .bool ((b1.getD ((0 : Int).toNat) (0 : Int)) == (237 : Int)))] [] 0 0 [True, True] (by kernel_rfl) (by kernel_rfl) ⟨trivial, trivial, trivial⟩ ?_
              refine to_then ?_
              refine W_cond (b := ((b1.getD ((0 : Int).toNat) (0 : Int)) == (237 : Int))) (β := false) (by kernel_rfl) (fun hb22 => ?_) (fun hb22 => ?_)
              · replace h := h_if hb22 h
                refine W_seq ?_
                obtain ⟨c27, h⟩ := h_guard h
                refine W_reg tbok ⟨[], []⟩ [] [] [(2, .p false .bool (decide ((b1.getD ((1 : Int).toNat) (0 : Int)) < (160 : Int))))] [] 0 0 [True, 0 ≤ (1 : Int) ∧ (1 : Int) < (b1.length : Int), True, True, True] (by kernel_rfl) (by kernel_rfl) ⟨trivial, c27, trivial, trivial, trivial, trivial⟩ ?_
                refine to_then ?_
                refine W_ret ?_
                refine blockQ_ret ?_
                refine thenQ_ret ?_
                obtain rfl := Option.some.inj h
                exact Ret_intro [.bool] (by kernel_rfl)
              · replace h := h_else hb22 h
                refine W_seq ?_
                refine W_reg tbok ⟨[], []⟩ [] [] [(0, .p β0 (.slice (.int .u8)) b1), (39, .p false (.int .u8) (b1.getD ((0 : Int).toNat) (0 : Int))), (52, .p false .bool ((b1.getD ((0 : Int).toNat) (0 : Int)) == (240 : Int)))] [] 0 0 [True, True] (by kernel_rfl) (by kernel_rfl) ⟨trivial, trivial, trivial⟩ ?_
                refine to_then ?_
                refine W_cond (b := ((b1.getD ((0 : Int).toNat) (0 : Int)) == (240 : Int))) (β := false) (by kernel_rfl) (fun hb23 => ?_) (fun hb23 => ?_)
                · replace h := h_if hb23 h
                  refine W_seq ?_
                  obtain ⟨c29, h⟩ := h_guard h
                  refine W_reg tbok ⟨[], []⟩ [] [] [(2, .p false .bool (decide ((b1.getD ((1 : Int).toNat) (0 : Int)) ≥ (144 : Int))))] [] 0 0 [True, 0 ≤ (1 : Int) ∧ (1 : Int) < (b1.length : Int), True, True, True] (by kernel_rfl) (by kernel_rfl) ⟨trivial, c29, trivial, trivial, trivial, trivial⟩ ?_
                  refine to_then ?_
                  refine W_ret ?_
                  refine blockQ_ret ?_
                  refine thenQ_ret ?_
                  obtain rfl := Option.some.inj h
                  exact Ret_intro [.bool] (by kernel_rfl)
                · replace h := h_else hb23 h
                  refine W_seq ?_
                  refine W_reg tbok ⟨[], []⟩ [] [] [(0, .p β0 (.slice (.int .u8)) b1), (58, .p false .bool ((b1.getD ((0 : Int).toNat) (0 : Int)) == (244 : Int)))] [] 0 0 [True, True] (by kernel_rfl) (by kernel_rfl) ⟨trivial, trivial, trivial⟩ ?_
                  refine to_then ?_
                  refine W_cond (b := ((b1.getD ((0 : Int).toNat) (0 : Int)) == (244 : Int))) (β := false) (by kernel_rfl) (fun hb24 => ?_) (fun hb24 => ?_)
                  · replace h := h_if hb24 h
                    refine W_seq ?_
                    obtain ⟨c31, h⟩ := h_guard h
                    refine W_reg tbok ⟨[], []⟩ [] [] [(2, .p false .bool (decide ((b1.getD ((1 : Int).toNat) (0 : Int)) < (144 : Int))))] [] 0 0 [True, 0 ≤ (1 : Int) ∧ (1 : Int) < (b1.length : Int), True, True, True] (by kernel_rfl) (by kernel_rfl) ⟨trivial, c31, trivial, trivial, trivial, trivial⟩ ?_
                    refine to_then ?_
                    refine W_ret ?_
                    refine blockQ_ret ?_
                    refine thenQ_ret ?_
                    obtain rfl := Option.some.inj h
                    exact Ret_intro [.bool] (by kernel_rfl)
                  · replace h := h_else hb24 h
                    refine W_skip_to ?_
                    refine to_block ?_
                    refine to_then ?_
                    refine W_seq ?_
                    refine W_reg tbok ⟨[], []⟩ [] [] [(2, .p false .bool true)] [] 0 0 [True] (by kernel_rfl) (by kernel_rfl) ⟨trivial, trivial⟩ ?_
                    refine to_then ?_
                    refine W_ret ?_
                    obtain rfl := Option.some.inj h
                    exact Ret_intro [.bool] (by kernel_rfl)
        · obtain ⟨rfl, hr⟩ := hq
          refine blockQ_ret ?_
          refine thenQ_ret ?_
          obtain rfl := Option.some.inj h
          exact hr

/-- a loop of 'stanza/stanzaref01.One': one round -/
def stanzaref01_One_L1 (d1 : List Int) (i1 : Int) : (Int) → Option ((Int) ⊕ (Int)) := fun (v5 : Int) =>
  (((if (decide (v5 < (4 : Int))) = true then (if (decide (v5 < (IntKind.i64.wrap ((d1.length : Int) - i1)))) = true then (if 0 ≤ i1 ∧ i1 ≤ (IntKind.i64.wrap ((IntKind.i64.wrap (i1 + v5)) + (1 : Int))) ∧ (IntKind.i64.wrap ((IntKind.i64.wrap (i1 + v5)) + (1 : Int))) ≤ (d1.length : Int) then ((stanzaref01_Begins ((d1.take (IntKind.i64.wrap ((IntKind.i64.wrap (i1 + v5)) + (1 : Int))).toNat).drop i1.toNat)).bind fun (r9 : Bool) =>
  some (r9)) else none)
  else some (false))
  else some (false))).bind fun (v7 : Bool) => (if v7 = true then some (Sum.inl (IntKind.i64.wrap (v5 + (1 : Int))))
  else some (Sum.inr v5)))

/-- a loop of 'stanza/stanzaref01.One': one round -/
def stanzaref01_One_L2 (d1 : List Int) (i1 : Int) (v6 : Int) : (Int × Int) → Option ((Int × Int) ⊕ (Int)) := fun ((v10, v11) : Int × Int) =>
  (if (decide (v11 < v6)) = true then (if 0 ≤ (IntKind.i64.wrap (i1 + v11)) ∧ (IntKind.i64.wrap (i1 + v11)) < (d1.length : Int) then some (Sum.inl ((IntKind.i32.wrap ((IntKind.i32.wrap ((IntKind.i32.wrap (v10 * (64 : Int))) + (IntKind.i32.wrap (d1.getD ((IntKind.i64.wrap (i1 + v11)).toNat) (0 : Int))))) - (128 : Int))), (IntKind.i64.wrap (v11 + (1 : Int))))) else none)
  else some (Sum.inr v10))

/-- 'stanza/stanzaref01.One' -/
def stanzaref01_One (d1 : List Int) (i1 : Int) : Option (Int × Int × Int) :=
  (((if (decide (i1 < (0 : Int))) = true then some (true)
  else some ((decide (i1 ≥ (d1.length : Int)))))).bind fun (v1 : Bool) => (if v1 = true then some ((0 : Int), ((0 : Int), (0 : Int)))
  else ((iter (stanzaref01_One_L1 d1 i1) (0 : Int)).bind fun (v6 : Int) => (if (v6 == (0 : Int)) = true then some ((65533 : Int), (i1, (1 : Int)))
  else (if 0 ≤ i1 ∧ i1 < (d1.length : Int) then ((stanzaref01_length (d1.getD i1.toNat (0 : Int))).bind fun (r11 : Int) =>
  (if (decide (v6 < r11)) = true then some ((65533 : Int), (i1, v6))
  else (if 0 ≤ i1 ∧ i1 < (d1.length : Int) then (if 0 ≤ v6 ∧ v6 < (([(0 : Int), (127 : Int), (31 : Int), (15 : Int), (7 : Int)] : List Int).length : Int) then (if v6.toNat < ([(0 : Int), (127 : Int), (31 : Int), (15 : Int), (7 : Int)] : List Int).length then ((iter (stanzaref01_One_L2 d1 i1 v6) ((bitsOf .and .i32 (IntKind.i32.wrap (d1.getD i1.toNat (0 : Int))) (([(0 : Int), (127 : Int), (31 : Int), (15 : Int), (7 : Int)] : List Int).getD v6.toNat (0 : Int))), (1 : Int))).bind fun (v12 : Int) => some (v12, (i1, v6))) else none) else none) else none))) else none)))))

set_option maxRecDepth 100000 in
set_option maxHeartbeats 4000000 in
theorem stanzaref01_One_ok (β0 : Bool) (d1 : List Int) (i1 : Int) (res : Int × Int × Int) (h : stanzaref01_One d1 i1 = some res) :
    Pure Try.prog 29 [.p β0 (.slice (.int .u8)) d1, .p false (.int .i64) i1] (wrapR (encs false [⟨(.prod (.int .i32) (.prod (.int .i64) (.int .i64))), res⟩])) := by
  refine Pure.of_body tbok Try.func29 (by kernel_rfl) rfl (Nat.le_of_ble_eq_true rfl) (fun Bw w0 => ?_) rfl
  unfold stanzaref01_One at h
  refine W_seq ?_
  refine W_reg tbok ⟨[], []⟩ [] [0] [(0, .p β0 (.slice (.int .u8)) d1), (1, .p false (.int .i64) i1), (4, .adr 0 0 3 0)] [(0, .box [.p false (.int .i32) (0 : Int), .p false (.int .i64) (0 : Int), .p false (.int .i64) (0 : Int)])] 1 0 [True] (by kernel_rfl) (by kernel_rfl) ⟨trivial, trivial⟩ ?_
  refine to_then ?_
  refine W_seq ?_
  refine W_seq ?_
  obtain ⟨v1, hp1, h⟩ := h_bind h
  refine W.mono (Q := (postN Try.f29.ntmps (fun (v1 : Bool) => mkSt [(0, .p β0 (.slice (.int .u8)) d1), (1, .p false (.int .i64) i1), (4, .adr 0 0 3 0), (16, .p false .bool v1)] [(0, .box [.p false (.int .i32) (0 : Int), .p false (.int .i64) (0 : Int), .p false (.int .i64) (0 : Int)])] 1)) v1) ?_ (fun e σ' hq => ?_)
  · replace h := hp1
    clear hp1
    rcases Bool.eq_false_or_eq_true (decide (i1 < (0 : Int))) with hb3 | hb3
    · replace h := h_if hb3 h
      refine W_reg tbok ⟨[(2, true), (7, true)], []⟩ [] [0] [(0, .p β0 (.slice (.int .u8)) d1), (1, .p false (.int .i64) i1), (4, .adr 0 0 3 0), (16, .p false .bool true)] [(0, .box [.p false (.int .i32) (0 : Int), .p false (.int .i64) (0 : Int), .p false (.int .i64) (0 : Int)])] 1 0 [True, True, True, (decide (i1 < (0 : Int))) = true, (decide (i1 < (0 : Int))) = true, (decide (i1 < (0 : Int))) = true, (decide (i1 < (0 : Int))) = true, (decide (i1 < (0 : Int))) = true] (by kernel_rfl) (by kernel_rfl) ⟨trivial, trivial, trivial, hb3, hb3, hb3, hb3, hb3, trivial⟩ ?_
      obtain rfl := Option.some.inj h
      exact postN_to (goal_le (gs := []) (f := [0]) (by kernel_rfl) (by kernel_rfl))
    · replace h := h_else hb3 h
      refine W_reg tbok ⟨[(2, false), (7, false)], []⟩ [] [0] [(0, .p β0 (.slice (.int .u8)) d1), (1, .p false (.int .i64) i1), (4, .adr 0 0 3 0), (16, .p false .bool (decide (i1 ≥ (d1.length : Int))))] [(0, .box [.p false (.int .i32) (0 : Int), .p false (.int .i64) (0 : Int), .p false (.int .i64) (0 : Int)])] 1 0 [True, True, True, (decide (i1 < (0 : Int))) = false ∧ True, (decide (i1 < (0 : Int))) = false ∧ True, (decide (i1 < (0 : Int))) = false ∧ True, (decide (i1 < (0 : Int))) = false ∧ True, (decide (i1 < (0 : Int))) = false] (by kernel_rfl) (by kernel_rfl) ⟨trivial, trivial, trivial, ⟨hb3, trivial⟩, ⟨hb3, trivial⟩, ⟨hb3, trivial⟩, ⟨hb3, trivial⟩, hb3, trivial⟩ ?_
      obtain rfl := Option.some.inj h
      exact postN_to (goal_le (gs := []) (f := [0]) (by kernel_rfl) (by kernel_rfl))
  · clear hp1
    obtain ⟨rfl, hle⟩ := hq
    refine use_to ?_ hle
    refine to_then ?_
    refine W_cond (b := v1) (β := false) (by kernel_rfl) (fun hb4 => ?_) (fun hb4 => ?_)
    · replace h := h_if hb4 h
      refine W_seq ?_
      refine W_reg tbok ⟨[], []⟩ [] [0] [(4, .adr 0 0 3 0)] [(0, .box [.p false (.int .i32) (0 : Int), .p false (.int .i64) (0 : Int), .p false (.int .i64) (0 : Int)])] 1 0 [True, True] (by kernel_rfl) (by kernel_rfl) ⟨trivial, trivial, trivial⟩ ?_
      refine to_then ?_
      refine W_ret ?_
      refine thenQ_ret ?_
      obtain rfl := Option.some.inj h
      exact Ret_intro [(.prod (.int .i32) (.prod (.int .i64) (.int .i64)))] (by kernel_rfl)
    · replace h := h_else hb4 h
      refine W_skip_to ?_
      refine to_then ?_
      refine W_seq ?_
      refine W_reg tbok ⟨[], []⟩ [] [0] [(0, .p β0 (.slice (.int .u8)) d1), (1, .p false (.int .i64) i1), (4, .adr 0 0 3 0), (5, .p false (.int .i64) (0 : Int))] [(0, .box [.p false (.int .i32) (0 : Int), .p false (.int .i64) (0 : Int), .p false (.int .i64) (0 : Int)])] 1 0 [True] (by kernel_rfl) (by kernel_rfl) ⟨trivial, trivial⟩ ?_
      refine to_then ?_
      refine W_seq ?_
      refine W_block ?_
      obtain ⟨v6, hp5, h⟩ := h_bind h
      refine W.mono (Q := (postX Try.f29.ntmps 0 (fun (v6 : Int) => mkSt [(0, .p β0 (.slice (.int .u8)) d1), (1, .p false (.int .i64) i1), (4, .adr 0 0 3 0), (5, .p false (.int .i64) v6)] [(0, .box [.p false (.int .i32) (0 : Int), .p false (.int .i64) (0 : Int), .p false (.int .i64) (0 : Int)])] 1)) v6) (W_iter (f := fun (v5 : Int) => mkSt [(0, .p β0 (.slice (.int .u8)) d1), (1, .p false (.int .i64) i1), (4, .adr 0 0 3 0), (5, .p false (.int .i64) v5)] [(0, .box [.p false (.int .i32) (0 : Int), .p false (.int .i64) (0 : Int), .p false (.int .i64) (0 : Int)])] 1) (Q := (postX Try.f29.ntmps 0 (fun (v6 : Int) => mkSt [(0, .p β0 (.slice (.int .u8)) d1), (1, .p false (.int .i64) i1), (4, .adr 0 0 3 0), (5, .p false (.int .i64) v6)] [(0, .box [.p false (.int .i32) (0 : Int), .p false (.int .i64) (0 : Int), .p false (.int .i64) (0 : Int)])] 1))) hp5 (goal_le (gs := []) (f := [0]) (by kernel_rfl) (by kernel_rfl)) (fun v5 o ho => ?_)) (fun e σ' hq => ?_)
      · replace h := ho
        clear ho hp5
        unfold stanzaref01_One_L1 at h
        refine W_seq ?_
        refine W_seq ?_
        obtain ⟨v7, hp4, h⟩ := h_bind h
        refine W.mono (Q := (postN Try.f29.ntmps (fun (v7 : Bool) => mkSt [(0, .p β0 (.slice (.int .u8)) d1), (1, .p false (.int .i64) i1), (4, .adr 0 0 3 0), (5, .p false (.int .i64) v5), (37, .p false .bool v7)] [(0, .box [.p false (.int .i32) (0 : Int), .p false (.int .i64) (0 : Int), .p false (.int .i64) (0 : Int)])] 1)) v7) ?_ (fun e σ' hq => ?_)
        · replace h := hp4
          clear hp4
          rcases Bool.eq_false_or_eq_true (decide (v5 < (4 : Int))) with hb23 | hb23
          · replace h := h_if hb23 h
            rcases Bool.eq_false_or_eq_true (decide (v5 < (IntKind.i64.wrap ((d1.length : Int) - i1)))) with hb24 | hb24
            · replace h := h_if hb24 h
              obtain ⟨c9, h⟩ := h_guard h
              obtain ⟨r9, q9, h⟩ := h_bind h
              refine W_reg tbok ⟨[(2, true), (9, true), (10, true), (19, true)], [(18, ⟨.p false .bool r9, [false], false, [true], [], []⟩)]⟩ [] [0] [(0, .p β0 (.slice (.int .u8)) d1), (1, .p false (.int .i64) i1), (4, .adr 0 0 3 0), (5, .p false (.int .i64) v5), (37, .p false .bool r9)] [(0, .box [.p false (.int .i32) (0 : Int), .p false (.int .i64) (0 : Int), .p false (.int .i64) (0 : Int)])] 1 0 [True, True, True, (decide (v5 < (4 : Int))) = true ∧ True, (decide (v5 < (4 : Int))) = true ∧ True, (decide (v5 < (4 : Int))) = true ∧ True, (decide (v5 < (4 : Int))) = true ∧ True, (decide (v5 < (4 : Int))) = true ∧ True, (decide (v5 < (4 : Int))) = true ∧ True, (decide (v5 < (4 : Int))) = true, True, (decide (v5 < (IntKind.i64.wrap ((d1.length : Int) - i1)))) = true ∧ True, (decide (v5 < (IntKind.i64.wrap ((d1.length : Int) - i1)))) = true ∧ True, (decide (v5 < (IntKind.i64.wrap ((d1.length : Int) - i1)))) = true ∧ True, (decide (v5 < (IntKind.i64.wrap ((d1.length : Int) - i1)))) = true ∧ True, (decide (v5 < (IntKind.i64.wrap ((d1.length : Int) - i1)))) = true ∧ True, (decide (v5 < (IntKind.i64.wrap ((d1.length : Int) - i1)))) = true ∧ True, (decide (v5 < (IntKind.i64.wrap ((d1.length : Int) - i1)))) = true ∧ 0 ≤ i1 ∧ i1 ≤ (IntKind.i64.wrap ((IntKind.i64.wrap (i1 + v5)) + (1 : Int))) ∧ (IntKind.i64.wrap ((IntKind.i64.wrap (i1 + v5)) + (1 : Int))) ≤ (d1.length : Int), (decide (v5 < (IntKind.i64.wrap ((d1.length : Int) - i1)))) = true ∧ Pure Try.prog 32 [.p β0 (.slice (.int .u8)) ((d1.take (IntKind.i64.wrap ((IntKind.i64.wrap (i1 + v5)) + (1 : Int))).toNat).drop i1.toNat)] (.p false .bool r9), (decide (v5 < (IntKind.i64.wrap ((d1.length : Int) - i1)))) = true] (by kernel_rfl) (by kernel_rfl) ⟨trivial, trivial, trivial, ⟨hb23, trivial⟩, ⟨hb23, trivial⟩, ⟨hb23, trivial⟩, ⟨hb23, trivial⟩, ⟨hb23, trivial⟩, ⟨hb23, trivial⟩, hb23, trivial, ⟨hb24, trivial⟩, ⟨hb24, trivial⟩, ⟨hb24, trivial⟩, ⟨hb24, trivial⟩, ⟨hb24, trivial⟩, ⟨hb24, trivial⟩, ⟨hb24, c9⟩, ⟨hb24, (stanzaref01_Begins_ok β0 ((d1.take (IntKind.i64.wrap ((IntKind.i64.wrap (i1 + v5)) + (1 : Int))).toNat).drop i1.toNat) _ q9)⟩, hb24, trivial⟩ ?_
              obtain rfl := Option.some.inj h
              exact postN_to (goal_le (gs := []) (f := [0]) (by kernel_rfl) (by kernel_rfl))
            · replace h := h_else hb24 h
              refine W_reg tbok ⟨[(2, true), (9, true), (10, false), (19, false)], []⟩ [] [0] [(0, .p β0 (.slice (.int .u8)) d1), (1, .p false (.int .i64) i1), (4, .adr 0 0 3 0), (5, .p false (.int .i64) v5), (37, .p false .bool false)] [(0, .box [.p false (.int .i32) (0 : Int), .p false (.int .i64) (0 : Int), .p false (.int .i64) (0 : Int)])] 1 0 [True, True, True, (decide (v5 < (4 : Int))) = true ∧ True, (decide (v5 < (4 : Int))) = true ∧ True, (decide (v5 < (4 : Int))) = true ∧ True, (decide (v5 < (4 : Int))) = true ∧ True, (decide (v5 < (4 : Int))) = true ∧ True, (decide (v5 < (4 : Int))) = true ∧ True, (decide (v5 < (4 : Int))) = true, True, (decide (v5 < (IntKind.i64.wrap ((d1.length : Int) - i1)))) = false, (decide (v5 < (IntKind.i64.wrap ((d1.length : Int) - i1)))) = false, (decide (v5 < (IntKind.i64.wrap ((d1.length : Int) - i1)))) = false, (decide (v5 < (IntKind.i64.wrap ((d1.length : Int) - i1)))) = false, (decide (v5 < (IntKind.i64.wrap ((d1.length : Int) - i1)))) = false, (decide (v5 < (IntKind.i64.wrap ((d1.length : Int) - i1)))) = false, (decide (v5 < (IntKind.i64.wrap ((d1.length : Int) - i1)))) = false, (decide (v5 < (IntKind.i64.wrap ((d1.length : Int) - i1)))) = false, (decide (v5 < (IntKind.i64.wrap ((d1.length : Int) - i1)))) = false] (by kernel_rfl) (by kernel_rfl) ⟨trivial, trivial, trivial, ⟨hb23, trivial⟩, ⟨hb23, trivial⟩, ⟨hb23, trivial⟩, ⟨hb23, trivial⟩, ⟨hb23, trivial⟩, ⟨hb23, trivial⟩, hb23, trivial, hb24, hb24, hb24, hb24, hb24, hb24, hb24, hb24, hb24, trivial⟩ ?_
              obtain rfl := Option.some.inj h
              exact postN_to (goal_le (gs := []) (f := [0]) (by kernel_rfl) (by kernel_rfl))
          · replace h := h_else hb23 h
            refine W_reg tbok ⟨[(2, false), (9, false), (10, false), (19, false)], []⟩ [] [0] [(0, .p β0 (.slice (.int .u8)) d1), (1, .p false (.int .i64) i1), (4, .adr 0 0 3 0), (5, .p false (.int .i64) v5), (37, .p false .bool false)] [(0, .box [.p false (.int .i32) (0 : Int), .p false (.int .i64) (0 : Int), .p false (.int .i64) (0 : Int)])] 1 0 [True, True, True, (decide (v5 < (4 : Int))) = false, (decide (v5 < (4 : Int))) = false, (decide (v5 < (4 : Int))) = false, (decide (v5 < (4 : Int))) = false, (decide (v5 < (4 : Int))) = false, (decide (v5 < (4 : Int))) = false, (decide (v5 < (4 : Int))) = false, True, false = false, false = false, false = false, false = false, false = false, false = false, false = false, false = false, false = false] (by kernel_rfl) (by kernel_rfl) ⟨trivial, trivial, trivial, hb23, hb23, hb23, hb23, hb23, hb23, hb23, trivial, rfl, rfl, rfl, rfl, rfl, rfl, rfl, rfl, rfl, trivial⟩ ?_
            obtain rfl := Option.some.inj h
            exact postN_to (goal_le (gs := []) (f := [0]) (by kernel_rfl) (by kernel_rfl))
        · clear hp4
          obtain ⟨rfl, hle⟩ := hq
          refine use_to ?_ hle
          refine to_then ?_
          refine W_cond (b := v7) (β := false) (by kernel_rfl) (fun hb25 => ?_) (fun hb25 => ?_)
          · replace h := h_if hb25 h
            refine W_skip_to ?_
            refine to_then ?_
            refine W_block ?_
            refine W_reg tbok ⟨[], []⟩ [] [0] [(0, .p β0 (.slice (.int .u8)) d1), (1, .p false (.int .i64) i1), (4, .adr 0 0 3 0), (5, .p false (.int .i64) (IntKind.i64.wrap (v5 + (1 : Int))))] [(0, .box [.p false (.int .i32) (0 : Int), .p false (.int .i64) (0 : Int), .p false (.int .i64) (0 : Int)])] 1 0 [True, True, True] (by kernel_rfl) (by kernel_rfl) ⟨trivial, trivial, trivial, trivial⟩ ?_
            refine to_block ?_
            obtain rfl := Option.some.inj h
            exact roundB (goal_le (gs := []) (f := [0]) (by kernel_rfl) (by kernel_rfl))
          · replace h := h_else hb25 h
            refine W_exit_to ?_
            refine thenE ?_
            obtain rfl := Option.some.inj h
            refine roundE ?_
            exact postX_to (goal_le (gs := []) (f := [0]) (by kernel_rfl) (by kernel_rfl))
      · clear hp5
        obtain ⟨rfl, hle⟩ := hq
        refine use_to ?_ hle
        refine blockE_eq ?_
        refine to_then ?_
        refine W_seq ?_
        refine W_seq ?_
        refine W_reg tbok ⟨[], []⟩ [] [0] [(0, .p β0 (.slice (.int .u8)) d1), (1, .p false (.int .i64) i1), (4, .adr 0 0 3 0), (5, .p false (.int .i64) v6), (41, .p false .bool (v6 == (0 : Int)))] [(0, .box [.p false (.int .i32) (0 : Int), .p false (.int .i64) (0 : Int), .p false (.int .i64) (0 : Int)])] 1 0 [True, True] (by kernel_rfl) (by kernel_rfl) ⟨trivial, trivial, trivial⟩ ?_
        refine to_then ?_
        refine W_cond (b := (v6 == (0 : Int))) (β := false) (by kernel_rfl) (fun hb26 => ?_) (fun hb26 => ?_)
        · replace h := h_if hb26 h
          refine W_seq ?_
          refine W_reg tbok ⟨[], []⟩ [] [0] [(4, .adr 0 0 3 0)] [(0, .box [.p false (.int .i32) (65533 : Int), .p false (.int .i64) i1, .p false (.int .i64) (1 : Int)])] 1 0 [True, True, True] (by kernel_rfl) (by kernel_rfl) ⟨trivial, trivial, trivial, trivial⟩ ?_
          refine to_then ?_
          refine W_ret ?_
          refine thenQ_ret ?_
          obtain rfl := Option.some.inj h
          exact Ret_intro [(.prod (.int .i32) (.prod (.int .i64) (.int .i64)))] (by kernel_rfl)
        · replace h := h_else hb26 h
          refine W_skip_to ?_
          refine to_then ?_
          refine W_seq ?_
          refine W_seq ?_
          obtain ⟨c11, h⟩ := h_guard h
          obtain ⟨r11, q11, h⟩ := h_bind h
          refine W_reg tbok ⟨[], [(5, ⟨.p false (.int .i64) r11, [false], false, [true], [], []⟩)]⟩ [] [0] [(0, .p β0 (.slice (.int .u8)) d1), (1, .p false (.int .i64) i1), (4, .adr 0 0 3 0), (5, .p false (.int .i64) v6), (50, .p false .bool (decide (v6 < r11)))] [(0, .box [.p false (.int .i32) (0 : Int), .p false (.int .i64) (0 : Int), .p false (.int .i64) (0 : Int)])] 1 0 [True, True, True, 0 ≤ i1 ∧ i1 < (d1.length : Int), True, Pure Try.prog 33 [.p false (.int .u8) (d1.getD i1.toNat (0 : Int))] (.p false (.int .i64) r11), True] (by kernel_rfl) (by kernel_rfl) ⟨trivial, trivial, trivial, c11, trivial, (stanzaref01_length_ok (d1.getD i1.toNat (0 : Int)) _ q11), trivial, trivial⟩ ?_
          refine to_then ?_
          refine W_cond (b := (decide (v6 < r11))) (β := false) (by kernel_rfl) (fun hb27 => ?_) (fun hb27 => ?_)
          · replace h := h_if hb27 h
            refine W_seq ?_
            refine W_reg tbok ⟨[], []⟩ [] [0] [(4, .adr 0 0 3 0)] [(0, .box [.p false (.int .i32) (65533 : Int), .p false (.int .i64) i1, .p false (.int .i64) v6])] 1 0 [True, True, True, True] (by kernel_rfl) (by kernel_rfl) ⟨trivial, trivial, trivial, trivial, trivial⟩ ?_
            refine to_then ?_
            refine W_ret ?_
            refine thenQ_ret ?_
            obtain rfl := Option.some.inj h
            exact Ret_intro [(.prod (.int .i32) (.prod (.int .i64) (.int .i64)))] (by kernel_rfl)
          · replace h := h_else hb27 h
            refine W_skip_to ?_
            refine to_then ?_
            refine W_seq ?_
            obtain ⟨c13, h⟩ := h_guard h
            refine W_reg tbok ⟨[], []⟩ [] [0] [(0, .p β0 (.slice (.int .u8)) d1), (1, .p false (.int .i64) i1), (4, .adr 0 0 3 0), (5, .p false (.int .i64) v6), (6, .p false (.int .i32) (IntKind.i32.wrap (d1.getD i1.toNat (0 : Int))))] [(0, .box [.p false (.int .i32) (0 : Int), .p false (.int .i64) (0 : Int), .p false (.int .i64) (0 : Int)])] 1 0 [True, True, 0 ≤ i1 ∧ i1 < (d1.length : Int), True, True, True] (by kernel_rfl) (by kernel_rfl) ⟨trivial, trivial, c13, trivial, trivial, trivial, trivial⟩ ?_
            refine to_then ?_
            refine W_seq ?_
            refine W_reg tbok ⟨[], []⟩ [] [0, 1] [(0, .p β0 (.slice (.int .u8)) d1), (1, .p false (.int .i64) i1), (4, .adr 0 0 3 0), (5, .p false (.int .i64) v6), (6, .p false (.int .i32) (IntKind.i32.wrap (d1.getD i1.toNat (0 : Int)))), (7, .sl 1)] [(0, .box [.p false (.int .i32) (0 : Int), .p false (.int .i64) (0 : Int), .p false (.int .i64) (0 : Int)]), (1, .arr 21 (.int .i32) ([(0 : Int), (127 : Int), (31 : Int), (15 : Int), (7 : Int)] : List Int))] 2 0 [True, True] (by kernel_rfl) (by kernel_rfl) ⟨trivial, trivial, trivial⟩ ?_
            refine to_then ?_
            refine W_seq ?_
            obtain ⟨c16, h⟩ := h_guard h
            obtain ⟨c17, h⟩ := h_guard h
            refine W_reg tbok ⟨[], []⟩ [] [0] [(0, .p β0 (.slice (.int .u8)) d1), (1, .p false (.int .i64) i1), (4, .adr 0 0 3 0), (5, .p false (.int .i64) v6), (6, .p false (.int .i32) (bitsOf .and .i32 (IntKind.i32.wrap (d1.getD i1.toNat (0 : Int))) (([(0 : Int), (127 : Int), (31 : Int), (15 : Int), (7 : Int)] : List Int).getD v6.toNat (0 : Int))))] [(0, .box [.p false (.int .i32) (0 : Int), .p false (.int .i64) (0 : Int), .p false (.int .i64) (0 : Int)])] 1 0 [True, True, True, 0 ≤ v6 ∧ v6 < (([(0 : Int), (127 : Int), (31 : Int), (15 : Int), (7 : Int)] : List Int).length : Int), v6.toNat < ([(0 : Int), (127 : Int), (31 : Int), (15 : Int), (7 : Int)] : List Int).length, True, True] (by kernel_rfl) (by kernel_rfl) ⟨trivial, trivial, trivial, c16, c17, trivial, trivial, trivial⟩ ?_
            refine to_then ?_
            refine W_seq ?_
            refine W_seq ?_
            refine W_reg tbok ⟨[], []⟩ [] [0] [(0, .p β0 (.slice (.int .u8)) d1), (1, .p false (.int .i64) i1), (4, .adr 0 0 3 0), (5, .p false (.int .i64) v6), (6, .p false (.int .i32) (bitsOf .and .i32 (IntKind.i32.wrap (d1.getD i1.toNat (0 : Int))) (([(0 : Int), (127 : Int), (31 : Int), (15 : Int), (7 : Int)] : List Int).getD v6.toNat (0 : Int)))), (8, .p false (.int .i64) (1 : Int))] [(0, .box [.p false (.int .i32) (0 : Int), .p false (.int .i64) (0 : Int), .p false (.int .i64) (0 : Int)])] 1 0 [True] (by kernel_rfl) (by kernel_rfl) ⟨trivial, trivial⟩ ?_
            refine to_then ?_
            refine W_block ?_
            obtain ⟨v12, hp6, h⟩ := h_bind h
            refine W.mono (Q := (postX Try.f29.ntmps 2 (fun (v12 : Int) => mkSt [(1, .p false (.int .i64) i1), (4, .adr 0 0 3 0), (5, .p false (.int .i64) v6), (6, .p false (.int .i32) v12)] [(0, .box [.p false (.int .i32) (0 : Int), .p false (.int .i64) (0 : Int), .p false (.int .i64) (0 : Int)])] 1)) v12) (W_iter (f := fun ((v10, v11) : Int × Int) => mkSt [(0, .p β0 (.slice (.int .u8)) d1), (1, .p false (.int .i64) i1), (4, .adr 0 0 3 0), (5, .p false (.int .i64) v6), (6, .p false (.int .i32) v10), (8, .p false (.int .i64) v11)] [(0, .box [.p false (.int .i32) (0 : Int), .p false (.int .i64) (0 : Int), .p false (.int .i64) (0 : Int)])] 1) (Q := (postX Try.f29.ntmps 2 (fun (v12 : Int) => mkSt [(1, .p false (.int .i64) i1), (4, .adr 0 0 3 0), (5, .p false (.int .i64) v6), (6, .p false (.int .i32) v12)] [(0, .box [.p false (.int .i32) (0 : Int), .p false (.int .i64) (0 : Int), .p false (.int .i64) (0 : Int)])] 1))) hp6 (goal_le (gs := []) (f := [0]) (by kernel_rfl) (by kernel_rfl)) (fun y o ho => ?_)) (fun e σ' hq => ?_)
            · obtain ⟨v10, v11⟩ := y
              replace h := ho
              clear ho hp6
              unfold stanzaref01_One_L2 at h
              refine W_seq ?_
              refine W_seq ?_
              refine W_reg tbok ⟨[], []⟩ [] [0] [(0, .p β0 (.slice (.int .u8)) d1), (1, .p false (.int .i64) i1), (4, .adr 0 0 3 0), (5, .p false (.int .i64) v6), (6, .p false (.int .i32) v10), (8, .p false (.int .i64) v11), (68, .p false .bool (decide (v11 < v6)))] [(0, .box [.p false (.int .i32) (0 : Int), .p false (.int .i64) (0 : Int), .p false (.int .i64) (0 : Int)])] 1 0 [True, True, True] (by kernel_rfl) (by kernel_rfl) ⟨trivial, trivial, trivial, trivial⟩ ?_
              refine to_then ?_
              refine W_cond (b := (decide (v11 < v6))) (β := false) (by kernel_rfl) (fun hb30 => ?_) (fun hb30 => ?_)
              · replace h := h_if hb30 h
                refine W_skip_to ?_
                refine to_then ?_
                refine W_seq ?_
                refine W_block ?_
                obtain ⟨c23, h⟩ := h_guard h
                refine W_reg tbok ⟨[], []⟩ [] [0] [(0, .p β0 (.slice (.int .u8)) d1), (1, .p false (.int .i64) i1), (4, .adr 0 0 3 0), (5, .p false (.int .i64) v6), (6, .p false (.int .i32) (IntKind.i32.wrap ((IntKind.i32.wrap ((IntKind.i32.wrap (v10 * (64 : Int))) + (IntKind.i32.wrap (d1.getD ((IntKind.i64.wrap (i1 + v11)).toNat) (0 : Int))))) - (128 : Int)))), (8, .p false (.int .i64) v11)] [(0, .box [.p false (.int .i32) (0 : Int), .p false (.int .i64) (0 : Int), .p false (.int .i64) (0 : Int)])] 1 0 [True, True, True, True, True, True, 0 ≤ (IntKind.i64.wrap (i1 + v11)) ∧ (IntKind.i64.wrap (i1 + v11)) < (d1.length : Int), True, True, True, True, True] (by kernel_rfl) (by kernel_rfl) ⟨trivial, trivial, trivial, trivial, trivial, trivial, c23, trivial, trivial, trivial, trivial, trivial, trivial⟩ ?_
                refine to_block ?_
                refine to_then ?_
                refine W_reg tbok ⟨[], []⟩ [] [0] [(0, .p β0 (.slice (.int .u8)) d1), (1, .p false (.int .i64) i1), (4, .adr 0 0 3 0), (5, .p false (.int .i64) v6), (6, .p false (.int .i32) (IntKind.i32.wrap ((IntKind.i32.wrap ((IntKind.i32.wrap (v10 * (64 : Int))) + (IntKind.i32.wrap (d1.getD ((IntKind.i64.wrap (i1 + v11)).toNat) (0 : Int))))) - (128 : Int)))), (8, .p false (.int .i64) (IntKind.i64.wrap (v11 + (1 : Int))))] [(0, .box [.p false (.int .i32) (0 : Int), .p false (.int .i64) (0 : Int), .p false (.int .i64) (0 : Int)])] 1 0 [True, True, True] (by kernel_rfl) (by kernel_rfl) ⟨trivial, trivial, trivial, trivial⟩ ?_
                obtain rfl := Option.some.inj h
                exact roundB (goal_le (gs := []) (f := [0]) (by kernel_rfl) (by kernel_rfl))
              · replace h := h_else hb30 h
                refine W_exit_to ?_
                refine thenE ?_
                obtain rfl := Option.some.inj h
                refine roundE ?_
                exact postX_to (goal_le (gs := []) (f := [0]) (by kernel_rfl) (by kernel_rfl))
            · clear hp6
              obtain ⟨rfl, hle⟩ := hq
              refine use_to ?_ hle
              refine blockE_eq ?_
              refine to_then ?_
              refine W_seq ?_
              refine W_reg tbok ⟨[], []⟩ [] [0] [(4, .adr 0 0 3 0)] [(0, .box [.p false (.int .i32) v12, .p false (.int .i64) i1, .p false (.int .i64) v6])] 1 0 [True, True, True, True, True] (by kernel_rfl) (by kernel_rfl) ⟨trivial, trivial, trivial, trivial, trivial, trivial⟩ ?_
              refine to_then ?_
              refine W_ret ?_
              obtain rfl := Option.some.inj h
              exact Ret_intro [(.prod (.int .i32) (.prod (.int .i64) (.int .i64)))] (by kernel_rfl)

/-- a loop of 'stanza/stanzaref01.All': one round -/
def stanzaref01_All_L1 (b1 : List Int) : ((List (Int × Int × Int)) × Int) → Option (((List (Int × Int × Int)) × Int) ⊕ (List (Int × Int × Int))) := fun ((out2, at2) : (List (Int × Int × Int)) × Int) =>
  (if (decide (at2 < (b1.length : Int))) = true then ((stanzaref01_One b1 at2).bind fun (r6 : Int × Int × Int) =>
  (if (out2.length + ([(r6.1, (r6.2.1, r6.2.2))] : List (Int × Int × Int)).length) * 24 ≤ 140737488355328 ∧ out2.length + ([(r6.1, (r6.2.1, r6.2.2))] : List (Int × Int × Int)).length ≤ 9223372036854775807 then some (Sum.inl ((out2 ++ ([(r6.1, (r6.2.1, r6.2.2))] : List (Int × Int × Int))), (IntKind.i64.wrap (at2 + r6.2.2)))) else none))
  else some (Sum.inr out2))

/-- 'stanza/stanzaref01.All' -/
def stanzaref01_All (b1 : List Int) : Option (List (Int × Int × Int)) :=
  ((iter (stanzaref01_All_L1 b1) (([] : List (Int × Int × Int)), (0 : Int))).bind fun (out3 : List (Int × Int × Int)) => some out3)

set_option maxRecDepth 100000 in
set_option maxHeartbeats 4000000 in
theorem stanzaref01_All_ok (β0 : Bool) (b1 : List Int) (res : List (Int × Int × Int)) (h : stanzaref01_All b1 = some res) :
    Pure Try.prog 22 [.p β0 (.slice (.int .u8)) b1] (wrapR (encs false [⟨(.slice (.prod (.int .i32) (.prod (.int .i64) (.int .i64)))), res⟩])) := by
  refine Pure.of_body tbok Try.func22 (by kernel_rfl) rfl (Nat.le_of_ble_eq_true rfl) (fun Bw w0 => ?_) rfl
  unfold stanzaref01_All at h
  refine W_seq ?_
  refine W_reg tbok ⟨[], []⟩ [] [] [(0, .p β0 (.slice (.int .u8)) b1)] [] 0 0 [True] (by kernel_rfl) (by kernel_rfl) ⟨trivial, trivial⟩ ?_
  refine to_then ?_
  refine W_seq ?_
  refine W_reg tbok ⟨[], []⟩ [] [] [(0, .p β0 (.slice (.int .u8)) b1), (3, .nils)] [] 0 0 [True] (by kernel_rfl) (by kernel_rfl) ⟨trivial, trivial⟩ ?_
  refine to_then ?_
  refine W_seq ?_
  refine W_reg tbok ⟨[], []⟩ [] [] [(0, .p β0 (.slice (.int .u8)) b1), (3, .nils), (4, .p false (.int .i64) (0 : Int))] [] 0 0 [True] (by kernel_rfl) (by kernel_rfl) ⟨trivial, trivial⟩ ?_
  refine to_then ?_
  refine W_seq ?_
  refine W_block ?_
  obtain ⟨out3, hp1, h⟩ := h_bind h
  refine W.mono (Q := (postX Try.f22.ntmps 0 (fun (out3 : List (Int × Int × Int)) => mkSt [(3, .sl 0)] [(0, .arr 48 (.prod (.int .i32) (.prod (.int .i64) (.int .i64))) out3)] 1)) out3) (W_iter (f := fun ((out2, at2) : (List (Int × Int × Int)) × Int) => mkSt [(0, .p β0 (.slice (.int .u8)) b1), (3, .sl 0), (4, .p false (.int .i64) at2)] [(0, .arr 48 (.prod (.int .i32) (.prod (.int .i64) (.int .i64))) out2)] 1) (Q := (postX Try.f22.ntmps 0 (fun (out3 : List (Int × Int × Int)) => mkSt [(3, .sl 0)] [(0, .arr 48 (.prod (.int .i32) (.prod (.int .i64) (.int .i64))) out3)] 1))) hp1 (goal_le (gs := [.nilS 3 0 48 (.prod (.int .i32) (.prod (.int .i64) (.int .i64)))]) (f := [0]) (by kernel_rfl) (by kernel_rfl)) (fun y o ho => ?_)) (fun e σ' hq => ?_)
  · obtain ⟨out2, at2⟩ := y
    replace h := ho
    clear ho hp1
    unfold stanzaref01_All_L1 at h
    refine W_seq ?_
    refine W_seq ?_
    refine W_reg tbok ⟨[], []⟩ [] [0] [(0, .p β0 (.slice (.int .u8)) b1), (3, .sl 0), (4, .p false (.int .i64) at2), (9, .p false .bool (decide (at2 < (b1.length : Int))))] [(0, .arr 48 (.prod (.int .i32) (.prod (.int .i64) (.int .i64))) out2)] 1 0 [True, True, True, True] (by kernel_rfl) (by kernel_rfl) ⟨trivial, trivial, trivial, trivial, trivial⟩ ?_
    refine to_then ?_
    refine W_cond (b := (decide (at2 < (b1.length : Int)))) (β := false) (by kernel_rfl) (fun hb3 => ?_) (fun hb3 => ?_)
    · replace h := h_if hb3 h
      refine W_skip_to ?_
      refine to_then ?_
      refine W_block ?_
      refine W_seq ?_
      obtain ⟨r6, q6, h⟩ := h_bind h
      refine W_reg tbok ⟨[], [(2, ⟨.agg [.p false (.int .i32) r6.1, .p false (.int .i64) r6.2.1, .p false (.int .i64) r6.2.2], [false, false], false, [true, true], [], []⟩)]⟩ [] [0, 25] [(0, .p β0 (.slice (.int .u8)) b1), (3, .sl 0), (4, .p false (.int .i64) at2), (5, .adr 1 0 3 0)] [(0, .arr 48 (.prod (.int .i32) (.prod (.int .i64) (.int .i64))) out2), (1, .box [.p false (.int .i32) r6.1, .p false (.int .i64) r6.2.1, .p false (.int .i64) r6.2.2])] 2 0 [True, True, Pure Try.prog 29 [.p β0 (.slice (.int .u8)) b1, .p false (.int .i64) at2] (.agg [.p false (.int .i32) r6.1, .p false (.int .i64) r6.2.1, .p false (.int .i64) r6.2.2]), True, True] (by kernel_rfl) (by kernel_rfl) ⟨trivial, trivial, (stanzaref01_One_ok β0 b1 at2 _ q6), trivial, trivial, trivial⟩ ?_
      refine to_then ?_
      refine W_seq ?_
      obtain ⟨c6, h⟩ := h_guard h
      refine W_reg tbok ⟨[], []⟩ [] [26, 1] [(0, .p β0 (.slice (.int .u8)) b1), (3, .sl 0), (4, .p false (.int .i64) at2), (5, .adr 1 0 3 0)] [(0, .arr 48 (.prod (.int .i32) (.prod (.int .i64) (.int .i64))) (out2 ++ ([(r6.1, (r6.2.1, r6.2.2))] : List (Int × Int × Int)))), (1, .box [.p false (.int .i32) r6.1, .p false (.int .i64) r6.2.1, .p false (.int .i64) r6.2.2])] 2 0 [True, True, True, (out2.length + ([(r6.1, (r6.2.1, r6.2.2))] : List (Int × Int × Int)).length) * 24 ≤ 140737488355328 ∧ out2.length + ([(r6.1, (r6.2.1, r6.2.2))] : List (Int × Int × Int)).length ≤ 9223372036854775807, True] (by kernel_rfl) (by kernel_rfl) ⟨trivial, trivial, trivial, c6, trivial, trivial⟩ ?_
      refine to_then ?_
      refine W_reg tbok ⟨[], []⟩ [] [0] [(0, .p β0 (.slice (.int .u8)) b1), (3, .sl 0), (4, .p false (.int .i64) (IntKind.i64.wrap (at2 + r6.2.2)))] [(0, .arr 48 (.prod (.int .i32) (.prod (.int .i64) (.int .i64))) (out2 ++ ([(r6.1, (r6.2.1, r6.2.2))] : List (Int × Int × Int))))] 1 0 [True, True, True, True, True] (by kernel_rfl) (by kernel_rfl) ⟨trivial, trivial, trivial, trivial, trivial, trivial⟩ ?_
      refine to_block ?_
      obtain rfl := Option.some.inj h
      exact roundB (goal_le (gs := []) (f := [0]) (by kernel_rfl) (by kernel_rfl))
    · replace h := h_else hb3 h
      refine W_exit_to ?_
      refine thenE ?_
      obtain rfl := Option.some.inj h
      refine roundE ?_
      exact postX_to (goal_le (gs := []) (f := [0]) (by kernel_rfl) (by kernel_rfl))
  · clear hp1
    obtain ⟨rfl, hle⟩ := hq
    refine use_to ?_ hle
    refine blockE_eq ?_
    refine to_then ?_
    refine W_seq ?_
    refine W_reg tbok ⟨[], []⟩ [] [0] [(2, .sl 0)] [(0, .arr 48 (.prod (.int .i32) (.prod (.int .i64) (.int .i64))) out3)] 1 0 [True, True] (by kernel_rfl) (by kernel_rfl) ⟨trivial, trivial, trivial⟩ ?_
    refine to_then ?_
    refine W_ret ?_
    obtain rfl := Option.some.inj h
    exact Ret_intro [(.slice (.prod (.int .i32) (.prod (.int .i64) (.int .i64))))] (by kernel_rfl)

/-- 'stanza/stanzaref07.blank' -/
def stanzaref07_blank (r1 : Int) : Option (Bool) :=
  (((if (r1 == (32 : Int)) = true then some (true)
  else (if (r1 == (9 : Int)) = true then some (true)
  else (if (r1 == (10 : Int)) = true then some (true)
  else some ((r1 == (13 : Int))))))).bind fun (v1 : Bool) => some v1)

set_option maxRecDepth 100000 in
set_option maxHeartbeats 4000000 in
theorem stanzaref07_blank_ok (r1 : Int) (res : Bool) (h : stanzaref07_blank r1 = some res) :
    Pure Try.prog 23 [.p false (.int .i32) r1] (wrapR (encs false [⟨.bool, res⟩])) := by
  refine Pure.of_body tbok Try.func23 (by kernel_rfl) rfl (Nat.le_of_ble_eq_true rfl) (fun Bw w0 => ?_) rfl
  unfold stanzaref07_blank at h
  refine W_seq ?_
  refine W_reg tbok ⟨[], []⟩ [] [] [(0, .p false (.int .i32) r1)] [] 0 0 [True] (by kernel_rfl) (by kernel_rfl) ⟨trivial, trivial⟩ ?_
  refine to_then ?_
  refine W_seq ?_
  obtain ⟨v1, hp1, h⟩ := h_bind h
  refine W.mono (Q := (postN Try.f23.ntmps (fun (v1 : Bool) => mkSt [(2, .p false .bool v1)] [] 0)) v1) ?_ (fun e σ' hq => ?_)
  · replace h := hp1
    clear hp1
    rcases Bool.eq_false_or_eq_true (r1 == (32 : Int)) with hb7 | hb7
    · replace h := h_if hb7 h
      refine W_reg tbok ⟨[(2, true), (5, true), (6, true), (9, true), (10, true), (13, true)], []⟩ [] [] [(2, .p false .bool true)] [] 0 0 [True, True, True, (r1 == (32 : Int)) = true, (r1 == (32 : Int)) = true, (r1 == (32 : Int)) = true, True, true = true, true = true, true = true, True, true = true, true = true, true = true, True] (by kernel_rfl) (by kernel_rfl) ⟨trivial, trivial, trivial, hb7, hb7, hb7, trivial, rfl, rfl, rfl, trivial, rfl, rfl, rfl, trivial, trivial⟩ ?_
      obtain rfl := Option.some.inj h
      exact postN_to (goal_le (gs := []) (f := []) (by kernel_rfl) (by kernel_rfl))
    · replace h := h_else hb7 h
      rcases Bool.eq_false_or_eq_true (r1 == (9 : Int)) with hb8 | hb8
      · replace h := h_if hb8 h
        refine W_reg tbok ⟨[(2, false), (5, false), (6, true), (9, true), (10, true), (13, true)], []⟩ [] [] [(2, .p false .bool true)] [] 0 0 [True, True, True, (r1 == (32 : Int)) = false ∧ True, (r1 == (32 : Int)) = false ∧ True, (r1 == (32 : Int)) = false, True, (r1 == (9 : Int)) = true, (r1 == (9 : Int)) = true, (r1 == (9 : Int)) = true, True, true = true, true = true, true = true, True] (by kernel_rfl) (by kernel_rfl) ⟨trivial, trivial, trivial, ⟨hb7, trivial⟩, ⟨hb7, trivial⟩, hb7, trivial, hb8, hb8, hb8, trivial, rfl, rfl, rfl, trivial, trivial⟩ ?_
        obtain rfl := Option.some.inj h
        exact postN_to (goal_le (gs := []) (f := []) (by kernel_rfl) (by kernel_rfl))
      · replace h := h_else hb8 h
        rcases Bool.eq_false_or_eq_true (r1 == (10 : Int)) with hb9 | hb9
        · replace h := h_if hb9 h
          refine W_reg tbok ⟨[(2, false), (5, false), (6, false), (9, false), (10, true), (13, true)], []⟩ [] [] [(2, .p false .bool true)] [] 0 0 [True, True, True, (r1 == (32 : Int)) = false ∧ True, (r1 == (32 : Int)) = false ∧ True, (r1 == (32 : Int)) = false, True, (r1 == (9 : Int)) = false ∧ True, (r1 == (9 : Int)) = false ∧ True, (r1 == (9 : Int)) = false, True, (r1 == (10 : Int)) = true, (r1 == (10 : Int)) = true, (r1 == (10 : Int)) = true, True] (by kernel_rfl) (by kernel_rfl) ⟨trivial, trivial, trivial, ⟨hb7, trivial⟩, ⟨hb7, trivial⟩, hb7, trivial, ⟨hb8, trivial⟩, ⟨hb8, trivial⟩, hb8, trivial, hb9, hb9, hb9, trivial, trivial⟩ ?_
          obtain rfl := Option.some.inj h
          exact postN_to (goal_le (gs := []) (f := []) (by kernel_rfl) (by kernel_rfl))
        · replace h := h_else hb9 h
          refine W_reg tbok ⟨[(2, false), (5, false), (6, false), (9, false), (10, false), (13, false)], []⟩ [] [] [(2, .p false .bool (r1 == (13 : Int)))] [] 0 0 [True, True, True, (r1 == (32 : Int)) = false ∧ True, (r1 == (32 : Int)) = false ∧ True, (r1 == (32 : Int)) = false, True, (r1 == (9 : Int)) = false ∧ True, (r1 == (9 : Int)) = false ∧ True, (r1 == (9 : Int)) = false, True, (r1 == (10 : Int)) = false ∧ True, (r1 == (10 : Int)) = false ∧ True, (r1 == (10 : Int)) = false, True] (by kernel_rfl) (by kernel_rfl) ⟨trivial, trivial, trivial, ⟨hb7, trivial⟩, ⟨hb7, trivial⟩, hb7, trivial, ⟨hb8, trivial⟩, ⟨hb8, trivial⟩, hb8, trivial, ⟨hb9, trivial⟩, ⟨hb9, trivial⟩, hb9, trivial, trivial⟩ ?_
          obtain rfl := Option.some.inj h
          exact postN_to (goal_le (gs := []) (f := []) (by kernel_rfl) (by kernel_rfl))
  · clear hp1
    obtain ⟨rfl, hle⟩ := hq
    refine use_to ?_ hle
    refine to_then ?_
    refine W_ret ?_
    obtain rfl := Option.some.inj h
    exact Ret_intro [.bool] (by kernel_rfl)

/-- a loop of 'stanza/stanzaref07.pattern': one round -/
def stanzaref07_pattern_L1 (d1 : List Int) (i1 : Bool) : ((List Int) × (List Int) × Int × Int) → Option (((List Int) × (List Int) × Int × Int) ⊕ (((List Int) × (List Int) × Int) ⊕ (((List Int) × List Int) × Bool))) := fun ((v29, v30, v31, v32) : (List Int) × (List Int) × Int × Int) =>
  (((if (decide (v32 < (d1.length : Int))) = true then (if 0 ≤ v32 ∧ v32 < (d1.length : Int) then (((if (!i1) = true then (if (decide ((d1.getD v32.toNat (0 : Int)) ≥ (48 : Int))) = true then some ((decide ((d1.getD v32.toNat (0 : Int)) ≤ (57 : Int))))
  else some (false))
  else some (false))).bind fun (v41 : Bool) => (if v41 = true then some ((Sum.inl ((IntKind.i64.wrap (v32 + (1 : Int))), (IntKind.u8.wrap (IntKind.i32.wrap ((d1.getD v32.toNat (0 : Int)) - (48 : Int)))))))
  else (((if i1 = true then some (((d1.getD v32.toNat (0 : Int)) == (45 : Int)))
  else some (false))).bind fun (v42 : Bool) => (if v42 = true then (((if (v32 == (0 : Int)) = true then some (true)
  else some ((v32 == (IntKind.i64.wrap ((d1.length : Int) - (1 : Int))))))).bind fun (v43 : Bool) => (if v43 = true then some ((Sum.inr ((v29, v30), false)))
  else some ((Sum.inl ((IntKind.i64.wrap (v32 + (1 : Int))), (1 : Int))))))
  else some ((Sum.inl (v32, (0 : Int)))))))) else none)
  else some ((Sum.inl (v32, (0 : Int)))))).bind fun (r17 : ((Int × Int) ⊕ (((List Int) × List Int) × Bool))) => match r17 with
  | .inl (v39, v40) => (if (v30.length + ([v40] : List Int).length) * 1 ≤ 140737488355328 ∧ v30.length + ([v40] : List Int).length ≤ 9223372036854775807 then (if (v39 == (d1.length : Int)) = true then some (Sum.inr (Sum.inl (v29, (v30 ++ ([v40] : List Int)), v31)))
  else (if 0 ≤ v39 ∧ v39 < (d1.length : Int) then (((if ((d1.getD v39.toNat (0 : Int)) == (45 : Int)) = true then some (true)
  else (if (decide ((d1.getD v39.toNat (0 : Int)) ≥ (48 : Int))) = true then (if (decide ((d1.getD v39.toNat (0 : Int)) ≤ (57 : Int))) = true then some (true)
  else some (((d1.getD v39.toNat (0 : Int)) == (65533 : Int))))
  else some (((d1.getD v39.toNat (0 : Int)) == (65533 : Int)))))).bind fun (v44 : Bool) => (if v44 = true then some (Sum.inr (Sum.inr ((v29, (v30 ++ ([v40] : List Int))), false)))
  else (((if ((d1.getD v39.toNat (0 : Int)) == (46 : Int)) = true then (((if i1 = true then some (true)
  else (if (v39 != (0 : Int)) = true then some ((v39 != (IntKind.i64.wrap ((d1.length : Int) - (1 : Int)))))
  else some (false)))).bind fun (v47 : Bool) => (if v47 = true then some ((Sum.inr ((v29, (v30 ++ ([v40] : List Int))), false)))
  else some ((Sum.inl v31))))
  else some ((Sum.inl (IntKind.i64.wrap (v31 + (1 : Int))))))).bind fun (r20 : ((Int) ⊕ (((List Int) × List Int) × Bool))) => match r20 with
  | .inl v46 => (if (v29.length + ([(d1.getD v39.toNat (0 : Int))] : List Int).length) * 4 ≤ 140737488355328 ∧ v29.length + ([(d1.getD v39.toNat (0 : Int))] : List Int).length ≤ 9223372036854775807 then some (Sum.inl ((v29 ++ ([(d1.getD v39.toNat (0 : Int))] : List Int)), (v30 ++ ([v40] : List Int)), v46, (IntKind.i64.wrap (v39 + (1 : Int))))) else none)
  | .inr ((r18, r19)) => some (Sum.inr (Sum.inr (r18, r19)))))) else none)) else none)
  | .inr ((r15, r16)) => some (Sum.inr (Sum.inr (r15, r16))))

/-- 'stanza/stanzaref07.pattern' -/
def stanzaref07_pattern (d1 : List Int) (i1 : Bool) : Option (((List Int) × List Int) × Bool) :=
  ((iter (stanzaref07_pattern_L1 d1 i1) (([] : List Int), ([] : List Int), (0 : Int), (0 : Int))).bind fun (r21 : (((List Int) × (List Int) × Int) ⊕ (((List Int) × List Int) × Bool))) => match r21 with
  | .inl (v33, v34, v35) => (((if (decide (v35 > (0 : Int))) = true then some ((decide ((v33.length : Int) ≤ (24 : Int))))
  else some (false))).bind fun (v48 : Bool) => some ((v33, v34), v48))
  | .inr ((r13, r14)) => some (r13, r14))

set_option maxRecDepth 100000 in
set_option maxHeartbeats 4000000 in
theorem stanzaref07_pattern_ok (β0 : Bool) (d1 : List Int) (i1 : Bool) (res : ((List Int) × List Int) × Bool) (h : stanzaref07_pattern d1 i1 = some res) :
    Pure Try.prog 24 [.p β0 (.slice (.int .i32)) d1, .p false .bool i1] (wrapR (encs false [⟨(.prod (.slice (.int .i32)) (.slice (.int .u8))), res.1⟩, ⟨.bool, res.2⟩])) := by
  refine Pure.of_body tbok Try.func24 (by kernel_rfl) rfl (Nat.le_of_ble_eq_true rfl) (fun Bw w0 => ?_) rfl
  unfold stanzaref07_pattern at h
  refine W_seq ?_
  refine W_reg tbok ⟨[], []⟩ [] [0] [(0, .p β0 (.slice (.int .i32)) d1), (1, .p false .bool i1), (4, .adr 0 0 2 0)] [(0, .box [.nils, .nils])] 1 0 [True, True] (by kernel_rfl) (by kernel_rfl) ⟨trivial, trivial, trivial⟩ ?_
  refine to_then ?_
  refine W_seq ?_
  refine W_reg tbok ⟨[], []⟩ [] [0, 9] [(0, .p β0 (.slice (.int .i32)) d1), (1, .p false .bool i1), (4, .adr 0 0 2 0), (6, .adr 1 0 2 0)] [(0, .box [.nils, .nils]), (1, .box [.nils, .nils])] 2 0 [True, True, True] (by kernel_rfl) (by kernel_rfl) ⟨trivial, trivial, trivial, trivial⟩ ?_
  refine to_then ?_
  refine W_seq ?_
  refine W_reg tbok ⟨[], []⟩ [] [0, 1] [(0, .p β0 (.slice (.int .i32)) d1), (1, .p false .bool i1), (4, .adr 0 0 2 0), (6, .adr 1 0 2 0), (7, .p false (.int .i64) (0 : Int))] [(0, .box [.nils, .nils]), (1, .box [.nils, .nils])] 2 0 [True] (by kernel_rfl) (by kernel_rfl) ⟨trivial, trivial⟩ ?_
  refine to_then ?_
  refine W_seq ?_
  refine W_reg tbok ⟨[], []⟩ [] [0, 1] [(0, .p β0 (.slice (.int .i32)) d1), (1, .p false .bool i1), (4, .adr 0 0 2 0), (6, .adr 1 0 2 0), (7, .p false (.int .i64) (0 : Int)), (8, .p false (.int .i64) (0 : Int))] [(0, .box [.nils, .nils]), (1, .box [.nils, .nils])] 2 0 [True] (by kernel_rfl) (by kernel_rfl) ⟨trivial, trivial⟩ ?_
  refine to_then ?_
  refine W_seq ?_
  refine W_block ?_
  obtain ⟨r21, hp34, h⟩ := h_bind h
  refine W.mono (Q := (postS (postX Try.f24.ntmps 0 (fun ((v33, v34, v35) : (List Int) × (List Int) × Int) => mkSt [(4, .adr 0 0 2 0), (6, .adr 1 0 2 0), (7, .p false (.int .i64) v35)] [(0, .box [.nils, .nils]), (1, .box [.sl 2, .sl 3]), (2, .arr 21 (.int .i32) v33), (3, .arr 5 (.int .u8) v34)] 4)) (postR tb Try.f24.results.toList (fun ((r13, r14) : ((List Int) × List Int) × Bool) => [⟨(.prod (.slice (.int .i32)) (.slice (.int .u8))), r13⟩, ⟨.bool, r14⟩]))) r21) (W_iter (f := fun ((v29, v30, v31, v32) : (List Int) × (List Int) × Int × Int) => mkSt [(0, .p β0 (.slice (.int .i32)) d1), (1, .p false .bool i1), (4, .adr 0 0 2 0), (6, .adr 1 0 2 0), (7, .p false (.int .i64) v31), (8, .p false (.int .i64) v32)] [(0, .box [.nils, .nils]), (1, .box [.sl 2, .sl 3]), (2, .arr 21 (.int .i32) v29), (3, .arr 5 (.int .u8) v30)] 4) (Q := (postS (postX Try.f24.ntmps 0 (fun ((v33, v34, v35) : (List Int) × (List Int) × Int) => mkSt [(4, .adr 0 0 2 0), (6, .adr 1 0 2 0), (7, .p false (.int .i64) v35)] [(0, .box [.nils, .nils]), (1, .box [.sl 2, .sl 3]), (2, .arr 21 (.int .i32) v33), (3, .arr 5 (.int .u8) v34)] 4)) (postR tb Try.f24.results.toList (fun ((r13, r14) : ((List Int) × List Int) × Bool) => [⟨(.prod (.slice (.int .i32)) (.slice (.int .u8))), r13⟩, ⟨.bool, r14⟩])))) hp34 (goal_le (gs := [.nilC 1 0 2 21 (.int .i32), .nilC 1 1 3 5 (.int .u8)]) (f := [0, 1, 2, 3]) (by kernel_rfl) (by kernel_rfl)) (fun y o ho => ?_)) (fun e σ' hq => ?_)
  · obtain ⟨v29, v30, v31, v32⟩ := y
    replace h := ho
    clear ho hp34
    unfold stanzaref07_pattern_L1 at h
    refine W_block ?_
    refine W_seq ?_
    refine W_reg tbok ⟨[], []⟩ [] [0, 1, 2, 3] [(0, .p β0 (.slice (.int .i32)) d1), (1, .p false .bool i1), (4, .adr 0 0 2 0), (6, .adr 1 0 2 0), (7, .p false (.int .i64) v31), (8, .p false (.int .i64) v32), (9, .p false (.int .u8) (0 : Int))] [(0, .box [.nils, .nils]), (1, .box [.sl 2, .sl 3]), (2, .arr 21 (.int .i32) v29), (3, .arr 5 (.int .u8) v30)] 4 0 [True] (by kernel_rfl) (by kernel_rfl) ⟨trivial, trivial⟩ ?_
    refine to_then ?_
    refine W_seq ?_
    refine W_seq ?_
    refine W_reg tbok ⟨[], []⟩ [] [0, 1, 2, 3] [(0, .p β0 (.slice (.int .i32)) d1), (1, .p false .bool i1), (4, .adr 0 0 2 0), (6, .adr 1 0 2 0), (7, .p false (.int .i64) v31), (8, .p false (.int .i64) v32), (9, .p false (.int .u8) (0 : Int)), (16, .p false .bool (decide (v32 < (d1.length : Int))))] [(0, .box [.nils, .nils]), (1, .box [.sl 2, .sl 3]), (2, .arr 21 (.int .i32) v29), (3, .arr 5 (.int .u8) v30)] 4 0 [True, True, True, True] (by kernel_rfl) (by kernel_rfl) ⟨trivial, trivial, trivial, trivial, trivial⟩ ?_
    refine to_then ?_
    obtain ⟨r17, hp29, h⟩ := h_bind h
    refine W.mono (Q := (postS (postN Try.f24.ntmps (fun ((v39, v40) : Int × Int) => mkSt [(0, .p β0 (.slice (.int .i32)) d1), (1, .p false .bool i1), (4, .adr 0 0 2 0), (6, .adr 1 0 2 0), (7, .p false (.int .i64) v31), (8, .p false (.int .i64) v39), (9, .p false (.int .u8) v40)] [(0, .box [.nils, .nils]), (1, .box [.sl 2, .sl 3]), (2, .arr 21 (.int .i32) v29), (3, .arr 5 (.int .u8) v30)] 4)) (postR tb Try.f24.results.toList (fun ((r15, r16) : ((List Int) × List Int) × Bool) => [⟨(.prod (.slice (.int .i32)) (.slice (.int .u8))), r15⟩, ⟨.bool, r16⟩]))) r17) ?_ (fun e σ' hq => ?_)
    · replace h := hp29
      clear hp29
      refine W_cond (b := (decide (v32 < (d1.length : Int)))) (β := false) (by kernel_rfl) (fun hb135 => ?_) (fun hb135 => ?_)
      · replace h := h_if hb135 h
        refine W_seq ?_
        obtain ⟨c24, h⟩ := h_guard h
        refine W_reg tbok ⟨[], []⟩ [] [0, 1, 2, 3] [(0, .p β0 (.slice (.int .i32)) d1), (1, .p false .bool i1), (4, .adr 0 0 2 0), (6, .adr 1 0 2 0), (7, .p false (.int .i64) v31), (8, .p false (.int .i64) v32), (9, .p false (.int .u8) (0 : Int)), (10, .p false (.int .i32) (d1.getD v32.toNat (0 : Int)))] [(0, .box [.nils, .nils]), (1, .box [.sl 2, .sl 3]), (2, .arr 21 (.int .i32) v29), (3, .arr 5 (.int .u8) v30)] 4 0 [True, True, 0 ≤ v32 ∧ v32 < (d1.length : Int), True, True] (by kernel_rfl) (by kernel_rfl) ⟨trivial, trivial, c24, trivial, trivial, trivial⟩ ?_
        refine to_then ?_
        refine W_seq ?_
        obtain ⟨v41, hp26, h⟩ := h_bind h
        refine W.mono (Q := (postN Try.f24.ntmps (fun (v41 : Bool) => mkSt [(0, .p β0 (.slice (.int .i32)) d1), (1, .p false .bool i1), (4, .adr 0 0 2 0), (6, .adr 1 0 2 0), (7, .p false (.int .i64) v31), (8, .p false (.int .i64) v32), (9, .p false (.int .u8) (0 : Int)), (10, .p false (.int .i32) (d1.getD v32.toNat (0 : Int))), (30, .p false .bool v41)] [(0, .box [.nils, .nils]), (1, .box [.sl 2, .sl 3]), (2, .arr 21 (.int .i32) v29), (3, .arr 5 (.int .u8) v30)] 4)) v41) ?_ (fun e σ' hq => ?_)
        · replace h := hp26
          clear hp26
          rcases Bool.eq_false_or_eq_true (!i1) with hb140 | hb140
          · replace h := h_if hb140 h
            rcases Bool.eq_false_or_eq_true (decide ((d1.getD v32.toNat (0 : Int)) ≥ (48 : Int))) with hb141 | hb141
            · replace h := h_if hb141 h
              refine W_reg tbok ⟨[(2, true), (5, true), (6, true), (9, true)], []⟩ [] [0, 1, 2, 3] [(0, .p β0 (.slice (.int .i32)) d1), (1, .p false .bool i1), (4, .adr 0 0 2 0), (6, .adr 1 0 2 0), (7, .p false (.int .i64) v31), (8, .p false (.int .i64) v32), (9, .p false (.int .u8) (0 : Int)), (10, .p false (.int .i32) (d1.getD v32.toNat (0 : Int))), (30, .p false .bool (decide ((d1.getD v32.toNat (0 : Int)) ≤ (57 : Int))))] [(0, .box [.nils, .nils]), (1, .box [.sl 2, .sl 3]), (2, .arr 21 (.int .i32) v29), (3, .arr 5 (.int .u8) v30)] 4 0 [True, True, True, (!i1) = true ∧ True, (!i1) = true ∧ True, (!i1) = true, True, (decide ((d1.getD v32.toNat (0 : Int)) ≥ (48 : Int))) = true ∧ True, (decide ((d1.getD v32.toNat (0 : Int)) ≥ (48 : Int))) = true ∧ True, (decide ((d1.getD v32.toNat (0 : Int)) ≥ (48 : Int))) = true] (by kernel_rfl) (by kernel_rfl) ⟨trivial, trivial, trivial, ⟨hb140, trivial⟩, ⟨hb140, trivial⟩, hb140, trivial, ⟨hb141, trivial⟩, ⟨hb141, trivial⟩, hb141, trivial⟩ ?_
              obtain rfl := Option.some.inj h
              exact postN_to (goal_le (gs := []) (f := [0, 1, 2, 3]) (by kernel_rfl) (by kernel_rfl))
            · replace h := h_else hb141 h
              refine W_reg tbok ⟨[(2, true), (5, true), (6, false), (9, false)], []⟩ [] [0, 1, 2, 3] [(0, .p β0 (.slice (.int .i32)) d1), (1, .p false .bool i1), (4, .adr 0 0 2 0), (6, .adr 1 0 2 0), (7, .p false (.int .i64) v31), (8, .p false (.int .i64) v32), (9, .p false (.int .u8) (0 : Int)), (10, .p false (.int .i32) (d1.getD v32.toNat (0 : Int))), (30, .p false .bool false)] [(0, .box [.nils, .nils]), (1, .box [.sl 2, .sl 3]), (2, .arr 21 (.int .i32) v29), (3, .arr 5 (.int .u8) v30)] 4 0 [True, True, True, (!i1) = true ∧ True, (!i1) = true ∧ True, (!i1) = true, True, (decide ((d1.getD v32.toNat (0 : Int)) ≥ (48 : Int))) = false, (decide ((d1.getD v32.toNat (0 : Int)) ≥ (48 : Int))) = false, (decide ((d1.getD v32.toNat (0 : Int)) ≥ (48 : Int))) = false] (by kernel_rfl) (by kernel_rfl) ⟨trivial, trivial, trivial, ⟨hb140, trivial⟩, ⟨hb140, trivial⟩, hb140, trivial, hb141, hb141, hb141, trivial⟩ ?_
              obtain rfl := Option.some.inj h
              exact postN_to (goal_le (gs := []) (f := [0, 1, 2, 3]) (by kernel_rfl) (by kernel_rfl))
          · replace h := h_else hb140 h
            refine W_reg tbok ⟨[(2, false), (5, false), (6, false), (9, false)], []⟩ [] [0, 1, 2, 3] [(0, .p β0 (.slice (.int .i32)) d1), (1, .p false .bool i1), (4, .adr 0 0 2 0), (6, .adr 1 0 2 0), (7, .p false (.int .i64) v31), (8, .p false (.int .i64) v32), (9, .p false (.int .u8) (0 : Int)), (10, .p false (.int .i32) (d1.getD v32.toNat (0 : Int))), (30, .p false .bool false)] [(0, .box [.nils, .nils]), (1, .box [.sl 2, .sl 3]), (2, .arr 21 (.int .i32) v29), (3, .arr 5 (.int .u8) v30)] 4 0 [True, True, True, (!i1) = false, (!i1) = false, (!i1) = false, True, false = false, false = false, false = false] (by kernel_rfl) (by kernel_rfl) ⟨trivial, trivial, trivial, hb140, hb140, hb140, trivial, rfl, rfl, rfl, trivial⟩ ?_
            obtain rfl := Option.some.inj h
            exact postN_to (goal_le (gs := []) (f := [0, 1, 2, 3]) (by kernel_rfl) (by kernel_rfl))
        · clear hp26
          obtain ⟨rfl, hle⟩ := hq
          refine use_to ?_ hle
          refine to_then ?_
          refine W_cond (b := v41) (β := false) (by kernel_rfl) (fun hb142 => ?_) (fun hb142 => ?_)
          · replace h := h_if hb142 h
            refine W_seq ?_
            refine W_reg tbok ⟨[], []⟩ [] [0, 1, 2, 3] [(0, .p β0 (.slice (.int .i32)) d1), (1, .p false .bool i1), (4, .adr 0 0 2 0), (6, .adr 1 0 2 0), (7, .p false (.int .i64) v31), (8, .p false (.int .i64) v32), (9, .p false (.int .u8) (IntKind.u8.wrap (IntKind.i32.wrap ((d1.getD v32.toNat (0 : Int)) - (48 : Int)))))] [(0, .box [.nils, .nils]), (1, .box [.sl 2, .sl 3]), (2, .arr 21 (.int .i32) v29), (3, .arr 5 (.int .u8) v30)] 4 0 [True, True, True, True] (by kernel_rfl) (by kernel_rfl) ⟨trivial, trivial, trivial, trivial, trivial⟩ ?_
            refine to_then ?_
            refine W_reg tbok ⟨[], []⟩ [] [0, 1, 2, 3] [(0, .p β0 (.slice (.int .i32)) d1), (1, .p false .bool i1), (4, .adr 0 0 2 0), (6, .adr 1 0 2 0), (7, .p false (.int .i64) v31), (8, .p false (.int .i64) (IntKind.i64.wrap (v32 + (1 : Int)))), (9, .p false (.int .u8) (IntKind.u8.wrap (IntKind.i32.wrap ((d1.getD v32.toNat (0 : Int)) - (48 : Int)))))] [(0, .box [.nils, .nils]), (1, .box [.sl 2, .sl 3]), (2, .arr 21 (.int .i32) v29), (3, .arr 5 (.int .u8) v30)] 4 0 [True, True, True] (by kernel_rfl) (by kernel_rfl) ⟨trivial, trivial, trivial, trivial⟩ ?_
            obtain rfl := Option.some.inj h
            refine postS_l ?_
            exact postN_to (goal_le (gs := []) (f := [0, 1, 2, 3]) (by kernel_rfl) (by kernel_rfl))
          · replace h := h_else hb142 h
            refine W_seq ?_
            obtain ⟨v42, hp27, h⟩ := h_bind h
            refine W.mono (Q := (postN Try.f24.ntmps (fun (v42 : Bool) => mkSt [(0, .p β0 (.slice (.int .i32)) d1), (1, .p false .bool i1), (4, .adr 0 0 2 0), (6, .adr 1 0 2 0), (7, .p false (.int .i64) v31), (8, .p false (.int .i64) v32), (9, .p false (.int .u8) (0 : Int)), (40, .p false .bool v42)] [(0, .box [.nils, .nils]), (1, .box [.sl 2, .sl 3]), (2, .arr 21 (.int .i32) v29), (3, .arr 5 (.int .u8) v30)] 4)) v42) ?_ (fun e σ' hq => ?_)
            · replace h := hp27
              clear hp27
              rcases Bool.eq_false_or_eq_true i1 with hb145 | hb145
              · replace h := h_if hb145 h
                refine W_reg tbok ⟨[(1, true), (4, true)], []⟩ [] [0, 1, 2, 3] [(0, .p β0 (.slice (.int .i32)) d1), (1, .p false .bool i1), (4, .adr 0 0 2 0), (6, .adr 1 0 2 0), (7, .p false (.int .i64) v31), (8, .p false (.int .i64) v32), (9, .p false (.int .u8) (0 : Int)), (40, .p false .bool ((d1.getD v32.toNat (0 : Int)) == (45 : Int)))] [(0, .box [.nils, .nils]), (1, .box [.sl 2, .sl 3]), (2, .arr 21 (.int .i32) v29), (3, .arr 5 (.int .u8) v30)] 4 0 [True, True, i1 = true ∧ True, i1 = true ∧ True, i1 = true] (by kernel_rfl) (by kernel_rfl) ⟨trivial, trivial, ⟨hb145, trivial⟩, ⟨hb145, trivial⟩, hb145, trivial⟩ ?_
                obtain rfl := Option.some.inj h
                exact postN_to (goal_le (gs := []) (f := [0, 1, 2, 3]) (by kernel_rfl) (by kernel_rfl))
              · replace h := h_else hb145 h
                refine W_reg tbok ⟨[(1, false), (4, false)], []⟩ [] [0, 1, 2, 3] [(0, .p β0 (.slice (.int .i32)) d1), (1, .p false .bool i1), (4, .adr 0 0 2 0), (6, .adr 1 0 2 0), (7, .p false (.int .i64) v31), (8, .p false (.int .i64) v32), (9, .p false (.int .u8) (0 : Int)), (40, .p false .bool false)] [(0, .box [.nils, .nils]), (1, .box [.sl 2, .sl 3]), (2, .arr 21 (.int .i32) v29), (3, .arr 5 (.int .u8) v30)] 4 0 [True, True, i1 = false, i1 = false, i1 = false] (by kernel_rfl) (by kernel_rfl) ⟨trivial, trivial, hb145, hb145, hb145, trivial⟩ ?_
                obtain rfl := Option.some.inj h
                exact postN_to (goal_le (gs := []) (f := [0, 1, 2, 3]) (by kernel_rfl) (by kernel_rfl))
            · clear hp27
              obtain ⟨rfl, hle⟩ := hq
              refine use_to ?_ hle
              refine to_then ?_
              refine W_cond (b := v42) (β := false) (by kernel_rfl) (fun hb146 => ?_) (fun hb146 => ?_)
              · replace h := h_if hb146 h
                refine W_seq ?_
                refine W_seq ?_
                obtain ⟨v43, hp28, h⟩ := h_bind h
                refine W.mono (Q := (postN Try.f24.ntmps (fun (v43 : Bool) => mkSt [(0, .p β0 (.slice (.int .i32)) d1), (1, .p false .bool i1), (4, .adr 0 0 2 0), (6, .adr 1 0 2 0), (7, .p false (.int .i64) v31), (8, .p false (.int .i64) v32), (49, .p false .bool v43)] [(0, .box [.nils, .nils]), (1, .box [.sl 2, .sl 3]), (2, .arr 21 (.int .i32) v29), (3, .arr 5 (.int .u8) v30)] 4)) v43) ?_ (fun e σ' hq => ?_)
                · replace h := hp28
                  clear hp28
                  rcases Bool.eq_false_or_eq_true (v32 == (0 : Int)) with hb149 | hb149
                  · replace h := h_if hb149 h
                    refine W_reg tbok ⟨[(2, true), (8, true)], []⟩ [] [0, 1, 2, 3] [(0, .p β0 (.slice (.int .i32)) d1), (1, .p false .bool i1), (4, .adr 0 0 2 0), (6, .adr 1 0 2 0), (7, .p false (.int .i64) v31), (8, .p false (.int .i64) v32), (49, .p false .bool true)] [(0, .box [.nils, .nils]), (1, .box [.sl 2, .sl 3]), (2, .arr 21 (.int .i32) v29), (3, .arr 5 (.int .u8) v30)] 4 0 [True, True, True, (v32 == (0 : Int)) = true, (v32 == (0 : Int)) = true, (v32 == (0 : Int)) = true, (v32 == (0 : Int)) = true, (v32 == (0 : Int)) = true, (v32 == (0 : Int)) = true] (by kernel_rfl) (by kernel_rfl) ⟨trivial, trivial, trivial, hb149, hb149, hb149, hb149, hb149, hb149, trivial⟩ ?_
                    obtain rfl := Option.some.inj h
                    exact postN_to (goal_le (gs := []) (f := [0, 1, 2, 3]) (by kernel_rfl) (by kernel_rfl))
                  · replace h := h_else hb149 h
                    refine W_reg tbok ⟨[(2, false), (8, false)], []⟩ [] [0, 1, 2, 3] [(0, .p β0 (.slice (.int .i32)) d1), (1, .p false .bool i1), (4, .adr 0 0 2 0), (6, .adr 1 0 2 0), (7, .p false (.int .i64) v31), (8, .p false (.int .i64) v32), (49, .p false .bool (v32 == (IntKind.i64.wrap ((d1.length : Int) - (1 : Int)))))] [(0, .box [.nils, .nils]), (1, .box [.sl 2, .sl 3]), (2, .arr 21 (.int .i32) v29), (3, .arr 5 (.int .u8) v30)] 4 0 [True, True, True, (v32 == (0 : Int)) = false ∧ True, (v32 == (0 : Int)) = false ∧ True, (v32 == (0 : Int)) = false ∧ True, (v32 == (0 : Int)) = false ∧ True, (v32 == (0 : Int)) = false ∧ True, (v32 == (0 : Int)) = false] (by kernel_rfl) (by kernel_rfl) ⟨trivial, trivial, trivial, ⟨hb149, trivial⟩, ⟨hb149, trivial⟩, ⟨hb149, trivial⟩, ⟨hb149, trivial⟩, ⟨hb149, trivial⟩, hb149, trivial⟩ ?_
                    obtain rfl := Option.some.inj h
                    exact postN_to (goal_le (gs := []) (f := [0, 1, 2, 3]) (by kernel_rfl) (by kernel_rfl))
                · clear hp28
                  obtain ⟨rfl, hle⟩ := hq
                  refine use_to ?_ hle
                  refine to_then ?_
                  refine W_cond (b := v43) (β := false) (by kernel_rfl) (fun hb150 => ?_) (fun hb150 => ?_)
                  · replace h := h_if hb150 h
                    refine W_seq ?_
                    refine W_reg tbok ⟨[], []⟩ [] [0, 2, 3] [(4, .adr 0 0 2 0), (5, .p false .bool false)] [(0, .box [.sl 1, .sl 2]), (1, .arr 21 (.int .i32) v29), (2, .arr 5 (.int .u8) v30)] 3 0 [True, True, True] (by kernel_rfl) (by kernel_rfl) ⟨trivial, trivial, trivial, trivial⟩ ?_
                    refine to_then ?_
                    refine W_ret ?_
                    obtain rfl := Option.some.inj h
                    refine thenQ_ret ?_
                    refine postS_rr ?_
                    exact postR_mk (Ret_intro [(.prod (.slice (.int .i32)) (.slice (.int .u8))), .bool] (by kernel_rfl))
                  · replace h := h_else hb150 h
                    refine W_skip_to ?_
                    refine to_then ?_
                    refine W_seq ?_
                    refine W_reg tbok ⟨[], []⟩ [] [0, 1, 2, 3] [(0, .p β0 (.slice (.int .i32)) d1), (1, .p false .bool i1), (4, .adr 0 0 2 0), (6, .adr 1 0 2 0), (7, .p false (.int .i64) v31), (8, .p false (.int .i64) v32), (9, .p false (.int .u8) (1 : Int))] [(0, .box [.nils, .nils]), (1, .box [.sl 2, .sl 3]), (2, .arr 21 (.int .i32) v29), (3, .arr 5 (.int .u8) v30)] 4 0 [True] (by kernel_rfl) (by kernel_rfl) ⟨trivial, trivial⟩ ?_
                    refine to_then ?_
                    refine W_reg tbok ⟨[], []⟩ [] [0, 1, 2, 3] [(0, .p β0 (.slice (.int .i32)) d1), (1, .p false .bool i1), (4, .adr 0 0 2 0), (6, .adr 1 0 2 0), (7, .p false (.int .i64) v31), (8, .p false (.int .i64) (IntKind.i64.wrap (v32 + (1 : Int)))), (9, .p false (.int .u8) (1 : Int))] [(0, .box [.nils, .nils]), (1, .box [.sl 2, .sl 3]), (2, .arr 21 (.int .i32) v29), (3, .arr 5 (.int .u8) v30)] 4 0 [True, True, True] (by kernel_rfl) (by kernel_rfl) ⟨trivial, trivial, trivial, trivial⟩ ?_
                    obtain rfl := Option.some.inj h
                    refine postS_l ?_
                    exact postN_to (goal_le (gs := []) (f := [0, 1, 2, 3]) (by kernel_rfl) (by kernel_rfl))
              · replace h := h_else hb146 h
                refine W_skip_to ?_
                obtain rfl := Option.some.inj h
                refine postS_l ?_
                exact postN_to (goal_le (gs := []) (f := [0, 1, 2, 3]) (by kernel_rfl) (by kernel_rfl))
      · replace h := h_else hb135 h
        refine W_skip_to ?_
        obtain rfl := Option.some.inj h
        refine postS_l ?_
        exact postN_to (goal_le (gs := []) (f := [0, 1, 2, 3]) (by kernel_rfl) (by kernel_rfl))
    · clear hp29
      rcases r17 with ⟨v39, v40⟩ | ⟨r15, r16⟩
      · obtain ⟨rfl, hle⟩ := hq
        refine use_to ?_ hle
        refine to_then ?_
        refine W_seq ?_
        obtain ⟨c26, h⟩ := h_guard h
        refine W_reg tbok ⟨[], []⟩ [] [0, 1, 2, 36] [(0, .p β0 (.slice (.int .i32)) d1), (1, .p false .bool i1), (4, .adr 0 0 2 0), (6, .adr 1 0 2 0), (7, .p false (.int .i64) v31), (8, .p false (.int .i64) v39)] [(0, .box [.nils, .nils]), (1, .box [.sl 2, .sl 3]), (2, .arr 21 (.int .i32) v29), (3, .arr 5 (.int .u8) (v30 ++ ([v40] : List Int)))] 4 0 [True, True, True, True, (v30.length + ([v40] : List Int).length) * 1 ≤ 140737488355328 ∧ v30.length + ([v40] : List Int).length ≤ 9223372036854775807, True, True] (by kernel_rfl) (by kernel_rfl) ⟨trivial, trivial, trivial, trivial, c26, trivial, trivial, trivial⟩ ?_
        refine to_then ?_
        refine W_seq ?_
        refine W_seq ?_
        refine W_reg tbok ⟨[], []⟩ [] [0, 1, 2, 3] [(0, .p β0 (.slice (.int .i32)) d1), (1, .p false .bool i1), (4, .adr 0 0 2 0), (6, .adr 1 0 2 0), (7, .p false (.int .i64) v31), (8, .p false (.int .i64) v39), (62, .p false .bool (v39 == (d1.length : Int)))] [(0, .box [.nils, .nils]), (1, .box [.sl 2, .sl 3]), (2, .arr 21 (.int .i32) v29), (3, .arr 5 (.int .u8) (v30 ++ ([v40] : List Int)))] 4 0 [True, True, True, True] (by kernel_rfl) (by kernel_rfl) ⟨trivial, trivial, trivial, trivial, trivial⟩ ?_
        refine to_then ?_
        refine W_cond (b := (v39 == (d1.length : Int))) (β := false) (by kernel_rfl) (fun hb151 => ?_) (fun hb151 => ?_)
        · replace h := h_if hb151 h
          refine W_exit_to ?_
          refine thenE ?_
          refine blockE_ne rfl ?_
          obtain rfl := Option.some.inj h
          refine roundE ?_
          refine postS_l ?_
          exact postX_to (goal_le (gs := []) (f := [0, 1, 2, 3]) (by kernel_rfl) (by kernel_rfl))
        · replace h := h_else hb151 h
          refine W_skip_to ?_
          refine to_then ?_
          refine W_seq ?_
          obtain ⟨c28, h⟩ := h_guard h
          refine W_reg tbok ⟨[], []⟩ [] [0, 1, 2, 3] [(0, .p β0 (.slice (.int .i32)) d1), (1, .p false .bool i1), (4, .adr 0 0 2 0), (6, .adr 1 0 2 0), (7, .p false (.int .i64) v31), (8, .p false (.int .i64) v39), (11, .p false (.int .i32) (d1.getD v39.toNat (0 : Int)))] [(0, .box [.nils, .nils]), (1, .box [.sl 2, .sl 3]), (2, .arr 21 (.int .i32) v29), (3, .arr 5 (.int .u8) (v30 ++ ([v40] : List Int)))] 4 0 [True, True, 0 ≤ v39 ∧ v39 < (d1.length : Int), True, True] (by kernel_rfl) (by kernel_rfl) ⟨trivial, trivial, c28, trivial, trivial, trivial⟩ ?_
          refine to_then ?_
          refine W_seq ?_
          refine W_seq ?_
          obtain ⟨v44, hp30, h⟩ := h_bind h
          refine W.mono (Q := (postN Try.f24.ntmps (fun (v44 : Bool) => mkSt [(0, .p β0 (.slice (.int .i32)) d1), (1, .p false .bool i1), (4, .adr 0 0 2 0), (6, .adr 1 0 2 0), (7, .p false (.int .i64) v31), (8, .p false (.int .i64) v39), (11, .p false (.int .i32) (d1.getD v39.toNat (0 : Int))), (80, .p false .bool v44)] [(0, .box [.nils, .nils]), (1, .box [.sl 2, .sl 3]), (2, .arr 21 (.int .i32) v29), (3, .arr 5 (.int .u8) (v30 ++ ([v40] : List Int)))] 4)) v44) ?_ (fun e σ' hq => ?_)
          · replace h := hp30
            clear hp30
            rcases Bool.eq_false_or_eq_true ((d1.getD v39.toNat (0 : Int)) == (45 : Int)) with hb158 | hb158
            · replace h := h_if hb158 h
              refine W_reg tbok ⟨[(2, true), (9, true), (10, true), (13, true)], []⟩ [] [0, 1, 2, 3] [(0, .p β0 (.slice (.int .i32)) d1), (1, .p false .bool i1), (4, .adr 0 0 2 0), (6, .adr 1 0 2 0), (7, .p false (.int .i64) v31), (8, .p false (.int .i64) v39), (11, .p false (.int .i32) (d1.getD v39.toNat (0 : Int))), (80, .p false .bool true)] [(0, .box [.nils, .nils]), (1, .box [.sl 2, .sl 3]), (2, .arr 21 (.int .i32) v29), (3, .arr 5 (.int .u8) (v30 ++ ([v40] : List Int)))] 4 0 [True, True, True, ((d1.getD v39.toNat (0 : Int)) == (45 : Int)) = true, ((d1.getD v39.toNat (0 : Int)) == (45 : Int)) = true, ((d1.getD v39.toNat (0 : Int)) == (45 : Int)) = true, True, True, ((d1.getD v39.toNat (0 : Int)) == (45 : Int)) = true, ((d1.getD v39.toNat (0 : Int)) == (45 : Int)) = true, True, true = true, true = true, true = true] (by kernel_rfl) (by kernel_rfl) ⟨trivial, trivial, trivial, hb158, hb158, hb158, trivial, trivial, hb158, hb158, trivial, rfl, rfl, rfl, trivial⟩ ?_
              obtain rfl := Option.some.inj h
              exact postN_to (goal_le (gs := []) (f := [0, 1, 2, 3]) (by kernel_rfl) (by kernel_rfl))
            · replace h := h_else hb158 h
              rcases Bool.eq_false_or_eq_true (decide ((d1.getD v39.toNat (0 : Int)) ≥ (48 : Int))) with hb159 | hb159
              · replace h := h_if hb159 h
                rcases Bool.eq_false_or_eq_true (decide ((d1.getD v39.toNat (0 : Int)) ≤ (57 : Int))) with hb160 | hb160
                · replace h := h_if hb160 h
                  refine W_reg tbok ⟨[(2, false), (5, true), (8, true), (9, false), (10, true), (13, true)], []⟩ [] [0, 1, 2, 3] [(0, .p β0 (.slice (.int .i32)) d1), (1, .p false .bool i1), (4, .adr 0 0 2 0), (6, .adr 1 0 2 0), (7, .p false (.int .i64) v31), (8, .p false (.int .i64) v39), (11, .p false (.int .i32) (d1.getD v39.toNat (0 : Int))), (80, .p false .bool true)] [(0, .box [.nils, .nils]), (1, .box [.sl 2, .sl 3]), (2, .arr 21 (.int .i32) v29), (3, .arr 5 (.int .u8) (v30 ++ ([v40] : List Int)))] 4 0 [True, True, True, ((d1.getD v39.toNat (0 : Int)) == (45 : Int)) = false ∧ True, ((d1.getD v39.toNat (0 : Int)) == (45 : Int)) = false ∧ True, ((d1.getD v39.toNat (0 : Int)) == (45 : Int)) = false ∧ True, (decide ((d1.getD v39.toNat (0 : Int)) ≥ (48 : Int))) = true ∧ True, (decide ((d1.getD v39.toNat (0 : Int)) ≥ (48 : Int))) = true ∧ True, ((d1.getD v39.toNat (0 : Int)) == (45 : Int)) = false ∧ (decide ((d1.getD v39.toNat (0 : Int)) ≥ (48 : Int))) = true, ((d1.getD v39.toNat (0 : Int)) == (45 : Int)) = false, True, (decide ((d1.getD v39.toNat (0 : Int)) ≤ (57 : Int))) = true, (decide ((d1.getD v39.toNat (0 : Int)) ≤ (57 : Int))) = true, (decide ((d1.getD v39.toNat (0 : Int)) ≤ (57 : Int))) = true] (by kernel_rfl) (by kernel_rfl) ⟨trivial, trivial, trivial, ⟨hb158, trivial⟩, ⟨hb158, trivial⟩, ⟨hb158, trivial⟩, ⟨hb159, trivial⟩, ⟨hb159, trivial⟩, ⟨hb158, hb159⟩, hb158, trivial, hb160, hb160, hb160, trivial⟩ ?_
                  obtain rfl := Option.some.inj h
                  exact postN_to (goal_le (gs := []) (f := [0, 1, 2, 3]) (by kernel_rfl) (by kernel_rfl))
                · replace h := h_else hb160 h
                  refine W_reg tbok ⟨[(2, false), (5, true), (8, true), (9, false), (10, false), (13, false)], []⟩ [] [0, 1, 2, 3] [(0, .p β0 (.slice (.int .i32)) d1), (1, .p false .bool i1), (4, .adr 0 0 2 0), (6, .adr 1 0 2 0), (7, .p false (.int .i64) v31), (8, .p false (.int .i64) v39), (11, .p false (.int .i32) (d1.getD v39.toNat (0 : Int))), (80, .p false .bool ((d1.getD v39.toNat (0 : Int)) == (65533 : Int)))] [(0, .box [.nils, .nils]), (1, .box [.sl 2, .sl 3]), (2, .arr 21 (.int .i32) v29), (3, .arr 5 (.int .u8) (v30 ++ ([v40] : List Int)))] 4 0 [True, True, True, ((d1.getD v39.toNat (0 : Int)) == (45 : Int)) = false ∧ True, ((d1.getD v39.toNat (0 : Int)) == (45 : Int)) = false ∧ True, ((d1.getD v39.toNat (0 : Int)) == (45 : Int)) = false ∧ True, (decide ((d1.getD v39.toNat (0 : Int)) ≥ (48 : Int))) = true ∧ True, (decide ((d1.getD v39.toNat (0 : Int)) ≥ (48 : Int))) = true ∧ True, ((d1.getD v39.toNat (0 : Int)) == (45 : Int)) = false ∧ (decide ((d1.getD v39.toNat (0 : Int)) ≥ (48 : Int))) = true, ((d1.getD v39.toNat (0 : Int)) == (45 : Int)) = false, True, (decide ((d1.getD v39.toNat (0 : Int)) ≤ (57 : Int))) = false ∧ True, (decide ((d1.getD v39.toNat (0 : Int)) ≤ (57 : Int))) = false ∧ True, (decide ((d1.getD v39.toNat (0 : Int)) ≤ (57 : Int))) = false] (by kernel_rfl) (by kernel_rfl) ⟨trivial, trivial, trivial, ⟨hb158, trivial⟩, ⟨hb158, trivial⟩, ⟨hb158, trivial⟩, ⟨hb159, trivial⟩, ⟨hb159, trivial⟩, ⟨hb158, hb159⟩, hb158, trivial, ⟨hb160, trivial⟩, ⟨hb160, trivial⟩, hb160, trivial⟩ ?_
                  obtain rfl := Option.some.inj h
                  exact postN_to (goal_le (gs := []) (f := [0, 1, 2, 3]) (by kernel_rfl) (by kernel_rfl))
              · replace h := h_else hb159 h
                refine W_reg tbok ⟨[(2, false), (5, false), (8, false), (9, false), (10, false), (13, false)], []⟩ [] [0, 1, 2, 3] [(0, .p β0 (.slice (.int .i32)) d1), (1, .p false .bool i1), (4, .adr 0 0 2 0), (6, .adr 1 0 2 0), (7, .p false (.int .i64) v31), (8, .p false (.int .i64) v39), (11, .p false (.int .i32) (d1.getD v39.toNat (0 : Int))), (80, .p false .bool ((d1.getD v39.toNat (0 : Int)) == (65533 : Int)))] [(0, .box [.nils, .nils]), (1, .box [.sl 2, .sl 3]), (2, .arr 21 (.int .i32) v29), (3, .arr 5 (.int .u8) (v30 ++ ([v40] : List Int)))] 4 0 [True, True, True, ((d1.getD v39.toNat (0 : Int)) == (45 : Int)) = false ∧ True, ((d1.getD v39.toNat (0 : Int)) == (45 : Int)) = false ∧ True, ((d1.getD v39.toNat (0 : Int)) == (45 : Int)) = false ∧ True, (decide ((d1.getD v39.toNat (0 : Int)) ≥ (48 : Int))) = false, (decide ((d1.getD v39.toNat (0 : Int)) ≥ (48 : Int))) = false, ((d1.getD v39.toNat (0 : Int)) == (45 : Int)) = false ∧ (decide ((d1.getD v39.toNat (0 : Int)) ≥ (48 : Int))) = false, ((d1.getD v39.toNat (0 : Int)) == (45 : Int)) = false, True, false = false ∧ True, false = false ∧ True, false = false] (by kernel_rfl) (by kernel_rfl) ⟨trivial, trivial, trivial, ⟨hb158, trivial⟩, ⟨hb158, trivial⟩, ⟨hb158, trivial⟩, hb159, hb159, ⟨hb158, hb159⟩, hb158, trivial, ⟨rfl, trivial⟩, ⟨rfl, trivial⟩, rfl, trivial⟩ ?_
                obtain rfl := Option.some.inj h
                exact postN_to (goal_le (gs := []) (f := [0, 1, 2, 3]) (by kernel_rfl) (by kernel_rfl))
          · clear hp30
            obtain ⟨rfl, hle⟩ := hq
            refine use_to ?_ hle
            refine to_then ?_
            refine W_cond (b := v44) (β := false) (by kernel_rfl) (fun hb161 => ?_) (fun hb161 => ?_)
            · replace h := h_if hb161 h
              refine W_seq ?_
              refine W_reg tbok ⟨[], []⟩ [] [0, 2, 3] [(4, .adr 0 0 2 0), (5, .p false .bool false)] [(0, .box [.sl 1, .sl 2]), (1, .arr 21 (.int .i32) v29), (2, .arr 5 (.int .u8) (v30 ++ ([v40] : List Int)))] 3 0 [True, True, True] (by kernel_rfl) (by kernel_rfl) ⟨trivial, trivial, trivial, trivial⟩ ?_
              refine to_then ?_
              refine W_ret ?_
              obtain rfl := Option.some.inj h
              refine thenQ_ret ?_
              refine blockQ_ret ?_
              refine round_ret ?_
              refine postS_rr ?_
              exact postR_mk (Ret_intro [(.prod (.slice (.int .i32)) (.slice (.int .u8))), .bool] (by kernel_rfl))
            · replace h := h_else hb161 h
              refine W_skip_to ?_
              refine to_then ?_
              refine W_seq ?_
              refine W_seq ?_
              refine W_reg tbok ⟨[], []⟩ [] [0, 1, 2, 3] [(0, .p β0 (.slice (.int .i32)) d1), (1, .p false .bool i1), (4, .adr 0 0 2 0), (6, .adr 1 0 2 0), (7, .p false (.int .i64) v31), (8, .p false (.int .i64) v39), (11, .p false (.int .i32) (d1.getD v39.toNat (0 : Int))), (83, .p false .bool ((d1.getD v39.toNat (0 : Int)) == (46 : Int)))] [(0, .box [.nils, .nils]), (1, .box [.sl 2, .sl 3]), (2, .arr 21 (.int .i32) v29), (3, .arr 5 (.int .u8) (v30 ++ ([v40] : List Int)))] 4 0 [True, True] (by kernel_rfl) (by kernel_rfl) ⟨trivial, trivial, trivial⟩ ?_
              refine to_then ?_
              obtain ⟨r20, hp33, h⟩ := h_bind h
              refine W.mono (Q := (postS (postN Try.f24.ntmps (fun (v46 : Int) => mkSt [(0, .p β0 (.slice (.int .i32)) d1), (1, .p false .bool i1), (4, .adr 0 0 2 0), (6, .adr 1 0 2 0), (7, .p false (.int .i64) v46), (8, .p false (.int .i64) v39), (11, .p false (.int .i32) (d1.getD v39.toNat (0 : Int)))] [(0, .box [.nils, .nils]), (1, .box [.sl 2, .sl 3]), (2, .arr 21 (.int .i32) v29), (3, .arr 5 (.int .u8) (v30 ++ ([v40] : List Int)))] 4)) (postR tb Try.f24.results.toList (fun ((r18, r19) : ((List Int) × List Int) × Bool) => [⟨(.prod (.slice (.int .i32)) (.slice (.int .u8))), r18⟩, ⟨.bool, r19⟩]))) r20) ?_ (fun e σ' hq => ?_)
              · replace h := hp33
                clear hp33
                refine W_cond (b := ((d1.getD v39.toNat (0 : Int)) == (46 : Int))) (β := false) (by kernel_rfl) (fun hb170 => ?_) (fun hb170 => ?_)
                · replace h := h_if hb170 h
                  refine W_seq ?_
                  obtain ⟨v47, hp32, h⟩ := h_bind h
                  refine W.mono (Q := (postN Try.f24.ntmps (fun (v47 : Bool) => mkSt [(0, .p β0 (.slice (.int .i32)) d1), (1, .p false .bool i1), (4, .adr 0 0 2 0), (6, .adr 1 0 2 0), (7, .p false (.int .i64) v31), (8, .p false (.int .i64) v39), (11, .p false (.int .i32) (d1.getD v39.toNat (0 : Int))), (95, .p false .bool v47)] [(0, .box [.nils, .nils]), (1, .box [.sl 2, .sl 3]), (2, .arr 21 (.int .i32) v29), (3, .arr 5 (.int .u8) (v30 ++ ([v40] : List Int)))] 4)) v47) ?_ (fun e σ' hq => ?_)
                  · replace h := hp32
                    clear hp32
                    rcases Bool.eq_false_or_eq_true i1 with hb175 | hb175
                    · replace h := h_if hb175 h
                      refine W_reg tbok ⟨[(1, true), (11, true)], []⟩ [] [0, 1, 2, 3] [(0, .p β0 (.slice (.int .i32)) d1), (1, .p false .bool i1), (4, .adr 0 0 2 0), (6, .adr 1 0 2 0), (7, .p false (.int .i64) v31), (8, .p false (.int .i64) v39), (11, .p false (.int .i32) (d1.getD v39.toNat (0 : Int))), (95, .p false .bool true)] [(0, .box [.nils, .nils]), (1, .box [.sl 2, .sl 3]), (2, .arr 21 (.int .i32) v29), (3, .arr 5 (.int .u8) (v30 ++ ([v40] : List Int)))] 4 0 [True, True, i1 = true, i1 = true, i1 = true, True, True, True, True, True, i1 = true, i1 = true] (by kernel_rfl) (by kernel_rfl) ⟨trivial, trivial, hb175, hb175, hb175, trivial, trivial, trivial, trivial, trivial, hb175, hb175, trivial⟩ ?_
                      obtain rfl := Option.some.inj h
                      exact postN_to (goal_le (gs := []) (f := [0, 1, 2, 3]) (by kernel_rfl) (by kernel_rfl))
                    · replace h := h_else hb175 h
                      rcases Bool.eq_false_or_eq_true (v39 != (0 : Int)) with hb176 | hb176
                      · replace h := h_if hb176 h
                        refine W_reg tbok ⟨[(1, false), (4, true), (10, true), (11, false)], []⟩ [] [0, 1, 2, 3] [(0, .p β0 (.slice (.int .i32)) d1), (1, .p false .bool i1), (4, .adr 0 0 2 0), (6, .adr 1 0 2 0), (7, .p false (.int .i64) v31), (8, .p false (.int .i64) v39), (11, .p false (.int .i32) (d1.getD v39.toNat (0 : Int))), (95, .p false .bool (v39 != (IntKind.i64.wrap ((d1.length : Int) - (1 : Int)))))] [(0, .box [.nils, .nils]), (1, .box [.sl 2, .sl 3]), (2, .arr 21 (.int .i32) v29), (3, .arr 5 (.int .u8) (v30 ++ ([v40] : List Int)))] 4 0 [True, True, i1 = false ∧ True, i1 = false ∧ True, i1 = false ∧ True, (v39 != (0 : Int)) = true ∧ True, (v39 != (0 : Int)) = true ∧ True, (v39 != (0 : Int)) = true ∧ True, (v39 != (0 : Int)) = true ∧ True, (v39 != (0 : Int)) = true ∧ True, i1 = false ∧ (v39 != (0 : Int)) = true, i1 = false] (by kernel_rfl) (by kernel_rfl) ⟨trivial, trivial, ⟨hb175, trivial⟩, ⟨hb175, trivial⟩, ⟨hb175, trivial⟩, ⟨hb176, trivial⟩, ⟨hb176, trivial⟩, ⟨hb176, trivial⟩, ⟨hb176, trivial⟩, ⟨hb176, trivial⟩, ⟨hb175, hb176⟩, hb175, trivial⟩ ?_
                        obtain rfl := Option.some.inj h
                        exact postN_to (goal_le (gs := []) (f := [0, 1, 2, 3]) (by kernel_rfl) (by kernel_rfl))
                      · replace h := h_else hb176 h
                        refine W_reg tbok ⟨[(1, false), (4, false), (10, false), (11, false)], []⟩ [] [0, 1, 2, 3] [(0, .p β0 (.slice (.int .i32)) d1), (1, .p false .bool i1), (4, .adr 0 0 2 0), (6, .adr 1 0 2 0), (7, .p false (.int .i64) v31), (8, .p false (.int .i64) v39), (11, .p false (.int .i32) (d1.getD v39.toNat (0 : Int))), (95, .p false .bool false)] [(0, .box [.nils, .nils]), (1, .box [.sl 2, .sl 3]), (2, .arr 21 (.int .i32) v29), (3, .arr 5 (.int .u8) (v30 ++ ([v40] : List Int)))] 4 0 [True, True, i1 = false ∧ True, i1 = false ∧ True, i1 = false ∧ True, (v39 != (0 : Int)) = false, (v39 != (0 : Int)) = false, (v39 != (0 : Int)) = false, (v39 != (0 : Int)) = false, (v39 != (0 : Int)) = false, i1 = false ∧ (v39 != (0 : Int)) = false, i1 = false] (by kernel_rfl) (by kernel_rfl) ⟨trivial, trivial, ⟨hb175, trivial⟩, ⟨hb175, trivial⟩, ⟨hb175, trivial⟩, hb176, hb176, hb176, hb176, hb176, ⟨hb175, hb176⟩, hb175, trivial⟩ ?_
                        obtain rfl := Option.some.inj h
                        exact postN_to (goal_le (gs := []) (f := [0, 1, 2, 3]) (by kernel_rfl) (by kernel_rfl))
                  · clear hp32
                    obtain ⟨rfl, hle⟩ := hq
                    refine use_to ?_ hle
                    refine to_then ?_
                    refine W_cond (b := v47) (β := false) (by kernel_rfl) (fun hb177 => ?_) (fun hb177 => ?_)
                    · replace h := h_if hb177 h
                      refine W_seq ?_
                      refine W_reg tbok ⟨[], []⟩ [] [0, 2, 3] [(4, .adr 0 0 2 0), (5, .p false .bool false)] [(0, .box [.sl 1, .sl 2]), (1, .arr 21 (.int .i32) v29), (2, .arr 5 (.int .u8) (v30 ++ ([v40] : List Int)))] 3 0 [True, True, True] (by kernel_rfl) (by kernel_rfl) ⟨trivial, trivial, trivial, trivial⟩ ?_
                      refine to_then ?_
                      refine W_ret ?_
                      obtain rfl := Option.some.inj h
                      refine postS_rr ?_
                      exact postR_mk (Ret_intro [(.prod (.slice (.int .i32)) (.slice (.int .u8))), .bool] (by kernel_rfl))
                    · replace h := h_else hb177 h
                      refine W_skip_to ?_
                      obtain rfl := Option.some.inj h
                      refine postS_l ?_
                      exact postN_to (goal_le (gs := []) (f := [0, 1, 2, 3]) (by kernel_rfl) (by kernel_rfl))
                · replace h := h_else hb170 h
                  refine W_reg tbok ⟨[], []⟩ [] [0, 1, 2, 3] [(0, .p β0 (.slice (.int .i32)) d1), (1, .p false .bool i1), (4, .adr 0 0 2 0), (6, .adr 1 0 2 0), (7, .p false (.int .i64) (IntKind.i64.wrap (v31 + (1 : Int)))), (8, .p false (.int .i64) v39), (11, .p false (.int .i32) (d1.getD v39.toNat (0 : Int)))] [(0, .box [.nils, .nils]), (1, .box [.sl 2, .sl 3]), (2, .arr 21 (.int .i32) v29), (3, .arr 5 (.int .u8) (v30 ++ ([v40] : List Int)))] 4 0 [True, True, True] (by kernel_rfl) (by kernel_rfl) ⟨trivial, trivial, trivial, trivial⟩ ?_
                  obtain rfl := Option.some.inj h
                  refine postS_l ?_
                  exact postN_to (goal_le (gs := []) (f := [0, 1, 2, 3]) (by kernel_rfl) (by kernel_rfl))
              · clear hp33
                rcases r20 with v46 | ⟨r18, r19⟩
                · obtain ⟨rfl, hle⟩ := hq
                  refine use_to ?_ hle
                  refine to_then ?_
                  refine W_seq ?_
                  obtain ⟨c30, h⟩ := h_guard h
                  refine W_reg tbok ⟨[], []⟩ [] [0, 1, 36, 3] [(0, .p β0 (.slice (.int .i32)) d1), (1, .p false .bool i1), (4, .adr 0 0 2 0), (6, .adr 1 0 2 0), (7, .p false (.int .i64) v46), (8, .p false (.int .i64) v39)] [(0, .box [.nils, .nils]), (1, .box [.sl 2, .sl 3]), (2, .arr 21 (.int .i32) (v29 ++ ([(d1.getD v39.toNat (0 : Int))] : List Int))), (3, .arr 5 (.int .u8) (v30 ++ ([v40] : List Int)))] 4 0 [True, True, True, True, (v29.length + ([(d1.getD v39.toNat (0 : Int))] : List Int).length) * 4 ≤ 140737488355328 ∧ v29.length + ([(d1.getD v39.toNat (0 : Int))] : List Int).length ≤ 9223372036854775807, True, True] (by kernel_rfl) (by kernel_rfl) ⟨trivial, trivial, trivial, trivial, c30, trivial, trivial, trivial⟩ ?_
                  refine to_then ?_
                  refine W_reg tbok ⟨[], []⟩ [] [0, 1, 2, 3] [(0, .p β0 (.slice (.int .i32)) d1), (1, .p false .bool i1), (4, .adr 0 0 2 0), (6, .adr 1 0 2 0), (7, .p false (.int .i64) v46), (8, .p false (.int .i64) (IntKind.i64.wrap (v39 + (1 : Int))))] [(0, .box [.nils, .nils]), (1, .box [.sl 2, .sl 3]), (2, .arr 21 (.int .i32) (v29 ++ ([(d1.getD v39.toNat (0 : Int))] : List Int))), (3, .arr 5 (.int .u8) (v30 ++ ([v40] : List Int)))] 4 0 [True, True, True] (by kernel_rfl) (by kernel_rfl) ⟨trivial, trivial, trivial, trivial⟩ ?_
                  refine to_block ?_
                  obtain rfl := Option.some.inj h
                  exact roundB (goal_le (gs := []) (f := [0, 1, 2, 3]) (by kernel_rfl) (by kernel_rfl))
                · obtain ⟨rfl, hr⟩ := hq
                  obtain rfl := Option.some.inj h
                  refine thenQ_ret ?_
                  refine blockQ_ret ?_
                  refine round_ret ?_
                  refine postS_rr ?_
                  exact postR_mk hr
      · obtain ⟨rfl, hr⟩ := hq
        obtain rfl := Option.some.inj h
        refine thenQ_ret ?_
        refine blockQ_ret ?_
        refine round_ret ?_
        refine postS_rr ?_
        exact postR_mk hr
  · clear hp34
    rcases r21 with ⟨v33, v34, v35⟩ | ⟨r13, r14⟩
    · obtain ⟨rfl, hle⟩ := hq
      refine use_to ?_ hle
      refine blockE_eq ?_
      refine to_then ?_
      refine W_seq ?_
      obtain ⟨v48, hp35, h⟩ := h_bind h
      refine W.mono (Q := (postN Try.f24.ntmps (fun (v48 : Bool) => mkSt [(4, .adr 0 0 2 0), (5, .p false .bool v48)] [(0, .box [.sl 1, .sl 2]), (1, .arr 21 (.int .i32) v33), (2, .arr 5 (.int .u8) v34)] 3)) v48) ?_ (fun e σ' hq => ?_)
      · replace h := hp35
        clear hp35
        rcases Bool.eq_false_or_eq_true (decide (v35 > (0 : Int))) with hb180 | hb180
        · replace h := h_if hb180 h
          refine W_regD tbok mixed ⟨[(3, true), (8, true)], []⟩ [] [0, 2, 3] [(4, .adr 0 0 2 0), (5, .p false .bool (decide ((v33.length : Int) ≤ (24 : Int))))] [(0, .box [.sl 1, .sl 2]), (1, .arr 21 (.int .i32) v33), (2, .arr 5 (.int .u8) v34)] 3 0 [True, True, True, True, (decide (v35 > (0 : Int))) = true ∧ True, (decide (v35 > (0 : Int))) = true ∧ True, (decide (v35 > (0 : Int))) = true ∧ True, (decide (v35 > (0 : Int))) = true ∧ True, (decide (v35 > (0 : Int))) = true, True, True] (by kernel_rfl) (by kernel_rfl) ⟨trivial, trivial, trivial, trivial, ⟨hb180, trivial⟩, ⟨hb180, trivial⟩, ⟨hb180, trivial⟩, ⟨hb180, trivial⟩, hb180, trivial, trivial, trivial⟩ ?_
          obtain rfl := Option.some.inj h
          exact postN_to (goal_le (gs := []) (f := [0, 1, 2]) (by kernel_rfl) (by kernel_rfl))
        · replace h := h_else hb180 h
          refine W_regD tbok mixed ⟨[(3, false), (8, false)], []⟩ [] [0, 2, 3] [(4, .adr 0 0 2 0), (5, .p false .bool false)] [(0, .box [.sl 1, .sl 2]), (1, .arr 21 (.int .i32) v33), (2, .arr 5 (.int .u8) v34)] 3 0 [True, True, True, True, (decide (v35 > (0 : Int))) = false, (decide (v35 > (0 : Int))) = false, (decide (v35 > (0 : Int))) = false, (decide (v35 > (0 : Int))) = false, (decide (v35 > (0 : Int))) = false, True, True] (by kernel_rfl) (by kernel_rfl) ⟨trivial, trivial, trivial, trivial, hb180, hb180, hb180, hb180, hb180, trivial, trivial, trivial⟩ ?_
          obtain rfl := Option.some.inj h
          exact postN_to (goal_le (gs := []) (f := [0, 1, 2]) (by kernel_rfl) (by kernel_rfl))
      · clear hp35
        obtain ⟨rfl, hle⟩ := hq
        refine use_to ?_ hle
        refine to_then ?_
        refine W_ret ?_
        obtain rfl := Option.some.inj h
        exact Ret_intro [(.prod (.slice (.int .i32)) (.slice (.int .u8))), .bool] (by kernel_rfl)
    · obtain ⟨rfl, hr⟩ := hq
      refine blockQ_ret ?_
      refine thenQ_ret ?_
      obtain rfl := Option.some.inj h
      exact hr

/-- a loop of 'stanza/stanzaref07.Parse': one round -/
def stanzaref07_Parse_L1 (r2 : List (Int × Int × Int)) : (Int × List Int) → Option ((Int × List Int) ⊕ (Int × List Int)) := fun ((v49, v50) : Int × List Int) =>
  (((if (decide (v49 < (r2.length : Int))) = true then (if 0 ≤ v49 ∧ v49 < (r2.length : Int) then ((stanzaref07_blank ((r2.getD v49.toNat ((0 : Int), ((0 : Int), (0 : Int)))).1)).bind fun (r59 : Bool) =>
  some ((!r59))) else none)
  else some (false))).bind fun (v53 : Bool) => (if v53 = true then (if 0 ≤ v49 ∧ v49 < (r2.length : Int) then (if (v50.length + ([(r2.getD v49.toNat ((0 : Int), ((0 : Int), (0 : Int)))).1] : List Int).length) * 4 ≤ 140737488355328 ∧ v50.length + ([(r2.getD v49.toNat ((0 : Int), ((0 : Int), (0 : Int)))).1] : List Int).length ≤ 9223372036854775807 then some (Sum.inl ((IntKind.i64.wrap (v49 + (1 : Int))), (v50 ++ ([(r2.getD v49.toNat ((0 : Int), ((0 : Int), (0 : Int)))).1] : List Int)))) else none) else none)
  else some (Sum.inr (v49, v50))))

/-- a loop of 'stanza/stanzaref07.Parse': one round -/
def stanzaref07_Parse_L2 (v52 : List Int) : (Int × Int) → Option ((Int × Int) ⊕ (Int)) := fun ((v58, v59) : Int × Int) =>
  (if (decide (v59 < (v52.length : Int))) = true then (if 0 ≤ v59 ∧ v59 < (v52.length : Int) then (if v59.toNat < v52.length then (((if ((v52.getD v59.toNat (0 : Int)) == (45 : Int)) = true then some ((IntKind.i64.wrap (v58 + (1 : Int))))
  else some (v58))).bind fun (v61 : Int) => some (Sum.inl (v61, (IntKind.i64.wrap (v59 + (1 : Int)))))) else none) else none)
  else some (Sum.inr v58))

/-- a loop of 'stanza/stanzaref07.Parse': one round -/
def stanzaref07_Parse_L3 (r2 : List (Int × Int × Int)) (v41 : List ((List Int) × List Int)) (v42 : Int) (r63 : (List Int) × List Int) : (Int) → Option ((Int) ⊕ ((Unit) ⊕ (((List ((List Int) × List Int)) × List ((List Int) × List Int)) × Int × Int))) := fun (v63 : Int) =>
  (if (decide (v63 < (v41.length : Int))) = true then (if 0 ≤ v63 ∧ v63 < (v41.length : Int) then (if v63.toNat < v41.length then ((stanzaref07_Same ((v41.getD v63.toNat (([] : List Int), ([] : List Int))).1) r63.1).bind fun (r73 : Bool) =>
  (if r73 = true then some (Sum.inr (Sum.inr ((([] : List ((List Int) × List Int)), ([] : List ((List Int) × List Int))), (23 : Int), (r2.getD v42.toNat ((0 : Int), ((0 : Int), (0 : Int)))).2.1)))
  else some (Sum.inl (IntKind.i64.wrap (v63 + (1 : Int)))))) else none) else none)
  else some (Sum.inr (Sum.inl ())))

/-- a loop of 'stanza/stanzaref07.Parse': one round -/
def stanzaref07_Parse_L4 (r2 : List (Int × Int × Int)) : ((List ((List Int) × List Int)) × (List ((List Int) × List Int)) × Int) → Option (((List ((List Int) × List Int)) × (List ((List Int) × List Int)) × Int) ⊕ (((List ((List Int) × List Int)) × List ((List Int) × List Int)) ⊕ (((List ((List Int) × List Int)) × List ((List Int) × List Int)) × Int × Int))) := fun ((v40, v41, v42) : (List ((List Int) × List Int)) × (List ((List Int) × List Int)) × Int) =>
  (if (decide (v42 < (r2.length : Int))) = true then (if 0 ≤ v42 ∧ v42 < (r2.length : Int) then ((stanzaref07_blank ((r2.getD v42.toNat ((0 : Int), ((0 : Int), (0 : Int)))).1)).bind fun (r50 : Bool) =>
  (if r50 = true then some (Sum.inl (v40, v41, (IntKind.i64.wrap (v42 + (1 : Int)))))
  else (if 0 ≤ v42 ∧ v42 < (r2.length : Int) then ((iter (stanzaref07_Parse_L1 r2) (v42, ([] : List Int))).bind fun ((v51, v52) : Int × List Int) => (if (decide ((IntKind.i64.wrap ((v40.length : Int) + (v41.length : Int))) ≥ (256 : Int))) = true then some (Sum.inr (Sum.inr ((([] : List ((List Int) × List Int)), ([] : List ((List Int) × List Int))), (24 : Int), (r2.getD v42.toNat ((0 : Int), ((0 : Int), (0 : Int)))).2.1)))
  else ((iter (stanzaref07_Parse_L2 v52) ((0 : Int), (0 : Int))).bind fun (v60 : Int) => ((stanzaref07_pattern v52 (decide (v60 > (0 : Int)))).bind fun ((r63, r64) : ((List Int) × List Int) × Bool) =>
  (if (!r64) = true then some (Sum.inr (Sum.inr ((([] : List ((List Int) × List Int)), ([] : List ((List Int) × List Int))), (30 : Int), (r2.getD v42.toNat ((0 : Int), ((0 : Int), (0 : Int)))).2.1)))
  else (if (v60 == (0 : Int)) = true then (if (v40.length + ([(r63.1, r63.2)] : List ((List Int) × List Int)).length) * 48 ≤ 140737488355328 ∧ v40.length + ([(r63.1, r63.2)] : List ((List Int) × List Int)).length ≤ 9223372036854775807 then some (Sum.inl ((v40 ++ ([(r63.1, r63.2)] : List ((List Int) × List Int))), v41, v51)) else none)
  else ((iter (stanzaref07_Parse_L3 r2 v41 v42 r63) (0 : Int)).bind fun (r74 : ((Unit) ⊕ (((List ((List Int) × List Int)) × List ((List Int) × List Int)) × Int × Int))) => match r74 with
  | .inl _ => (if (v41.length + ([(r63.1, r63.2)] : List ((List Int) × List Int)).length) * 48 ≤ 140737488355328 ∧ v41.length + ([(r63.1, r63.2)] : List ((List Int) × List Int)).length ≤ 9223372036854775807 then some (Sum.inl (v40, (v41 ++ ([(r63.1, r63.2)] : List ((List Int) × List Int))), v51)) else none)
  | .inr ((r69, r70, r71)) => some (Sum.inr (Sum.inr (r69, r70, r71)))))))))) else none))) else none)
  else some (Sum.inr (Sum.inl (v40, v41))))

/-- 'stanza/stanzaref07.Parse' -/
def stanzaref07_Parse (d1 : List UInt8) : Option (((List ((List Int) × List Int)) × List ((List Int) × List Int)) × Int × Int) :=
  (if (decide ((d1.length : Int) > (4096 : Int))) = true then some ((([] : List ((List Int) × List Int)), ([] : List ((List Int) × List Int))), (24 : Int), (4096 : Int))
  else ((stanzaref01_All (numsOf d1)).bind fun (r2 : List (Int × Int × Int)) =>
  ((iter (stanzaref07_Parse_L4 r2) (([] : List ((List Int) × List Int)), ([] : List ((List Int) × List Int)), (0 : Int))).bind fun (r75 : (((List ((List Int) × List Int)) × List ((List Int) × List Int)) ⊕ (((List ((List Int) × List Int)) × List ((List Int) × List Int)) × Int × Int))) => match r75 with
  | .inl (v43, v44) => some ((v43, v44), (0 : Int), (0 : Int))
  | .inr ((r46, r47, r48)) => some (r46, r47, r48))))

set_option maxRecDepth 100000 in
set_option maxHeartbeats 4000000 in
theorem stanzaref07_Parse_ok (d1 : List UInt8) (res : ((List ((List Int) × List Int)) × List ((List Int) × List Int)) × Int × Int) (h : stanzaref07_Parse d1 = some res) :
    Pure Try.prog 13 [.p false .str d1] (wrapR (encs false [⟨(.prod (.slice (.prod (.slice (.int .i32)) (.slice (.int .u8)))) (.slice (.prod (.slice (.int .i32)) (.slice (.int .u8))))), res.1⟩, ⟨(.int .i64), res.2.1⟩, ⟨(.int .i64), res.2.2⟩])) := by
  refine Pure.of_body tbok Try.func13 (by kernel_rfl) rfl (Nat.le_of_ble_eq_true rfl) (fun Bw w0 => ?_) rfl
  unfold stanzaref07_Parse at h
  refine W_seq ?_
  refine W_reg tbok ⟨[], []⟩ [] [0] [(0, .p false .str d1), (2, .adr 0 0 2 0)] [(0, .box [.nils, .nils])] 1 0 [True, True, True] (by kernel_rfl) (by kernel_rfl) ⟨trivial, trivial, trivial, trivial⟩ ?_
  refine to_then ?_
  refine W_seq ?_
  refine W_seq ?_
  refine W_reg tbok ⟨[], []⟩ [] [0] [(0, .p false .str d1), (2, .adr 0 0 2 0), (17, .p false .bool (decide ((d1.length : Int) > (4096 : Int))))] [(0, .box [.nils, .nils])] 1 0 [True, True, True] (by kernel_rfl) (by kernel_rfl) ⟨trivial, trivial, trivial, trivial⟩ ?_
  refine to_then ?_
  refine W_cond (b := (decide ((d1.length : Int) > (4096 : Int)))) (β := false) (by kernel_rfl) (fun hb1 => ?_) (fun hb1 => ?_)
  · replace h := h_if hb1 h
    refine W_seq ?_
    refine W_reg tbok ⟨[], []⟩ [] [0] [(2, .adr 0 0 2 0), (3, .p false (.int .i64) (24 : Int)), (4, .p false (.int .i64) (4096 : Int))] [(0, .box [.nils, .nils])] 1 0 [True, True, True, True] (by kernel_rfl) (by kernel_rfl) ⟨trivial, trivial, trivial, trivial, trivial⟩ ?_
    refine to_then ?_
    refine W_ret ?_
    refine thenQ_ret ?_
    obtain rfl := Option.some.inj h
    exact Ret_intro [(.prod (.slice (.prod (.slice (.int .i32)) (.slice (.int .u8)))) (.slice (.prod (.slice (.int .i32)) (.slice (.int .u8))))), (.int .i64), (.int .i64)] (by kernel_rfl)
  · replace h := h_else hb1 h
    refine W_skip_to ?_
    refine to_then ?_
    refine W_seq ?_
    obtain ⟨r2, q2, h⟩ := h_bind h
    refine W_reg tbok ⟨[], [(2, ⟨.p false (.slice (.prod (.int .i32) (.prod (.int .i64) (.int .i64)))) r2, [false], false, [true], [], []⟩)]⟩ [] [0] [(2, .adr 0 0 2 0), (5, .p false (.slice (.prod (.int .i32) (.prod (.int .i64) (.int .i64)))) r2)] [(0, .box [.nils, .nils])] 1 0 [True, True, Pure Try.prog 22 [.p false (.slice (.int .u8)) (numsOf d1)] (.p false (.slice (.prod (.int .i32) (.prod (.int .i64) (.int .i64)))) r2), True] (by kernel_rfl) (by kernel_rfl) ⟨trivial, trivial, (stanzaref01_All_ok false (numsOf d1) _ q2), trivial, trivial⟩ ?_
    refine to_then ?_
    refine W_seq ?_
    refine W_reg tbok ⟨[], []⟩ [] [0, 9] [(2, .adr 0 0 2 0), (5, .p false (.slice (.prod (.int .i32) (.prod (.int .i64) (.int .i64)))) r2), (6, .adr 1 0 2 0)] [(0, .box [.nils, .nils]), (1, .box [.nils, .nils])] 2 0 [True, True, True] (by kernel_rfl) (by kernel_rfl) ⟨trivial, trivial, trivial, trivial⟩ ?_
    refine to_then ?_
    refine W_seq ?_
    refine W_reg tbok ⟨[], []⟩ [] [0, 1] [(2, .adr 0 0 2 0), (5, .p false (.slice (.prod (.int .i32) (.prod (.int .i64) (.int .i64)))) r2), (6, .adr 1 0 2 0), (7, .p false (.int .i64) (0 : Int))] [(0, .box [.nils, .nils]), (1, .box [.nils, .nils])] 2 0 [True] (by kernel_rfl) (by kernel_rfl) ⟨trivial, trivial⟩ ?_
    refine to_then ?_
    refine W_seq ?_
    refine W_block ?_
    obtain ⟨r75, hp28, h⟩ := h_bind h
    refine W.mono (Q := (postS (postX Try.f13.ntmps 0 (fun ((v43, v44) : (List ((List Int) × List Int)) × List ((List Int) × List Int)) => mkSt [(2, .adr 0 0 2 0), (6, .adr 1 0 2 0)] [(0, .box [.nils, .nils]), (1, .box [.sl 2, .sl 3]), (2, .arr 37 (.prod (.slice (.int .i32)) (.slice (.int .u8))) v43), (3, .arr 37 (.prod (.slice (.int .i32)) (.slice (.int .u8))) v44)] 4)) (postR tb Try.f13.results.toList (fun ((r46, r47, r48) : ((List ((List Int) × List Int)) × List ((List Int) × List Int)) × Int × Int) => [⟨(.prod (.slice (.prod (.slice (.int .i32)) (.slice (.int .u8)))) (.slice (.prod (.slice (.int .i32)) (.slice (.int .u8))))), r46⟩, ⟨(.int .i64), r47⟩, ⟨(.int .i64), r48⟩]))) r75) (W_iter (f := fun ((v40, v41, v42) : (List ((List Int) × List Int)) × (List ((List Int) × List Int)) × Int) => mkSt [(2, .adr 0 0 2 0), (5, .p false (.slice (.prod (.int .i32) (.prod (.int .i64) (.int .i64)))) r2), (6, .adr 1 0 2 0), (7, .p false (.int .i64) v42)] [(0, .box [.nils, .nils]), (1, .box [.sl 2, .sl 3]), (2, .arr 37 (.prod (.slice (.int .i32)) (.slice (.int .u8))) v40), (3, .arr 37 (.prod (.slice (.int .i32)) (.slice (.int .u8))) v41)] 4) (Q := (postS (postX Try.f13.ntmps 0 (fun ((v43, v44) : (List ((List Int) × List Int)) × List ((List Int) × List Int)) => mkSt [(2, .adr 0 0 2 0), (6, .adr 1 0 2 0)] [(0, .box [.nils, .nils]), (1, .box [.sl 2, .sl 3]), (2, .arr 37 (.prod (.slice (.int .i32)) (.slice (.int .u8))) v43), (3, .arr 37 (.prod (.slice (.int .i32)) (.slice (.int .u8))) v44)] 4)) (postR tb Try.f13.results.toList (fun ((r46, r47, r48) : ((List ((List Int) × List Int)) × List ((List Int) × List Int)) × Int × Int) => [⟨(.prod (.slice (.prod (.slice (.int .i32)) (.slice (.int .u8)))) (.slice (.prod (.slice (.int .i32)) (.slice (.int .u8))))), r46⟩, ⟨(.int .i64), r47⟩, ⟨(.int .i64), r48⟩])))) hp28 (goal_le (gs := [.nilC 1 0 2 37 (.prod (.slice (.int .i32)) (.slice (.int .u8))), .nilC 1 1 3 37 (.prod (.slice (.int .i32)) (.slice (.int .u8)))]) (f := [0, 1, 2, 3]) (by kernel_rfl) (by kernel_rfl)) (fun y o ho => ?_)) (fun e σ' hq => ?_)
    · obtain ⟨v40, v41, v42⟩ := y
      replace h := ho
      clear ho hp28
      unfold stanzaref07_Parse_L4 at h
      refine W_seq ?_
      refine W_seq ?_
      refine W_reg tbok ⟨[], []⟩ [] [0, 1, 2, 3] [(2, .adr 0 0 2 0), (5, .p false (.slice (.prod (.int .i32) (.prod (.int .i64) (.int .i64)))) r2), (6, .adr 1 0 2 0), (7, .p false (.int .i64) v42), (26, .p false .bool (decide (v42 < (r2.length : Int))))] [(0, .box [.nils, .nils]), (1, .box [.sl 2, .sl 3]), (2, .arr 37 (.prod (.slice (.int .i32)) (.slice (.int .u8))) v40), (3, .arr 37 (.prod (.slice (.int .i32)) (.slice (.int .u8))) v41)] 4 0 [True, True, True, True] (by kernel_rfl) (by kernel_rfl) ⟨trivial, trivial, trivial, trivial, trivial⟩ ?_
      refine to_then ?_
      refine W_cond (b := (decide (v42 < (r2.length : Int)))) (β := false) (by kernel_rfl) (fun hb62 => ?_) (fun hb62 => ?_)
      · replace h := h_if hb62 h
        refine W_skip_to ?_
        refine to_then ?_
        refine W_block ?_
        refine W_seq ?_
        refine W_seq ?_
        obtain ⟨c96, h⟩ := h_guard h
        obtain ⟨r50, q36, h⟩ := h_bind h
        refine W_reg tbok ⟨[], [(5, ⟨.p false .bool r50, [false], false, [true], [], []⟩)]⟩ [] [0, 1, 2, 3] [(2, .adr 0 0 2 0), (5, .p false (.slice (.prod (.int .i32) (.prod (.int .i64) (.int .i64)))) r2), (6, .adr 1 0 2 0), (7, .p false (.int .i64) v42), (32, .p false .bool r50)] [(0, .box [.nils, .nils]), (1, .box [.sl 2, .sl 3]), (2, .arr 37 (.prod (.slice (.int .i32)) (.slice (.int .u8))) v40), (3, .arr 37 (.prod (.slice (.int .i32)) (.slice (.int .u8))) v41)] 4 0 [True, True, 0 ≤ v42 ∧ v42 < (r2.length : Int), True, True, Pure Try.prog 23 [.p false (.int .i32) ((r2.getD v42.toNat ((0 : Int), ((0 : Int), (0 : Int)))).1)] (.p false .bool r50)] (by kernel_rfl) (by kernel_rfl) ⟨trivial, trivial, c96, trivial, trivial, (stanzaref07_blank_ok ((r2.getD v42.toNat ((0 : Int), ((0 : Int), (0 : Int)))).1) _ q36), trivial⟩ ?_
        refine to_then ?_
        refine W_cond (b := r50) (β := false) (by kernel_rfl) (fun hb63 => ?_) (fun hb63 => ?_)
        · replace h := h_if hb63 h
          refine W_seq ?_
          refine W_reg tbok ⟨[], []⟩ [] [0, 1, 2, 3] [(2, .adr 0 0 2 0), (5, .p false (.slice (.prod (.int .i32) (.prod (.int .i64) (.int .i64)))) r2), (6, .adr 1 0 2 0), (7, .p false (.int .i64) (IntKind.i64.wrap (v42 + (1 : Int))))] [(0, .box [.nils, .nils]), (1, .box [.sl 2, .sl 3]), (2, .arr 37 (.prod (.slice (.int .i32)) (.slice (.int .u8))) v40), (3, .arr 37 (.prod (.slice (.int .i32)) (.slice (.int .u8))) v41)] 4 0 [True, True, True] (by kernel_rfl) (by kernel_rfl) ⟨trivial, trivial, trivial, trivial⟩ ?_
          refine to_then ?_
          refine W_exit_to ?_
          refine thenE ?_
          refine blockE_eq ?_
          obtain rfl := Option.some.inj h
          exact roundB (goal_le (gs := []) (f := [0, 1, 2, 3]) (by kernel_rfl) (by kernel_rfl))
        · replace h := h_else hb63 h
          refine W_skip_to ?_
          refine to_then ?_
          refine W_seq ?_
          refine W_reg tbok ⟨[], []⟩ [] [0, 1, 2, 3] [(2, .adr 0 0 2 0), (5, .p false (.slice (.prod (.int .i32) (.prod (.int .i64) (.int .i64)))) r2), (6, .adr 1 0 2 0), (7, .p false (.int .i64) v42), (8, .nils)] [(0, .box [.nils, .nils]), (1, .box [.sl 2, .sl 3]), (2, .arr 37 (.prod (.slice (.int .i32)) (.slice (.int .u8))) v40), (3, .arr 37 (.prod (.slice (.int .i32)) (.slice (.int .u8))) v41)] 4 0 [True] (by kernel_rfl) (by kernel_rfl) ⟨trivial, trivial⟩ ?_
          refine to_then ?_
          refine W_seq ?_
          obtain ⟨c98, h⟩ := h_guard h
          refine W_reg tbok ⟨[], []⟩ [] [0, 1, 2, 3] [(2, .adr 0 0 2 0), (5, .p false (.slice (.prod (.int .i32) (.prod (.int .i64) (.int .i64)))) r2), (6, .adr 1 0 2 0), (7, .p false (.int .i64) v42), (8, .nils), (9, .p false (.int .i64) ((r2.getD v42.toNat ((0 : Int), ((0 : Int), (0 : Int)))).2.1))] [(0, .box [.nils, .nils]), (1, .box [.sl 2, .sl 3]), (2, .arr 37 (.prod (.slice (.int .i32)) (.slice (.int .u8))) v40), (3, .arr 37 (.prod (.slice (.int .i32)) (.slice (.int .u8))) v41)] 4 0 [True, True, 0 ≤ v42 ∧ v42 < (r2.length : Int), True, True, True] (by kernel_rfl) (by kernel_rfl) ⟨trivial, trivial, c98, trivial, trivial, trivial, trivial⟩ ?_
          refine to_then ?_
          refine W_seq ?_
          refine W_block ?_
          obtain ⟨r60, hp22, h⟩ := h_bind h
          refine W.mono (Q := (postX Try.f13.ntmps 2 (fun ((v51, v52) : Int × List Int) => mkSt [(2, .adr 0 0 2 0), (5, .p false (.slice (.prod (.int .i32) (.prod (.int .i64) (.int .i64)))) r2), (6, .adr 1 0 2 0), (7, .p false (.int .i64) v51), (8, .sl 4), (9, .p false (.int .i64) ((r2.getD v42.toNat ((0 : Int), ((0 : Int), (0 : Int)))).2.1))] [(0, .box [.nils, .nils]), (1, .box [.sl 2, .sl 3]), (2, .arr 37 (.prod (.slice (.int .i32)) (.slice (.int .u8))) v40), (3, .arr 37 (.prod (.slice (.int .i32)) (.slice (.int .u8))) v41), (4, .arr 21 (.int .i32) v52)] 5)) r60) (W_iter (f := fun ((v49, v50) : Int × List Int) => mkSt [(2, .adr 0 0 2 0), (5, .p false (.slice (.prod (.int .i32) (.prod (.int .i64) (.int .i64)))) r2), (6, .adr 1 0 2 0), (7, .p false (.int .i64) v49), (8, .sl 4), (9, .p false (.int .i64) ((r2.getD v42.toNat ((0 : Int), ((0 : Int), (0 : Int)))).2.1))] [(0, .box [.nils, .nils]), (1, .box [.sl 2, .sl 3]), (2, .arr 37 (.prod (.slice (.int .i32)) (.slice (.int .u8))) v40), (3, .arr 37 (.prod (.slice (.int .i32)) (.slice (.int .u8))) v41), (4, .arr 21 (.int .i32) v50)] 5) (Q := (postX Try.f13.ntmps 2 (fun ((v51, v52) : Int × List Int) => mkSt [(2, .adr 0 0 2 0), (5, .p false (.slice (.prod (.int .i32) (.prod (.int .i64) (.int .i64)))) r2), (6, .adr 1 0 2 0), (7, .p false (.int .i64) v51), (8, .sl 4), (9, .p false (.int .i64) ((r2.getD v42.toNat ((0 : Int), ((0 : Int), (0 : Int)))).2.1))] [(0, .box [.nils, .nils]), (1, .box [.sl 2, .sl 3]), (2, .arr 37 (.prod (.slice (.int .i32)) (.slice (.int .u8))) v40), (3, .arr 37 (.prod (.slice (.int .i32)) (.slice (.int .u8))) v41), (4, .arr 21 (.int .i32) v52)] 5))) hp22 (goal_le (gs := [.nilS 8 4 21 (.int .i32)]) (f := [0, 1, 2, 3, 4]) (by kernel_rfl) (by kernel_rfl)) (fun y o ho => ?_)) (fun e σ' hq => ?_)
          · obtain ⟨v49, v50⟩ := y
            replace h := ho
            clear ho hp22
            unfold stanzaref07_Parse_L1 at h
            refine W_seq ?_
            refine W_seq ?_
            obtain ⟨v53, hp21, h⟩ := h_bind h
            refine W.mono (Q := (postN Try.f13.ntmps (fun (v53 : Bool) => mkSt [(2, .adr 0 0 2 0), (5, .p false (.slice (.prod (.int .i32) (.prod (.int .i64) (.int .i64)))) r2), (6, .adr 1 0 2 0), (7, .p false (.int .i64) v49), (8, .sl 4), (9, .p false (.int .i64) ((r2.getD v42.toNat ((0 : Int), ((0 : Int), (0 : Int)))).2.1)), (52, .p false .bool v53)] [(0, .box [.nils, .nils]), (1, .box [.sl 2, .sl 3]), (2, .arr 37 (.prod (.slice (.int .i32)) (.slice (.int .u8))) v40), (3, .arr 37 (.prod (.slice (.int .i32)) (.slice (.int .u8))) v41), (4, .arr 21 (.int .i32) v50)] 5)) v53) ?_ (fun e σ' hq => ?_)
            · replace h := hp21
              clear hp21
              rcases Bool.eq_false_or_eq_true (decide (v49 < (r2.length : Int))) with hb74 | hb74
              · replace h := h_if hb74 h
                obtain ⟨c115, h⟩ := h_guard h
                obtain ⟨r59, q45, h⟩ := h_bind h
                refine W_reg tbok ⟨[(4, true), (12, true)], [(10, ⟨.p false .bool r59, [false], false, [true], [], []⟩)]⟩ [] [0, 1, 2, 3, 4] [(2, .adr 0 0 2 0), (5, .p false (.slice (.prod (.int .i32) (.prod (.int .i64) (.int .i64)))) r2), (6, .adr 1 0 2 0), (7, .p false (.int .i64) v49), (8, .sl 4), (9, .p false (.int .i64) ((r2.getD v42.toNat ((0 : Int), ((0 : Int), (0 : Int)))).2.1)), (52, .p false .bool (!r59))] [(0, .box [.nils, .nils]), (1, .box [.sl 2, .sl 3]), (2, .arr 37 (.prod (.slice (.int .i32)) (.slice (.int .u8))) v40), (3, .arr 37 (.prod (.slice (.int .i32)) (.slice (.int .u8))) v41), (4, .arr 21 (.int .i32) v50)] 5 0 [True, True, True, True, True, (decide (v49 < (r2.length : Int))) = true ∧ True, (decide (v49 < (r2.length : Int))) = true ∧ True, (decide (v49 < (r2.length : Int))) = true ∧ 0 ≤ v49 ∧ v49 < (r2.length : Int), (decide (v49 < (r2.length : Int))) = true ∧ True, (decide (v49 < (r2.length : Int))) = true ∧ True, (decide (v49 < (r2.length : Int))) = true ∧ Pure Try.prog 23 [.p false (.int .i32) ((r2.getD v49.toNat ((0 : Int), ((0 : Int), (0 : Int)))).1)] (.p false .bool r59), (decide (v49 < (r2.length : Int))) = true ∧ True, (decide (v49 < (r2.length : Int))) = true] (by kernel_rfl) (by kernel_rfl) ⟨trivial, trivial, trivial, trivial, trivial, ⟨hb74, trivial⟩, ⟨hb74, trivial⟩, ⟨hb74, c115⟩, ⟨hb74, trivial⟩, ⟨hb74, trivial⟩, ⟨hb74, (stanzaref07_blank_ok ((r2.getD v49.toNat ((0 : Int), ((0 : Int), (0 : Int)))).1) _ q45)⟩, ⟨hb74, trivial⟩, hb74, trivial⟩ ?_
                obtain rfl := Option.some.inj h
                exact postN_to (goal_le (gs := []) (f := [0, 1, 2, 3, 4]) (by kernel_rfl) (by kernel_rfl))
              · replace h := h_else hb74 h
                refine W_reg tbok ⟨[(4, false), (12, false)], []⟩ [] [0, 1, 2, 3, 4] [(2, .adr 0 0 2 0), (5, .p false (.slice (.prod (.int .i32) (.prod (.int .i64) (.int .i64)))) r2), (6, .adr 1 0 2 0), (7, .p false (.int .i64) v49), (8, .sl 4), (9, .p false (.int .i64) ((r2.getD v42.toNat ((0 : Int), ((0 : Int), (0 : Int)))).2.1)), (52, .p false .bool false)] [(0, .box [.nils, .nils]), (1, .box [.sl 2, .sl 3]), (2, .arr 37 (.prod (.slice (.int .i32)) (.slice (.int .u8))) v40), (3, .arr 37 (.prod (.slice (.int .i32)) (.slice (.int .u8))) v41), (4, .arr 21 (.int .i32) v50)] 5 0 [True, True, True, True, True, (decide (v49 < (r2.length : Int))) = false, (decide (v49 < (r2.length : Int))) = false, (decide (v49 < (r2.length : Int))) = false, (decide (v49 < (r2.length : Int))) = false, (decide (v49 < (r2.length : Int))) = false, (decide (v49 < (r2.length : Int))) = false, (decide (v49 < (r2.length : Int))) = false, (decide (v49 < (r2.length : Int))) = false] (by kernel_rfl) (by kernel_rfl) ⟨trivial, trivial, trivial, trivial, trivial, hb74, hb74, hb74, hb74, hb74, hb74, hb74, hb74, trivial⟩ ?_
                obtain rfl := Option.some.inj h
                exact postN_to (goal_le (gs := []) (f := [0, 1, 2, 3, 4]) (by kernel_rfl) (by kernel_rfl))
            · clear hp21
              obtain ⟨rfl, hle⟩ := hq
              refine use_to ?_ hle
              refine to_then ?_
              refine W_cond (b := v53) (β := false) (by kernel_rfl) (fun hb75 => ?_) (fun hb75 => ?_)
              · replace h := h_if hb75 h
                refine W_skip_to ?_
                refine to_then ?_
                refine W_block ?_
                refine W_seq ?_
                obtain ⟨c118, h⟩ := h_guard h
                obtain ⟨c119, h⟩ := h_guard h
                refine W_reg tbok ⟨[], []⟩ [] [0, 1, 2, 3, 61] [(2, .adr 0 0 2 0), (5, .p false (.slice (.prod (.int .i32) (.prod (.int .i64) (.int .i64)))) r2), (6, .adr 1 0 2 0), (7, .p false (.int .i64) v49), (8, .sl 4), (9, .p false (.int .i64) ((r2.getD v42.toNat ((0 : Int), ((0 : Int), (0 : Int)))).2.1))] [(0, .box [.nils, .nils]), (1, .box [.sl 2, .sl 3]), (2, .arr 37 (.prod (.slice (.int .i32)) (.slice (.int .u8))) v40), (3, .arr 37 (.prod (.slice (.int .i32)) (.slice (.int .u8))) v41), (4, .arr 21 (.int .i32) (v50 ++ ([(r2.getD v49.toNat ((0 : Int), ((0 : Int), (0 : Int)))).1] : List Int)))] 5 0 [True, True, True, 0 ≤ v49 ∧ v49 < (r2.length : Int), True, True, True, (v50.length + ([(r2.getD v49.toNat ((0 : Int), ((0 : Int), (0 : Int)))).1] : List Int).length) * 4 ≤ 140737488355328 ∧ v50.length + ([(r2.getD v49.toNat ((0 : Int), ((0 : Int), (0 : Int)))).1] : List Int).length ≤ 9223372036854775807, True] (by kernel_rfl) (by kernel_rfl) ⟨trivial, trivial, trivial, c118, trivial, trivial, trivial, c119, trivial, trivial⟩ ?_
                refine to_then ?_
                refine W_reg tbok ⟨[], []⟩ [] [0, 1, 2, 3, 4] [(2, .adr 0 0 2 0), (5, .p false (.slice (.prod (.int .i32) (.prod (.int .i64) (.int .i64)))) r2), (6, .adr 1 0 2 0), (7, .p false (.int .i64) (IntKind.i64.wrap (v49 + (1 : Int)))), (8, .sl 4), (9, .p false (.int .i64) ((r2.getD v42.toNat ((0 : Int), ((0 : Int), (0 : Int)))).2.1))] [(0, .box [.nils, .nils]), (1, .box [.sl 2, .sl 3]), (2, .arr 37 (.prod (.slice (.int .i32)) (.slice (.int .u8))) v40), (3, .arr 37 (.prod (.slice (.int .i32)) (.slice (.int .u8))) v41), (4, .arr 21 (.int .i32) (v50 ++ ([(r2.getD v49.toNat ((0 : Int), ((0 : Int), (0 : Int)))).1] : List Int)))] 5 0 [True, True, True] (by kernel_rfl) (by kernel_rfl) ⟨trivial, trivial, trivial, trivial⟩ ?_
                refine to_block ?_
                obtain rfl := Option.some.inj h
                exact roundB (goal_le (gs := []) (f := [0, 1, 2, 3, 4]) (by kernel_rfl) (by kernel_rfl))
              · replace h := h_else hb75 h
                refine W_exit_to ?_
                refine thenE ?_
                obtain rfl := Option.some.inj h
                refine roundE ?_
                exact postX_to (goal_le (gs := []) (f := [0, 1, 2, 3, 4]) (by kernel_rfl) (by kernel_rfl))
          · clear hp22
            obtain ⟨v51, v52⟩ := r60
            obtain ⟨rfl, hle⟩ := hq
            refine use_to ?_ hle
            refine blockE_eq ?_
            refine to_then ?_
            refine W_seq ?_
            refine W_seq ?_
            refine W_reg tbok ⟨[], []⟩ [] [0, 1, 2, 3, 4] [(2, .adr 0 0 2 0), (5, .p false (.slice (.prod (.int .i32) (.prod (.int .i64) (.int .i64)))) r2), (6, .adr 1 0 2 0), (7, .p false (.int .i64) v51), (8, .sl 4), (9, .p false (.int .i64) ((r2.getD v42.toNat ((0 : Int), ((0 : Int), (0 : Int)))).2.1)), (70, .p false .bool (decide ((IntKind.i64.wrap ((v40.length : Int) + (v41.length : Int))) ≥ (256 : Int))))] [(0, .box [.nils, .nils]), (1, .box [.sl 2, .sl 3]), (2, .arr 37 (.prod (.slice (.int .i32)) (.slice (.int .u8))) v40), (3, .arr 37 (.prod (.slice (.int .i32)) (.slice (.int .u8))) v41), (4, .arr 21 (.int .i32) v52)] 5 0 [True, True, True, True, True, True, True, True] (by kernel_rfl) (by kernel_rfl) ⟨trivial, trivial, trivial, trivial, trivial, trivial, trivial, trivial, trivial⟩ ?_
            refine to_then ?_
            refine W_cond (b := (decide ((IntKind.i64.wrap ((v40.length : Int) + (v41.length : Int))) ≥ (256 : Int)))) (β := false) (by kernel_rfl) (fun hb76 => ?_) (fun hb76 => ?_)
            · replace h := h_if hb76 h
              refine W_seq ?_
              refine W_reg tbok ⟨[], []⟩ [] [0] [(2, .adr 0 0 2 0), (3, .p false (.int .i64) (24 : Int)), (4, .p false (.int .i64) ((r2.getD v42.toNat ((0 : Int), ((0 : Int), (0 : Int)))).2.1))] [(0, .box [.nils, .nils])] 1 0 [True, True, True, True, True] (by kernel_rfl) (by kernel_rfl) ⟨trivial, trivial, trivial, trivial, trivial, trivial⟩ ?_
              refine to_then ?_
              refine W_ret ?_
              obtain rfl := Option.some.inj h
              refine thenQ_ret ?_
              refine blockQ_ret ?_
              refine round_ret ?_
              refine postS_rr ?_
              exact postR_mk (Ret_intro [(.prod (.slice (.prod (.slice (.int .i32)) (.slice (.int .u8)))) (.slice (.prod (.slice (.int .i32)) (.slice (.int .u8))))), (.int .i64), (.int .i64)] (by kernel_rfl))
            · replace h := h_else hb76 h
              refine W_skip_to ?_
              refine to_then ?_
              refine W_seq ?_
              refine W_reg tbok ⟨[], []⟩ [] [0, 1, 2, 3, 4] [(2, .adr 0 0 2 0), (5, .p false (.slice (.prod (.int .i32) (.prod (.int .i64) (.int .i64)))) r2), (6, .adr 1 0 2 0), (7, .p false (.int .i64) v51), (8, .sl 4), (9, .p false (.int .i64) ((r2.getD v42.toNat ((0 : Int), ((0 : Int), (0 : Int)))).2.1)), (10, .p false (.int .i64) (0 : Int))] [(0, .box [.nils, .nils]), (1, .box [.sl 2, .sl 3]), (2, .arr 37 (.prod (.slice (.int .i32)) (.slice (.int .u8))) v40), (3, .arr 37 (.prod (.slice (.int .i32)) (.slice (.int .u8))) v41), (4, .arr 21 (.int .i32) v52)] 5 0 [True] (by kernel_rfl) (by kernel_rfl) ⟨trivial, trivial⟩ ?_
              refine to_then ?_
              refine W_seq ?_
              refine W_seq ?_
              refine W_reg tbok ⟨[], []⟩ [] [0, 1, 2, 3, 4] [(2, .adr 0 0 2 0), (5, .p false (.slice (.prod (.int .i32) (.prod (.int .i64) (.int .i64)))) r2), (6, .adr 1 0 2 0), (7, .p false (.int .i64) v51), (8, .sl 4), (9, .p false (.int .i64) ((r2.getD v42.toNat ((0 : Int), ((0 : Int), (0 : Int)))).2.1)), (10, .p false (.int .i64) (0 : Int)), (11, .p false (.int .i64) (0 : Int))] [(0, .box [.nils, .nils]), (1, .box [.sl 2, .sl 3]), (2, .arr 37 (.prod (.slice (.int .i32)) (.slice (.int .u8))) v40), (3, .arr 37 (.prod (.slice (.int .i32)) (.slice (.int .u8))) v41), (4, .arr 21 (.int .i32) v52)] 5 0 [True] (by kernel_rfl) (by kernel_rfl) ⟨trivial, trivial⟩ ?_
              refine to_then ?_
              refine W_block ?_
              obtain ⟨v60, hp26, h⟩ := h_bind h
              refine W.mono (Q := (postX Try.f13.ntmps 4 (fun (v60 : Int) => mkSt [(2, .adr 0 0 2 0), (5, .p false (.slice (.prod (.int .i32) (.prod (.int .i64) (.int .i64)))) r2), (6, .adr 1 0 2 0), (7, .p false (.int .i64) v51), (8, .sl 4), (9, .p false (.int .i64) ((r2.getD v42.toNat ((0 : Int), ((0 : Int), (0 : Int)))).2.1)), (10, .p false (.int .i64) v60)] [(0, .box [.nils, .nils]), (1, .box [.sl 2, .sl 3]), (2, .arr 37 (.prod (.slice (.int .i32)) (.slice (.int .u8))) v40), (3, .arr 37 (.prod (.slice (.int .i32)) (.slice (.int .u8))) v41), (4, .arr 21 (.int .i32) v52)] 5)) v60) (W_iter (f := fun ((v58, v59) : Int × Int) => mkSt [(2, .adr 0 0 2 0), (5, .p false (.slice (.prod (.int .i32) (.prod (.int .i64) (.int .i64)))) r2), (6, .adr 1 0 2 0), (7, .p false (.int .i64) v51), (8, .sl 4), (9, .p false (.int .i64) ((r2.getD v42.toNat ((0 : Int), ((0 : Int), (0 : Int)))).2.1)), (10, .p false (.int .i64) v58), (11, .p false (.int .i64) v59)] [(0, .box [.nils, .nils]), (1, .box [.sl 2, .sl 3]), (2, .arr 37 (.prod (.slice (.int .i32)) (.slice (.int .u8))) v40), (3, .arr 37 (.prod (.slice (.int .i32)) (.slice (.int .u8))) v41), (4, .arr 21 (.int .i32) v52)] 5) (Q := (postX Try.f13.ntmps 4 (fun (v60 : Int) => mkSt [(2, .adr 0 0 2 0), (5, .p false (.slice (.prod (.int .i32) (.prod (.int .i64) (.int .i64)))) r2), (6, .adr 1 0 2 0), (7, .p false (.int .i64) v51), (8, .sl 4), (9, .p false (.int .i64) ((r2.getD v42.toNat ((0 : Int), ((0 : Int), (0 : Int)))).2.1)), (10, .p false (.int .i64) v60)] [(0, .box [.nils, .nils]), (1, .box [.sl 2, .sl 3]), (2, .arr 37 (.prod (.slice (.int .i32)) (.slice (.int .u8))) v40), (3, .arr 37 (.prod (.slice (.int .i32)) (.slice (.int .u8))) v41), (4, .arr 21 (.int .i32) v52)] 5))) hp26 (goal_le (gs := []) (f := [0, 1, 2, 3, 4]) (by kernel_rfl) (by kernel_rfl)) (fun y o ho => ?_)) (fun e σ' hq => ?_)
              · obtain ⟨v58, v59⟩ := y
                replace h := ho
                clear ho hp26
                unfold stanzaref07_Parse_L2 at h
                refine W_seq ?_
                refine W_seq ?_
                refine W_reg tbok ⟨[], []⟩ [] [0, 1, 2, 3, 4] [(2, .adr 0 0 2 0), (5, .p false (.slice (.prod (.int .i32) (.prod (.int .i64) (.int .i64)))) r2), (6, .adr 1 0 2 0), (7, .p false (.int .i64) v51), (8, .sl 4), (9, .p false (.int .i64) ((r2.getD v42.toNat ((0 : Int), ((0 : Int), (0 : Int)))).2.1)), (10, .p false (.int .i64) v58), (11, .p false (.int .i64) v59), (76, .p false .bool (decide (v59 < (v52.length : Int))))] [(0, .box [.nils, .nils]), (1, .box [.sl 2, .sl 3]), (2, .arr 37 (.prod (.slice (.int .i32)) (.slice (.int .u8))) v40), (3, .arr 37 (.prod (.slice (.int .i32)) (.slice (.int .u8))) v41), (4, .arr 21 (.int .i32) v52)] 5 0 [True, True, True, True] (by kernel_rfl) (by kernel_rfl) ⟨trivial, trivial, trivial, trivial, trivial⟩ ?_
                refine to_then ?_
                refine W_cond (b := (decide (v59 < (v52.length : Int)))) (β := false) (by kernel_rfl) (fun hb83 => ?_) (fun hb83 => ?_)
                · replace h := h_if hb83 h
                  refine W_skip_to ?_
                  refine to_then ?_
                  refine W_seq ?_
                  refine W_block ?_
                  refine W_seq ?_
                  obtain ⟨c130, h⟩ := h_guard h
                  obtain ⟨c131, h⟩ := h_guard h
                  refine W_reg tbok ⟨[], []⟩ [] [0, 1, 2, 3, 4] [(2, .adr 0 0 2 0), (5, .p false (.slice (.prod (.int .i32) (.prod (.int .i64) (.int .i64)))) r2), (6, .adr 1 0 2 0), (7, .p false (.int .i64) v51), (8, .sl 4), (9, .p false (.int .i64) ((r2.getD v42.toNat ((0 : Int), ((0 : Int), (0 : Int)))).2.1)), (10, .p false (.int .i64) v58), (11, .p false (.int .i64) v59), (83, .p false .bool ((v52.getD v59.toNat (0 : Int)) == (45 : Int)))] [(0, .box [.nils, .nils]), (1, .box [.sl 2, .sl 3]), (2, .arr 37 (.prod (.slice (.int .i32)) (.slice (.int .u8))) v40), (3, .arr 37 (.prod (.slice (.int .i32)) (.slice (.int .u8))) v41), (4, .arr 21 (.int .i32) v52)] 5 0 [True, True, 0 ≤ v59 ∧ v59 < (v52.length : Int), v59.toNat < v52.length, True] (by kernel_rfl) (by kernel_rfl) ⟨trivial, trivial, c130, c131, trivial, trivial⟩ ?_
                  refine to_then ?_
                  obtain ⟨v61, hp25, h⟩ := h_bind h
                  refine W.mono (Q := (postN Try.f13.ntmps (fun (v61 : Int) => mkSt [(2, .adr 0 0 2 0), (5, .p false (.slice (.prod (.int .i32) (.prod (.int .i64) (.int .i64)))) r2), (6, .adr 1 0 2 0), (7, .p false (.int .i64) v51), (8, .sl 4), (9, .p false (.int .i64) ((r2.getD v42.toNat ((0 : Int), ((0 : Int), (0 : Int)))).2.1)), (10, .p false (.int .i64) v61), (11, .p false (.int .i64) v59)] [(0, .box [.nils, .nils]), (1, .box [.sl 2, .sl 3]), (2, .arr 37 (.prod (.slice (.int .i32)) (.slice (.int .u8))) v40), (3, .arr 37 (.prod (.slice (.int .i32)) (.slice (.int .u8))) v41), (4, .arr 21 (.int .i32) v52)] 5)) v61) ?_ (fun e σ' hq => ?_)
                  · replace h := hp25
                    clear hp25
                    refine W_cond (b := ((v52.getD v59.toNat (0 : Int)) == (45 : Int))) (β := false) (by kernel_rfl) (fun hb85 => ?_) (fun hb85 => ?_)
                    · replace h := h_if hb85 h
                      refine W_reg tbok ⟨[], []⟩ [] [0, 1, 2, 3, 4] [(2, .adr 0 0 2 0), (5, .p false (.slice (.prod (.int .i32) (.prod (.int .i64) (.int .i64)))) r2), (6, .adr 1 0 2 0), (7, .p false (.int .i64) v51), (8, .sl 4), (9, .p false (.int .i64) ((r2.getD v42.toNat ((0 : Int), ((0 : Int), (0 : Int)))).2.1)), (10, .p false (.int .i64) (IntKind.i64.wrap (v58 + (1 : Int)))), (11, .p false (.int .i64) v59)] [(0, .box [.nils, .nils]), (1, .box [.sl 2, .sl 3]), (2, .arr 37 (.prod (.slice (.int .i32)) (.slice (.int .u8))) v40), (3, .arr 37 (.prod (.slice (.int .i32)) (.slice (.int .u8))) v41), (4, .arr 21 (.int .i32) v52)] 5 0 [True, True, True] (by kernel_rfl) (by kernel_rfl) ⟨trivial, trivial, trivial, trivial⟩ ?_
                      obtain rfl := Option.some.inj h
                      exact postN_to (goal_le (gs := []) (f := [0, 1, 2, 3, 4]) (by kernel_rfl) (by kernel_rfl))
                    · replace h := h_else hb85 h
                      refine W_skip_to ?_
                      obtain rfl := Option.some.inj h
                      exact postN_to (goal_le (gs := []) (f := [0, 1, 2, 3, 4]) (by kernel_rfl) (by kernel_rfl))
                  · clear hp25
                    obtain ⟨rfl, hle⟩ := hq
                    refine use_to ?_ hle
                    refine to_block ?_
                    refine to_then ?_
                    refine W_reg tbok ⟨[], []⟩ [] [0, 1, 2, 3, 4] [(2, .adr 0 0 2 0), (5, .p false (.slice (.prod (.int .i32) (.prod (.int .i64) (.int .i64)))) r2), (6, .adr 1 0 2 0), (7, .p false (.int .i64) v51), (8, .sl 4), (9, .p false (.int .i64) ((r2.getD v42.toNat ((0 : Int), ((0 : Int), (0 : Int)))).2.1)), (10, .p false (.int .i64) v61), (11, .p false (.int .i64) (IntKind.i64.wrap (v59 + (1 : Int))))] [(0, .box [.nils, .nils]), (1, .box [.sl 2, .sl 3]), (2, .arr 37 (.prod (.slice (.int .i32)) (.slice (.int .u8))) v40), (3, .arr 37 (.prod (.slice (.int .i32)) (.slice (.int .u8))) v41), (4, .arr 21 (.int .i32) v52)] 5 0 [True, True, True] (by kernel_rfl) (by kernel_rfl) ⟨trivial, trivial, trivial, trivial⟩ ?_
                    obtain rfl := Option.some.inj h
                    exact roundB (goal_le (gs := []) (f := [0, 1, 2, 3, 4]) (by kernel_rfl) (by kernel_rfl))
                · replace h := h_else hb83 h
                  refine W_exit_to ?_
                  refine thenE ?_
                  obtain rfl := Option.some.inj h
                  refine roundE ?_
                  exact postX_to (goal_le (gs := []) (f := [0, 1, 2, 3, 4]) (by kernel_rfl) (by kernel_rfl))
              · clear hp26
                obtain ⟨rfl, hle⟩ := hq
                refine use_to ?_ hle
                refine blockE_eq ?_
                refine to_then ?_
                refine W_seq ?_
                obtain ⟨⟨r63, r64⟩, q47, h⟩ := h_bind h
                refine W_reg tbok ⟨[], [(3, ⟨.tup [.agg [.p false (.slice (.int .i32)) r63.1, .p false (.slice (.int .u8)) r63.2], .p false .bool r64], [false, false], false, [true, true], [], []⟩)]⟩ [] [0, 1, 2, 3, 61] [(2, .adr 0 0 2 0), (5, .p false (.slice (.prod (.int .i32) (.prod (.int .i64) (.int .i64)))) r2), (6, .adr 1 0 2 0), (7, .p false (.int .i64) v51), (9, .p false (.int .i64) ((r2.getD v42.toNat ((0 : Int), ((0 : Int), (0 : Int)))).2.1)), (10, .p false (.int .i64) v60), (12, .adr 4 0 2 0), (13, .p false .bool r64)] [(0, .box [.nils, .nils]), (1, .box [.sl 2, .sl 3]), (2, .arr 37 (.prod (.slice (.int .i32)) (.slice (.int .u8))) v40), (3, .arr 37 (.prod (.slice (.int .i32)) (.slice (.int .u8))) v41), (4, .box [.p false (.slice (.int .i32)) r63.1, .p false (.slice (.int .u8)) r63.2])] 5 0 [True, True, True, Pure Try.prog 24 [.p true (.slice (.int .i32)) v52, .p false .bool (decide (v60 > (0 : Int)))] (.tup [.agg [.p false (.slice (.int .i32)) r63.1, .p false (.slice (.int .u8)) r63.2], .p false .bool r64]), True, True, True, True, True, True] (by kernel_rfl) (by kernel_rfl) ⟨trivial, trivial, trivial, (stanzaref07_pattern_ok true v52 (decide (v60 > (0 : Int))) _ q47), trivial, trivial, trivial, trivial, trivial, trivial, trivial⟩ ?_
                refine to_then ?_
                refine W_seq ?_
                refine W_seq ?_
                refine W_reg tbok ⟨[], []⟩ [] [0, 1, 2, 3, 4] [(2, .adr 0 0 2 0), (5, .p false (.slice (.prod (.int .i32) (.prod (.int .i64) (.int .i64)))) r2), (6, .adr 1 0 2 0), (7, .p false (.int .i64) v51), (9, .p false (.int .i64) ((r2.getD v42.toNat ((0 : Int), ((0 : Int), (0 : Int)))).2.1)), (10, .p false (.int .i64) v60), (12, .adr 4 0 2 0), (94, .p false .bool (!r64))] [(0, .box [.nils, .nils]), (1, .box [.sl 2, .sl 3]), (2, .arr 37 (.prod (.slice (.int .i32)) (.slice (.int .u8))) v40), (3, .arr 37 (.prod (.slice (.int .i32)) (.slice (.int .u8))) v41), (4, .box [.p false (.slice (.int .i32)) r63.1, .p false (.slice (.int .u8)) r63.2])] 5 0 [True, True] (by kernel_rfl) (by kernel_rfl) ⟨trivial, trivial, trivial⟩ ?_
                refine to_then ?_
                refine W_cond (b := (!r64)) (β := false) (by kernel_rfl) (fun hb86 => ?_) (fun hb86 => ?_)
                · replace h := h_if hb86 h
                  refine W_seq ?_
                  refine W_reg tbok ⟨[], []⟩ [] [0] [(2, .adr 0 0 2 0), (3, .p false (.int .i64) (30 : Int)), (4, .p false (.int .i64) ((r2.getD v42.toNat ((0 : Int), ((0 : Int), (0 : Int)))).2.1))] [(0, .box [.nils, .nils])] 1 0 [True, True, True, True, True] (by kernel_rfl) (by kernel_rfl) ⟨trivial, trivial, trivial, trivial, trivial, trivial⟩ ?_
                  refine to_then ?_
                  refine W_ret ?_
                  obtain rfl := Option.some.inj h
                  refine thenQ_ret ?_
                  refine blockQ_ret ?_
                  refine round_ret ?_
                  refine postS_rr ?_
                  exact postR_mk (Ret_intro [(.prod (.slice (.prod (.slice (.int .i32)) (.slice (.int .u8)))) (.slice (.prod (.slice (.int .i32)) (.slice (.int .u8))))), (.int .i64), (.int .i64)] (by kernel_rfl))
                · replace h := h_else hb86 h
                  refine W_skip_to ?_
                  refine to_then ?_
                  refine W_seq ?_
                  refine W_seq ?_
                  refine W_reg tbok ⟨[], []⟩ [] [0, 1, 2, 3, 4] [(2, .adr 0 0 2 0), (5, .p false (.slice (.prod (.int .i32) (.prod (.int .i64) (.int .i64)))) r2), (6, .adr 1 0 2 0), (7, .p false (.int .i64) v51), (9, .p false (.int .i64) ((r2.getD v42.toNat ((0 : Int), ((0 : Int), (0 : Int)))).2.1)), (12, .adr 4 0 2 0), (98, .p false .bool (v60 == (0 : Int)))] [(0, .box [.nils, .nils]), (1, .box [.sl 2, .sl 3]), (2, .arr 37 (.prod (.slice (.int .i32)) (.slice (.int .u8))) v40), (3, .arr 37 (.prod (.slice (.int .i32)) (.slice (.int .u8))) v41), (4, .box [.p false (.slice (.int .i32)) r63.1, .p false (.slice (.int .u8)) r63.2])] 5 0 [True, True] (by kernel_rfl) (by kernel_rfl) ⟨trivial, trivial, trivial⟩ ?_
                  refine to_then ?_
                  refine W_cond (b := (v60 == (0 : Int))) (β := false) (by kernel_rfl) (fun hb87 => ?_) (fun hb87 => ?_)
                  · replace h := h_if hb87 h
                    refine W_seq ?_
                    obtain ⟨c133, h⟩ := h_guard h
                    refine W_reg tbok ⟨[], []⟩ [] [0, 1, 37, 3] [(2, .adr 0 0 2 0), (5, .p false (.slice (.prod (.int .i32) (.prod (.int .i64) (.int .i64)))) r2), (6, .adr 1 0 2 0), (7, .p false (.int .i64) v51)] [(0, .box [.nils, .nils]), (1, .box [.sl 2, .sl 3]), (2, .arr 37 (.prod (.slice (.int .i32)) (.slice (.int .u8))) (v40 ++ ([(r63.1, r63.2)] : List ((List Int) × List Int)))), (3, .arr 37 (.prod (.slice (.int .i32)) (.slice (.int .u8))) v41)] 4 0 [True, True, True, True, (v40.length + ([(r63.1, r63.2)] : List ((List Int) × List Int)).length) * 48 ≤ 140737488355328 ∧ v40.length + ([(r63.1, r63.2)] : List ((List Int) × List Int)).length ≤ 9223372036854775807, True, True] (by kernel_rfl) (by kernel_rfl) ⟨trivial, trivial, trivial, trivial, c133, trivial, trivial, trivial⟩ ?_
                    refine to_then ?_
                    refine W_exit_to ?_
                    refine thenE ?_
                    refine blockE_eq ?_
                    obtain rfl := Option.some.inj h
                    exact roundB (goal_le (gs := []) (f := [0, 1, 2, 3]) (by kernel_rfl) (by kernel_rfl))
                  · replace h := h_else hb87 h
                    refine W_skip_to ?_
                    refine to_then ?_
                    refine W_seq ?_
                    refine W_seq ?_
                    refine W_reg tbok ⟨[], []⟩ [] [0, 1, 2, 3, 4] [(2, .adr 0 0 2 0), (5, .p false (.slice (.prod (.int .i32) (.prod (.int .i64) (.int .i64)))) r2), (6, .adr 1 0 2 0), (7, .p false (.int .i64) v51), (9, .p false (.int .i64) ((r2.getD v42.toNat ((0 : Int), ((0 : Int), (0 : Int)))).2.1)), (12, .adr 4 0 2 0), (14, .p false (.int .i64) (0 : Int))] [(0, .box [.nils, .nils]), (1, .box [.sl 2, .sl 3]), (2, .arr 37 (.prod (.slice (.int .i32)) (.slice (.int .u8))) v40), (3, .arr 37 (.prod (.slice (.int .i32)) (.slice (.int .u8))) v41), (4, .box [.p false (.slice (.int .i32)) r63.1, .p false (.slice (.int .u8)) r63.2])] 5 0 [True] (by kernel_rfl) (by kernel_rfl) ⟨trivial, trivial⟩ ?_
                    refine to_then ?_
                    refine W_block ?_
                    obtain ⟨r74, hp27, h⟩ := h_bind h
                    refine W.mono (Q := (postS (postX Try.f13.ntmps 6 (fun (_ : Unit) => mkSt [(2, .adr 0 0 2 0), (5, .p false (.slice (.prod (.int .i32) (.prod (.int .i64) (.int .i64)))) r2), (6, .adr 1 0 2 0), (7, .p false (.int .i64) v51), (12, .adr 4 0 2 0)] [(0, .box [.nils, .nils]), (1, .box [.sl 2, .sl 3]), (2, .arr 37 (.prod (.slice (.int .i32)) (.slice (.int .u8))) v40), (3, .arr 37 (.prod (.slice (.int .i32)) (.slice (.int .u8))) v41), (4, .box [.p false (.slice (.int .i32)) r63.1, .p false (.slice (.int .u8)) r63.2])] 5)) (postR tb Try.f13.results.toList (fun ((r69, r70, r71) : ((List ((List Int) × List Int)) × List ((List Int) × List Int)) × Int × Int) => [⟨(.prod (.slice (.prod (.slice (.int .i32)) (.slice (.int .u8)))) (.slice (.prod (.slice (.int .i32)) (.slice (.int .u8))))), r69⟩, ⟨(.int .i64), r70⟩, ⟨(.int .i64), r71⟩]))) r74) (W_iter (f := fun (v63 : Int) => mkSt [(2, .adr 0 0 2 0), (5, .p false (.slice (.prod (.int .i32) (.prod (.int .i64) (.int .i64)))) r2), (6, .adr 1 0 2 0), (7, .p false (.int .i64) v51), (9, .p false (.int .i64) ((r2.getD v42.toNat ((0 : Int), ((0 : Int), (0 : Int)))).2.1)), (12, .adr 4 0 2 0), (14, .p false (.int .i64) v63)] [(0, .box [.nils, .nils]), (1, .box [.sl 2, .sl 3]), (2, .arr 37 (.prod (.slice (.int .i32)) (.slice (.int .u8))) v40), (3, .arr 37 (.prod (.slice (.int .i32)) (.slice (.int .u8))) v41), (4, .box [.p false (.slice (.int .i32)) r63.1, .p false (.slice (.int .u8)) r63.2])] 5) (Q := (postS (postX Try.f13.ntmps 6 (fun (_ : Unit) => mkSt [(2, .adr 0 0 2 0), (5, .p false (.slice (.prod (.int .i32) (.prod (.int .i64) (.int .i64)))) r2), (6, .adr 1 0 2 0), (7, .p false (.int .i64) v51), (12, .adr 4 0 2 0)] [(0, .box [.nils, .nils]), (1, .box [.sl 2, .sl 3]), (2, .arr 37 (.prod (.slice (.int .i32)) (.slice (.int .u8))) v40), (3, .arr 37 (.prod (.slice (.int .i32)) (.slice (.int .u8))) v41), (4, .box [.p false (.slice (.int .i32)) r63.1, .p false (.slice (.int .u8)) r63.2])] 5)) (postR tb Try.f13.results.toList (fun ((r69, r70, r71) : ((List ((List Int) × List Int)) × List ((List Int) × List Int)) × Int × Int) => [⟨(.prod (.slice (.prod (.slice (.int .i32)) (.slice (.int .u8)))) (.slice (.prod (.slice (.int .i32)) (.slice (.int .u8))))), r69⟩, ⟨(.int .i64), r70⟩, ⟨(.int .i64), r71⟩])))) hp27 (goal_le (gs := []) (f := [0, 1, 2, 3, 4]) (by kernel_rfl) (by kernel_rfl)) (fun v63 o ho => ?_)) (fun e σ' hq => ?_)
                    · replace h := ho
                      clear ho hp27
                      unfold stanzaref07_Parse_L3 at h
                      refine W_seq ?_
                      refine W_seq ?_
                      refine W_reg tbok ⟨[], []⟩ [] [0, 1, 2, 3, 4] [(2, .adr 0 0 2 0), (5, .p false (.slice (.prod (.int .i32) (.prod (.int .i64) (.int .i64)))) r2), (6, .adr 1 0 2 0), (7, .p false (.int .i64) v51), (9, .p false (.int .i64) ((r2.getD v42.toNat ((0 : Int), ((0 : Int), (0 : Int)))).2.1)), (12, .adr 4 0 2 0), (14, .p false (.int .i64) v63), (109, .p false .bool (decide (v63 < (v41.length : Int))))] [(0, .box [.nils, .nils]), (1, .box [.sl 2, .sl 3]), (2, .arr 37 (.prod (.slice (.int .i32)) (.slice (.int .u8))) v40), (3, .arr 37 (.prod (.slice (.int .i32)) (.slice (.int .u8))) v41), (4, .box [.p false (.slice (.int .i32)) r63.1, .p false (.slice (.int .u8)) r63.2])] 5 0 [True, True, True, True, True] (by kernel_rfl) (by kernel_rfl) ⟨trivial, trivial, trivial, trivial, trivial, trivial⟩ ?_
                      refine to_then ?_
                      refine W_cond (b := (decide (v63 < (v41.length : Int)))) (β := false) (by kernel_rfl) (fun hb92 => ?_) (fun hb92 => ?_)
                      · replace h := h_if hb92 h
                        refine W_skip_to ?_
                        refine to_then ?_
                        refine W_seq ?_
                        refine W_block ?_
                        refine W_seq ?_
                        obtain ⟨c144, h⟩ := h_guard h
                        obtain ⟨c145, h⟩ := h_guard h
                        obtain ⟨r73, q53, h⟩ := h_bind h
                        refine W_regD tbok mixed ⟨[], [(8, ⟨.p false .bool r73, [false, false], false, [true, true], [], []⟩)]⟩ [] [0, 1, 2, 3, 4] [(2, .adr 0 0 2 0), (5, .p false (.slice (.prod (.int .i32) (.prod (.int .i64) (.int .i64)))) r2), (6, .adr 1 0 2 0), (7, .p false (.int .i64) v51), (9, .p false (.int .i64) ((r2.getD v42.toNat ((0 : Int), ((0 : Int), (0 : Int)))).2.1)), (12, .adr 4 0 2 0), (14, .p false (.int .i64) v63), (120, .p false .bool r73)] [(0, .box [.nils, .nils]), (1, .box [.sl 2, .sl 3]), (2, .arr 37 (.prod (.slice (.int .i32)) (.slice (.int .u8))) v40), (3, .arr 37 (.prod (.slice (.int .i32)) (.slice (.int .u8))) v41), (4, .box [.p false (.slice (.int .i32)) r63.1, .p false (.slice (.int .u8)) r63.2])] 5 0 [True, True, True, 0 ≤ v63 ∧ v63 < (v41.length : Int), True, v63.toNat < v41.length, True, True, Pure Try.prog 21 [.p false (.slice (.int .i32)) ((v41.getD v63.toNat (([] : List Int), ([] : List Int))).1), .p false (.slice (.int .i32)) r63.1] (.p false .bool r73)] (by kernel_rfl) (by kernel_rfl) ⟨trivial, trivial, trivial, c144, trivial, c145, trivial, trivial, (stanzaref07_Same_ok false false ((v41.getD v63.toNat (([] : List Int), ([] : List Int))).1) r63.1 _ q53), trivial⟩ ?_
                        refine to_then ?_
                        refine W_cond (b := r73) (β := false) (by kernel_rfl) (fun hb93 => ?_) (fun hb93 => ?_)
                        · replace h := h_if hb93 h
                          refine W_seq ?_
                          refine W_reg tbok ⟨[], []⟩ [] [0] [(2, .adr 0 0 2 0), (3, .p false (.int .i64) (23 : Int)), (4, .p false (.int .i64) ((r2.getD v42.toNat ((0 : Int), ((0 : Int), (0 : Int)))).2.1))] [(0, .box [.nils, .nils])] 1 0 [True, True, True, True, True] (by kernel_rfl) (by kernel_rfl) ⟨trivial, trivial, trivial, trivial, trivial, trivial⟩ ?_
                          refine to_then ?_
                          refine W_ret ?_
                          obtain rfl := Option.some.inj h
                          refine blockQ_ret ?_
                          refine thenQ_ret ?_
                          refine round_ret ?_
                          refine postS_rr ?_
                          exact postR_mk (Ret_intro [(.prod (.slice (.prod (.slice (.int .i32)) (.slice (.int .u8)))) (.slice (.prod (.slice (.int .i32)) (.slice (.int .u8))))), (.int .i64), (.int .i64)] (by kernel_rfl))
                        · replace h := h_else hb93 h
                          refine W_skip_to ?_
                          refine to_block ?_
                          refine to_then ?_
                          refine W_reg tbok ⟨[], []⟩ [] [0, 1, 2, 3, 4] [(2, .adr 0 0 2 0), (5, .p false (.slice (.prod (.int .i32) (.prod (.int .i64) (.int .i64)))) r2), (6, .adr 1 0 2 0), (7, .p false (.int .i64) v51), (9, .p false (.int .i64) ((r2.getD v42.toNat ((0 : Int), ((0 : Int), (0 : Int)))).2.1)), (12, .adr 4 0 2 0), (14, .p false (.int .i64) (IntKind.i64.wrap (v63 + (1 : Int))))] [(0, .box [.nils, .nils]), (1, .box [.sl 2, .sl 3]), (2, .arr 37 (.prod (.slice (.int .i32)) (.slice (.int .u8))) v40), (3, .arr 37 (.prod (.slice (.int .i32)) (.slice (.int .u8))) v41), (4, .box [.p false (.slice (.int .i32)) r63.1, .p false (.slice (.int .u8)) r63.2])] 5 0 [True, True, True] (by kernel_rfl) (by kernel_rfl) ⟨trivial, trivial, trivial, trivial⟩ ?_
                          obtain rfl := Option.some.inj h
                          exact roundB (goal_le (gs := []) (f := [0, 1, 2, 3, 4]) (by kernel_rfl) (by kernel_rfl))
                      · replace h := h_else hb92 h
                        refine W_exit_to ?_
                        refine thenE ?_
                        obtain rfl := Option.some.inj h
                        refine roundE ?_
                        refine postS_l ?_
                        exact postX_to (goal_le (gs := []) (f := [0, 1, 2, 3, 4]) (by kernel_rfl) (by kernel_rfl))
                    · clear hp27
                      rcases r74 with _ | ⟨r69, r70, r71⟩
                      · obtain ⟨rfl, hle⟩ := hq
                        refine use_to ?_ hle
                        refine blockE_eq ?_
                        refine to_then ?_
                        obtain ⟨c147, h⟩ := h_guard h
                        refine W_reg tbok ⟨[], []⟩ [] [0, 1, 2, 37] [(2, .adr 0 0 2 0), (5, .p false (.slice (.prod (.int .i32) (.prod (.int .i64) (.int .i64)))) r2), (6, .adr 1 0 2 0), (7, .p false (.int .i64) v51)] [(0, .box [.nils, .nils]), (1, .box [.sl 2, .sl 3]), (2, .arr 37 (.prod (.slice (.int .i32)) (.slice (.int .u8))) v40), (3, .arr 37 (.prod (.slice (.int .i32)) (.slice (.int .u8))) (v41 ++ ([(r63.1, r63.2)] : List ((List Int) × List Int))))] 4 0 [True, True, True, True, (v41.length + ([(r63.1, r63.2)] : List ((List Int) × List Int)).length) * 48 ≤ 140737488355328 ∧ v41.length + ([(r63.1, r63.2)] : List ((List Int) × List Int)).length ≤ 9223372036854775807, True, True] (by kernel_rfl) (by kernel_rfl) ⟨trivial, trivial, trivial, trivial, c147, trivial, trivial, trivial⟩ ?_
                        refine to_block ?_
                        obtain rfl := Option.some.inj h
                        exact roundB (goal_le (gs := []) (f := [0, 1, 2, 3]) (by kernel_rfl) (by kernel_rfl))
                      · obtain ⟨rfl, hr⟩ := hq
                        obtain rfl := Option.some.inj h
                        refine blockQ_ret ?_
                        refine thenQ_ret ?_
                        refine blockQ_ret ?_
                        refine round_ret ?_
                        refine postS_rr ?_
                        exact postR_mk hr
      · replace h := h_else hb62 h
        refine W_exit_to ?_
        refine thenE ?_
        obtain rfl := Option.some.inj h
        refine roundE ?_
        refine postS_l ?_
        exact postX_to (goal_le (gs := []) (f := [0, 1, 2, 3]) (by kernel_rfl) (by kernel_rfl))
    · clear hp28
      rcases r75 with ⟨v43, v44⟩ | ⟨r46, r47, r48⟩
      · obtain ⟨rfl, hle⟩ := hq
        refine use_to ?_ hle
        refine blockE_eq ?_
        refine to_then ?_
        refine W_seq ?_
        refine W_reg tbok ⟨[], []⟩ [] [0, 2, 3] [(2, .adr 0 0 2 0), (3, .p false (.int .i64) (0 : Int)), (4, .p false (.int .i64) (0 : Int))] [(0, .box [.sl 1, .sl 2]), (1, .arr 37 (.prod (.slice (.int .i32)) (.slice (.int .u8))) v43), (2, .arr 37 (.prod (.slice (.int .i32)) (.slice (.int .u8))) v44)] 3 0 [True, True, True, True] (by kernel_rfl) (by kernel_rfl) ⟨trivial, trivial, trivial, trivial, trivial⟩ ?_
        refine to_then ?_
        refine W_ret ?_
        obtain rfl := Option.some.inj h
        exact Ret_intro [(.prod (.slice (.prod (.slice (.int .i32)) (.slice (.int .u8)))) (.slice (.prod (.slice (.int .i32)) (.slice (.int .u8))))), (.int .i64), (.int .i64)] (by kernel_rfl)
      · obtain ⟨rfl, hr⟩ := hq
        refine blockQ_ret ?_
        refine thenQ_ret ?_
        obtain rfl := Option.some.inj h
        exact hr

/-- 'stanza/stanzalaw07.told' -/
def stanzalaw07_told (t1 : List UInt8) : Option (Bool) :=
  ((pats_Parse t1).bind fun ((r3, r4) : ((List ((List Int) × List Int)) × List ((List Int) × List Int)) × Int × Int) =>
  ((stanzaref07_Parse t1).bind fun ((r8, r9, r10) : ((List ((List Int) × List Int)) × List ((List Int) × List Int)) × Int × Int) =>
  (((if (r4.1 == r9) = true then (if (r4.2 == r10) = true then ((stanzaref07_SamePatterns r3.1 r8.1).bind fun (r15 : Bool) =>
  (if r15 = true then ((stanzaref07_SamePatterns r3.2 r8.2).bind fun (r16 : Bool) =>
  some (r16))
  else some (false)))
  else some (false))
  else some (false))).bind fun (v1 : Bool) => some v1)))

set_option maxRecDepth 100000 in
set_option maxHeartbeats 4000000 in
theorem stanzalaw07_told_ok (t1 : List UInt8) (res : Bool) (h : stanzalaw07_told t1 = some res) :
    Pure Try.prog 9 [.p false .str t1] (wrapR (encs false [⟨.bool, res⟩])) := by
  refine Pure.of_body tbok Try.func9 (by kernel_rfl) rfl (Nat.le_of_ble_eq_true rfl) (fun Bw w0 => ?_) rfl
  unfold stanzalaw07_told at h
  refine W_seq ?_
  refine W_reg tbok ⟨[], []⟩ [] [] [(0, .p false .str t1)] [] 0 0 [True] (by kernel_rfl) (by kernel_rfl) ⟨trivial, trivial⟩ ?_
  refine to_then ?_
  refine W_seq ?_
  obtain ⟨⟨r3, r4⟩, q2, h⟩ := h_bind h
  refine W_reg tbok ⟨[], [(1, ⟨.tup [.agg [.p false (.slice (.prod (.slice (.int .i32)) (.slice (.int .u8)))) r3.1, .p false (.slice (.prod (.slice (.int .i32)) (.slice (.int .u8)))) r3.2], .agg [.p false (.int .i64) r4.1, .p false (.int .i64) r4.2]], [false], false, [true], [], []⟩)]⟩ [] [40, 48] [(0, .p false .str t1), (3, .adr 0 0 2 0), (4, .adr 1 0 2 0)] [(0, .box [.p false (.slice (.prod (.slice (.int .i32)) (.slice (.int .u8)))) r3.1, .p false (.slice (.prod (.slice (.int .i32)) (.slice (.int .u8)))) r3.2]), (1, .box [.p false (.int .i64) r4.1, .p false (.int .i64) r4.2])] 2 0 [True, Pure Try.prog 10 [.p false .str t1] (.tup [.agg [.p false (.slice (.prod (.slice (.int .i32)) (.slice (.int .u8)))) r3.1, .p false (.slice (.prod (.slice (.int .i32)) (.slice (.int .u8)))) r3.2], .agg [.p false (.int .i64) r4.1, .p false (.int .i64) r4.2]]), True, True, True, True, True, True, True] (by kernel_rfl) (by kernel_rfl) ⟨trivial, (pats_Parse_ok t1 _ q2), trivial, trivial, trivial, trivial, trivial, trivial, trivial, trivial⟩ ?_
  refine to_then ?_
  refine W_seq ?_
  obtain ⟨⟨r8, r9, r10⟩, q4, h⟩ := h_bind h
  refine W_reg tbok ⟨[], [(1, ⟨.tup [.agg [.p false (.slice (.prod (.slice (.int .i32)) (.slice (.int .u8)))) r8.1, .p false (.slice (.prod (.slice (.int .i32)) (.slice (.int .u8)))) r8.2], .p false (.int .i64) r9, .p false (.int .i64) r10], [false], false, [true], [], []⟩)]⟩ [] [0, 1, 50] [(3, .adr 0 0 2 0), (4, .adr 1 0 2 0), (5, .adr 2 0 2 0), (6, .p false (.int .i64) r9), (7, .p false (.int .i64) r10)] [(0, .box [.p false (.slice (.prod (.slice (.int .i32)) (.slice (.int .u8)))) r3.1, .p false (.slice (.prod (.slice (.int .i32)) (.slice (.int .u8)))) r3.2]), (1, .box [.p false (.int .i64) r4.1, .p false (.int .i64) r4.2]), (2, .box [.p false (.slice (.prod (.slice (.int .i32)) (.slice (.int .u8)))) r8.1, .p false (.slice (.prod (.slice (.int .i32)) (.slice (.int .u8)))) r8.2])] 3 0 [True, Pure Try.prog 13 [.p false .str t1] (.tup [.agg [.p false (.slice (.prod (.slice (.int .i32)) (.slice (.int .u8)))) r8.1, .p false (.slice (.prod (.slice (.int .i32)) (.slice (.int .u8)))) r8.2], .p false (.int .i64) r9, .p false (.int .i64) r10]), True, True, True, True, True, True, True, True] (by kernel_rfl) (by kernel_rfl) ⟨trivial, (stanzaref07_Parse_ok t1 _ q4), trivial, trivial, trivial, trivial, trivial, trivial, trivial, trivial, trivial⟩ ?_
  refine to_then ?_
  refine W_seq ?_
  obtain ⟨v1, hp1, h⟩ := h_bind h
  refine W.mono (Q := (postN Try.f9.ntmps (fun (v1 : Bool) => mkSt [(2, .p false .bool v1)] [] 0)) v1) ?_ (fun e σ' hq => ?_)
  · replace h := hp1
    clear hp1
    rcases Bool.eq_false_or_eq_true (r4.1 == r9) with hb7 | hb7
    · replace h := h_if hb7 h
      rcases Bool.eq_false_or_eq_true (r4.2 == r10) with hb8 | hb8
      · replace h := h_if hb8 h
        obtain ⟨r15, q9, h⟩ := h_bind h
        rcases Bool.eq_false_or_eq_true r15 with hb9 | hb9
        · replace h := h_if hb9 h
          obtain ⟨r16, q10, h⟩ := h_bind h
          refine W_reg tbok ⟨[(4, true), (9, true), (10, true), (16, true), (17, true), (23, true)], [(15, ⟨.p false .bool r15, [false, false], false, [true, true], [], []⟩), (22, ⟨.p false .bool r16, [false, false], false, [true, true], [], []⟩)]⟩ [] [] [(2, .p false .bool r16)] [] 0 0 [True, True, True, True, True, (r4.1 == r9) = true ∧ True, (r4.1 == r9) = true ∧ True, (r4.1 == r9) = true ∧ True, (r4.1 == r9) = true ∧ True, (r4.1 == r9) = true, True, (r4.2 == r10) = true ∧ True, (r4.2 == r10) = true ∧ True, (r4.2 == r10) = true ∧ True, (r4.2 == r10) = true ∧ True, (r4.2 == r10) = true ∧ Pure Try.prog 12 [.p false (.slice (.prod (.slice (.int .i32)) (.slice (.int .u8)))) r3.1, .p false (.slice (.prod (.slice (.int .i32)) (.slice (.int .u8)))) r8.1] (.p false .bool r15), (r4.2 == r10) = true, True, r15 = true ∧ True, r15 = true ∧ True, r15 = true ∧ True, r15 = true ∧ True, r15 = true ∧ Pure Try.prog 12 [.p false (.slice (.prod (.slice (.int .i32)) (.slice (.int .u8)))) r3.2, .p false (.slice (.prod (.slice (.int .i32)) (.slice (.int .u8)))) r8.2] (.p false .bool r16), r15 = true, True] (by kernel_rfl) (by kernel_rfl) ⟨trivial, trivial, trivial, trivial, trivial, ⟨hb7, trivial⟩, ⟨hb7, trivial⟩, ⟨hb7, trivial⟩, ⟨hb7, trivial⟩, hb7, trivial, ⟨hb8, trivial⟩, ⟨hb8, trivial⟩, ⟨hb8, trivial⟩, ⟨hb8, trivial⟩, ⟨hb8, (stanzaref07_SamePatterns_ok false false r3.1 r8.1 _ q9)⟩, hb8, trivial, ⟨hb9, trivial⟩, ⟨hb9, trivial⟩, ⟨hb9, trivial⟩, ⟨hb9, trivial⟩, ⟨hb9, (stanzaref07_SamePatterns_ok false false r3.2 r8.2 _ q10)⟩, hb9, trivial, trivial⟩ ?_
          obtain rfl := Option.some.inj h
          exact postN_to (goal_le (gs := []) (f := []) (by kernel_rfl) (by kernel_rfl))
        · replace h := h_else hb9 h
          refine W_reg tbok ⟨[(4, true), (9, true), (10, true), (16, true), (17, false), (23, false)], [(15, ⟨.p false .bool r15, [false, false], false, [true, true], [], []⟩)]⟩ [] [] [(2, .p false .bool false)] [] 0 0 [True, True, True, True, True, (r4.1 == r9) = true ∧ True, (r4.1 == r9) = true ∧ True, (r4.1 == r9) = true ∧ True, (r4.1 == r9) = true ∧ True, (r4.1 == r9) = true, True, (r4.2 == r10) = true ∧ True, (r4.2 == r10) = true ∧ True, (r4.2 == r10) = true ∧ True, (r4.2 == r10) = true ∧ True, (r4.2 == r10) = true ∧ Pure Try.prog 12 [.p false (.slice (.prod (.slice (.int .i32)) (.slice (.int .u8)))) r3.1, .p false (.slice (.prod (.slice (.int .i32)) (.slice (.int .u8)))) r8.1] (.p false .bool r15), (r4.2 == r10) = true, True, r15 = false, r15 = false, r15 = false, r15 = false, r15 = false, r15 = false, True] (by kernel_rfl) (by kernel_rfl) ⟨trivial, trivial, trivial, trivial, trivial, ⟨hb7, trivial⟩, ⟨hb7, trivial⟩, ⟨hb7, trivial⟩, ⟨hb7, trivial⟩, hb7, trivial, ⟨hb8, trivial⟩, ⟨hb8, trivial⟩, ⟨hb8, trivial⟩, ⟨hb8, trivial⟩, ⟨hb8, (stanzaref07_SamePatterns_ok false false r3.1 r8.1 _ q9)⟩, hb8, trivial, hb9, hb9, hb9, hb9, hb9, hb9, trivial, trivial⟩ ?_
          obtain rfl := Option.some.inj h
          exact postN_to (goal_le (gs := []) (f := []) (by kernel_rfl) (by kernel_rfl))
      · replace h := h_else hb8 h
        refine W_reg tbok ⟨[(4, true), (9, true), (10, false), (16, false), (17, false), (23, false)], []⟩ [] [] [(2, .p false .bool false)] [] 0 0 [True, True, True, True, True, (r4.1 == r9) = true ∧ True, (r4.1 == r9) = true ∧ True, (r4.1 == r9) = true ∧ True, (r4.1 == r9) = true ∧ True, (r4.1 == r9) = true, True, (r4.2 == r10) = false, (r4.2 == r10) = false, (r4.2 == r10) = false, (r4.2 == r10) = false, (r4.2 == r10) = false, (r4.2 == r10) = false, True, false = false, false = false, false = false, false = false, false = false, false = false, True] (by kernel_rfl) (by kernel_rfl) ⟨trivial, trivial, trivial, trivial, trivial, ⟨hb7, trivial⟩, ⟨hb7, trivial⟩, ⟨hb7, trivial⟩, ⟨hb7, trivial⟩, hb7, trivial, hb8, hb8, hb8, hb8, hb8, hb8, trivial, rfl, rfl, rfl, rfl, rfl, rfl, trivial, trivial⟩ ?_
        obtain rfl := Option.some.inj h
        exact postN_to (goal_le (gs := []) (f := []) (by kernel_rfl) (by kernel_rfl))
    · replace h := h_else hb7 h
      refine W_reg tbok ⟨[(4, false), (9, false), (10, false), (16, false), (17, false), (23, false)], []⟩ [] [] [(2, .p false .bool false)] [] 0 0 [True, True, True, True, True, (r4.1 == r9) = false, (r4.1 == r9) = false, (r4.1 == r9) = false, (r4.1 == r9) = false, (r4.1 == r9) = false, True, false = false, false = false, false = false, false = false, false = false, false = false, True, false = false, false = false, false = false, false = false, false = false, false = false, True] (by kernel_rfl) (by kernel_rfl) ⟨trivial, trivial, trivial, trivial, trivial, hb7, hb7, hb7, hb7, hb7, trivial, rfl, rfl, rfl, rfl, rfl, rfl, trivial, rfl, rfl, rfl, rfl, rfl, rfl, trivial, trivial⟩ ?_
      obtain rfl := Option.some.inj h
      exact postN_to (goal_le (gs := []) (f := []) (by kernel_rfl) (by kernel_rfl))
  · clear hp1
    obtain ⟨rfl, hle⟩ := hq
    refine use_to ?_ hle
    refine to_then ?_
    refine W_ret ?_
    obtain rfl := Option.some.inj h
    exact Ret_intro [.bool] (by kernel_rfl)

end
end Go.Proofs.Ytcdmdcfpjeomfaa.T
