/- Functions of the program as functions on data, and that the program's own come to them. -/
import Derived.Test.YtcdmdcfpjeomfaaTvT07x0
import Derived.Test.YtcdmdcfpjeomfaaTvT07xa1
namespace Go.Proofs.Ytcdmdcfpjeomfaa.T
open Go Go.Tv Go.Proofs
noncomputable section

/-- a loop of 'stanza/stanzalaw07.Awake': one round -/
def stanzalaw07_Awake_L1  : (Int) → Option ((Int) ⊕ ((Unit) ⊕ (Bool))) := fun (v3 : Int) =>
  (if (decide (v3 < (([([97, 49, 50, 98] : List UInt8), ([97, 46, 98] : List UInt8), ([46] : List UInt8), ([45, 97] : List UInt8), ([97, 45, 45, 98] : List UInt8), ([97, 49, 45, 98] : List UInt8)] : List (List UInt8)).length : Int))) = true then (if 0 ≤ v3 ∧ v3 < (([([97, 49, 50, 98] : List UInt8), ([97, 46, 98] : List UInt8), ([46] : List UInt8), ([45, 97] : List UInt8), ([97, 45, 45, 98] : List UInt8), ([97, 49, 45, 98] : List UInt8)] : List (List UInt8)).length : Int) then (if v3.toNat < ([([97, 49, 50, 98] : List UInt8), ([97, 46, 98] : List UInt8), ([46] : List UInt8), ([45, 97] : List UInt8), ([97, 45, 45, 98] : List UInt8), ([97, 49, 45, 98] : List UInt8)] : List (List UInt8)).length then ((pats_Parse (([([97, 49, 50, 98] : List UInt8), ([97, 46, 98] : List UInt8), ([46] : List UInt8), ([45, 97] : List UInt8), ([97, 45, 45, 98] : List UInt8), ([97, 49, 45, 98] : List UInt8)] : List (List UInt8)).getD v3.toNat ([] : List UInt8))).bind fun ((r16, r17) : ((List ((List Int) × List Int)) × List ((List Int) × List Int)) × Int × Int) =>
  (if (!((r17.1 == (30 : Int)) && (r17.2 == (0 : Int)))) = true then some (Sum.inr (Sum.inr false))
  else some (Sum.inl (IntKind.i64.wrap (v3 + (1 : Int)))))) else none) else none)
  else some (Sum.inr (Sum.inl ())))

/-- 'stanza/stanzalaw07.Awake' -/
def stanzalaw07_Awake  : Option (Bool) :=
  ((pats_Parse ([46, 104, 121, 49, 112, 32, 50, 97, 32, 116, 97, 45, 98, 108, 101] : List UInt8)).bind fun ((r3, r4) : ((List ((List Int) × List Int)) × List ((List Int) × List Int)) × Int × Int) =>
  (((if (r4.1 != (0 : Int)) = true then some (true)
  else (if ((r3.1.length : Int) != (2 : Int)) = true then some (true)
  else (if ((r3.2.length : Int) != (1 : Int)) = true then some (true)
  else (if 0 ≤ (0 : Int) ∧ (0 : Int) < (r3.1.length : Int) then (if (!((bytesOf ((r3.1.getD ((0 : Int).toNat) (([] : List Int), ([] : List Int))).2)) == ([0, 0, 0, 1, 0] : List UInt8))) = true then some (true)
  else (if 0 ≤ (0 : Int) ∧ (0 : Int) < (r3.2.length : Int) then some ((!((bytesOf ((r3.2.getD ((0 : Int).toNat) (([] : List Int), ([] : List Int))).2)) == ([0, 0, 1, 0, 0, 0] : List UInt8)))) else none)) else none))))).bind fun (v1 : Bool) => (if v1 = true then some false
  else ((iter (stanzalaw07_Awake_L1) (0 : Int)).bind fun (r18 : ((Unit) ⊕ (Bool))) => match r18 with
  | .inl _ => some true
  | .inr (r13) => some r13))))

set_option maxRecDepth 100000 in
set_option maxHeartbeats 4000000 in
theorem stanzalaw07_Awake_ok  (res : Bool) (h : stanzalaw07_Awake = some res) :
    Pure Try.prog 8 [] (wrapR (encs false [⟨.bool, res⟩])) := by
  refine Pure.of_body tbok Try.func8 (by kernel_rfl) rfl (Nat.le_of_ble_eq_true rfl) (fun Bw w0 => ?_) rfl
  unfold stanzalaw07_Awake at h
  refine W_seq ?_
  refine W_reg tbok ⟨[], []⟩ [] [] [] [] 0 0 [True] (by kernel_rfl) (by kernel_rfl) ⟨trivial, trivial⟩ ?_
  refine to_then ?_
  refine W_seq ?_
  obtain ⟨⟨r3, r4⟩, q2, h⟩ := h_bind h
  refine W_reg tbok ⟨[], [(0, ⟨.tup [.agg [.p false (.slice (.prod (.slice (.int .i32)) (.slice (.int .u8)))) r3.1, .p false (.slice (.prod (.slice (.int .i32)) (.slice (.int .u8)))) r3.2], .agg [.p false (.int .i64) r4.1, .p false (.int .i64) r4.2]], [false], false, [true], [], []⟩)]⟩ [] [32, 40] [(1, .adr 0 0 2 0), (2, .adr 1 0 2 0)] [(0, .box [.p false (.slice (.prod (.slice (.int .i32)) (.slice (.int .u8)))) r3.1, .p false (.slice (.prod (.slice (.int .i32)) (.slice (.int .u8)))) r3.2]), (1, .box [.p false (.int .i64) r4.1, .p false (.int .i64) r4.2])] 2 0 [Pure Try.prog 10 [.p false .str ([46, 104, 121, 49, 112, 32, 50, 97, 32, 116, 97, 45, 98, 108, 101] : List UInt8)] (.tup [.agg [.p false (.slice (.prod (.slice (.int .i32)) (.slice (.int .u8)))) r3.1, .p false (.slice (.prod (.slice (.int .i32)) (.slice (.int .u8)))) r3.2], .agg [.p false (.int .i64) r4.1, .p false (.int .i64) r4.2]]), True, True, True, True, True, True, True] (by kernel_rfl) (by kernel_rfl) ⟨(pats_Parse_ok ([46, 104, 121, 49, 112, 32, 50, 97, 32, 116, 97, 45, 98, 108, 101] : List UInt8) _ q2), trivial, trivial, trivial, trivial, trivial, trivial, trivial, trivial⟩ ?_
  refine to_then ?_
  refine W_seq ?_
  refine W_seq ?_
  obtain ⟨v1, hp1, h⟩ := h_bind h
  refine W.mono (Q := (postN Try.f8.ntmps (fun (v1 : Bool) => mkSt [(43, .p false .bool v1)] [] 0)) v1) ?_ (fun e σ' hq => ?_)
  · replace h := hp1
    clear hp1
    rcases Bool.eq_false_or_eq_true (r4.1 != (0 : Int)) with hb9 | hb9
    · replace h := h_if hb9 h
      refine W_reg tbok ⟨[(3, true), (8, true), (9, true), (14, true), (15, true), (23, true), (24, true), (32, true)], []⟩ [] [] [(43, .p false .bool true)] [] 0 0 [True, True, True, True, (r4.1 != (0 : Int)) = true, (r4.1 != (0 : Int)) = true, (r4.1 != (0 : Int)) = true, (r4.1 != (0 : Int)) = true, (r4.1 != (0 : Int)) = true, True, true = true, true = true, true = true, true = true, true = true, True, true = true, true = true, true = true, true = true, true = true, true = true, true = true, true = true, True, true = true, true = true, true = true, true = true, true = true, true = true, true = true, true = true] (by kernel_rfl) (by kernel_rfl) ⟨trivial, trivial, trivial, trivial, hb9, hb9, hb9, hb9, hb9, trivial, rfl, rfl, rfl, rfl, rfl, trivial, rfl, rfl, rfl, rfl, rfl, rfl, rfl, rfl, trivial, rfl, rfl, rfl, rfl, rfl, rfl, rfl, rfl, trivial⟩ ?_
      obtain rfl := Option.some.inj h
      exact postN_to (goal_le (gs := []) (f := []) (by kernel_rfl) (by kernel_rfl))
    · replace h := h_else hb9 h
      rcases Bool.eq_false_or_eq_true ((r3.1.length : Int) != (2 : Int)) with hb10 | hb10
      · replace h := h_if hb10 h
        refine W_reg tbok ⟨[(3, false), (8, false), (9, true), (14, true), (15, true), (23, true), (24, true), (32, true)], []⟩ [] [] [(43, .p false .bool true)] [] 0 0 [True, True, True, True, (r4.1 != (0 : Int)) = false ∧ True, (r4.1 != (0 : Int)) = false ∧ True, (r4.1 != (0 : Int)) = false ∧ True, (r4.1 != (0 : Int)) = false ∧ True, (r4.1 != (0 : Int)) = false, True, ((r3.1.length : Int) != (2 : Int)) = true, ((r3.1.length : Int) != (2 : Int)) = true, ((r3.1.length : Int) != (2 : Int)) = true, ((r3.1.length : Int) != (2 : Int)) = true, ((r3.1.length : Int) != (2 : Int)) = true, True, true = true, true = true, true = true, true = true, true = true, true = true, true = true, true = true, True, true = true, true = true, true = true, true = true, true = true, true = true, true = true, true = true] (by kernel_rfl) (by kernel_rfl) ⟨trivial, trivial, trivial, trivial, ⟨hb9, trivial⟩, ⟨hb9, trivial⟩, ⟨hb9, trivial⟩, ⟨hb9, trivial⟩, hb9, trivial, hb10, hb10, hb10, hb10, hb10, trivial, rfl, rfl, rfl, rfl, rfl, rfl, rfl, rfl, trivial, rfl, rfl, rfl, rfl, rfl, rfl, rfl, rfl, trivial⟩ ?_
        obtain rfl := Option.some.inj h
        exact postN_to (goal_le (gs := []) (f := []) (by kernel_rfl) (by kernel_rfl))
      · replace h := h_else hb10 h
        rcases Bool.eq_false_or_eq_true ((r3.2.length : Int) != (1 : Int)) with hb11 | hb11
        · replace h := h_if hb11 h
          refine W_reg tbok ⟨[(3, false), (8, false), (9, false), (14, false), (15, true), (23, true), (24, true), (32, true)], []⟩ [] [] [(43, .p false .bool true)] [] 0 0 [True, True, True, True, (r4.1 != (0 : Int)) = false ∧ True, (r4.1 != (0 : Int)) = false ∧ True, (r4.1 != (0 : Int)) = false ∧ True, (r4.1 != (0 : Int)) = false ∧ True, (r4.1 != (0 : Int)) = false, True, ((r3.1.length : Int) != (2 : Int)) = false ∧ True, ((r3.1.length : Int) != (2 : Int)) = false ∧ True, ((r3.1.length : Int) != (2 : Int)) = false ∧ True, ((r3.1.length : Int) != (2 : Int)) = false ∧ True, ((r3.1.length : Int) != (2 : Int)) = false, True, ((r3.2.length : Int) != (1 : Int)) = true, ((r3.2.length : Int) != (1 : Int)) = true, ((r3.2.length : Int) != (1 : Int)) = true, ((r3.2.length : Int) != (1 : Int)) = true, ((r3.2.length : Int) != (1 : Int)) = true, ((r3.2.length : Int) != (1 : Int)) = true, ((r3.2.length : Int) != (1 : Int)) = true, ((r3.2.length : Int) != (1 : Int)) = true, True, true = true, true = true, true = true, true = true, true = true, true = true, true = true, true = true] (by kernel_rfl) (by kernel_rfl) ⟨trivial, trivial, trivial, trivial, ⟨hb9, trivial⟩, ⟨hb9, trivial⟩, ⟨hb9, trivial⟩, ⟨hb9, trivial⟩, hb9, trivial, ⟨hb10, trivial⟩, ⟨hb10, trivial⟩, ⟨hb10, trivial⟩, ⟨hb10, trivial⟩, hb10, trivial, hb11, hb11, hb11, hb11, hb11, hb11, hb11, hb11, trivial, rfl, rfl, rfl, rfl, rfl, rfl, rfl, rfl, trivial⟩ ?_
          obtain rfl := Option.some.inj h
          exact postN_to (goal_le (gs := []) (f := []) (by kernel_rfl) (by kernel_rfl))
        · replace h := h_else hb11 h
          obtain ⟨c5, h⟩ := h_guard h
          rcases Bool.eq_false_or_eq_true (!((bytesOf ((r3.1.getD ((0 : Int).toNat) (([] : List Int), ([] : List Int))).2)) == ([0, 0, 0, 1, 0] : List UInt8))) with hb12 | hb12
          · replace h := h_if hb12 h
            refine W_reg tbok ⟨[(3, false), (8, false), (9, false), (14, false), (15, false), (23, false), (24, true), (32, true)], []⟩ [] [] [(43, .p false .bool true)] [] 0 0 [True, True, True, True, (r4.1 != (0 : Int)) = false ∧ True, (r4.1 != (0 : Int)) = false ∧ True, (r4.1 != (0 : Int)) = false ∧ True, (r4.1 != (0 : Int)) = false ∧ True, (r4.1 != (0 : Int)) = false, True, ((r3.1.length : Int) != (2 : Int)) = false ∧ True, ((r3.1.length : Int) != (2 : Int)) = false ∧ True, ((r3.1.length : Int) != (2 : Int)) = false ∧ True, ((r3.1.length : Int) != (2 : Int)) = false ∧ True, ((r3.1.length : Int) != (2 : Int)) = false, True, ((r3.2.length : Int) != (1 : Int)) = false ∧ True, ((r3.2.length : Int) != (1 : Int)) = false ∧ True, ((r3.2.length : Int) != (1 : Int)) = false ∧ 0 ≤ (0 : Int) ∧ (0 : Int) < (r3.1.length : Int), ((r3.2.length : Int) != (1 : Int)) = false ∧ True, ((r3.2.length : Int) != (1 : Int)) = false ∧ True, ((r3.2.length : Int) != (1 : Int)) = false ∧ True, ((r3.2.length : Int) != (1 : Int)) = false ∧ True, ((r3.2.length : Int) != (1 : Int)) = false, True, (!((bytesOf ((r3.1.getD ((0 : Int).toNat) (([] : List Int), ([] : List Int))).2)) == ([0, 0, 0, 1, 0] : List UInt8))) = true, (!((bytesOf ((r3.1.getD ((0 : Int).toNat) (([] : List Int), ([] : List Int))).2)) == ([0, 0, 0, 1, 0] : List UInt8))) = true, (!((bytesOf ((r3.1.getD ((0 : Int).toNat) (([] : List Int), ([] : List Int))).2)) == ([0, 0, 0, 1, 0] : List UInt8))) = true, (!((bytesOf ((r3.1.getD ((0 : Int).toNat) (([] : List Int), ([] : List Int))).2)) == ([0, 0, 0, 1, 0] : List UInt8))) = true, (!((bytesOf ((r3.1.getD ((0 : Int).toNat) (([] : List Int), ([] : List Int))).2)) == ([0, 0, 0, 1, 0] : List UInt8))) = true, (!((bytesOf ((r3.1.getD ((0 : Int).toNat) (([] : List Int), ([] : List Int))).2)) == ([0, 0, 0, 1, 0] : List UInt8))) = true, (!((bytesOf ((r3.1.getD ((0 : Int).toNat) (([] : List Int), ([] : List Int))).2)) == ([0, 0, 0, 1, 0] : List UInt8))) = true, (!((bytesOf ((r3.1.getD ((0 : Int).toNat) (([] : List Int), ([] : List Int))).2)) == ([0, 0, 0, 1, 0] : List UInt8))) = true] (by kernel_rfl) (by kernel_rfl) ⟨trivial, trivial, trivial, trivial, ⟨hb9, trivial⟩, ⟨hb9, trivial⟩, ⟨hb9, trivial⟩, ⟨hb9, trivial⟩, hb9, trivial, ⟨hb10, trivial⟩, ⟨hb10, trivial⟩, ⟨hb10, trivial⟩, ⟨hb10, trivial⟩, hb10, trivial, ⟨hb11, trivial⟩, ⟨hb11, trivial⟩, ⟨hb11, c5⟩, ⟨hb11, trivial⟩, ⟨hb11, trivial⟩, ⟨hb11, trivial⟩, ⟨hb11, trivial⟩, hb11, trivial, hb12, hb12, hb12, hb12, hb12, hb12, hb12, hb12, trivial⟩ ?_
            obtain rfl := Option.some.inj h
            exact postN_to (goal_le (gs := []) (f := []) (by kernel_rfl) (by kernel_rfl))
          · replace h := h_else hb12 h
            obtain ⟨c6, h⟩ := h_guard h
            refine W_reg tbok ⟨[(3, false), (8, false), (9, false), (14, false), (15, false), (23, false), (24, false), (32, false)], []⟩ [] [] [(43, .p false .bool (!((bytesOf ((r3.2.getD ((0 : Int).toNat) (([] : List Int), ([] : List Int))).2)) == ([0, 0, 1, 0, 0, 0] : List UInt8))))] [] 0 0 [True, True, True, True, (r4.1 != (0 : Int)) = false ∧ True, (r4.1 != (0 : Int)) = false ∧ True, (r4.1 != (0 : Int)) = false ∧ True, (r4.1 != (0 : Int)) = false ∧ True, (r4.1 != (0 : Int)) = false, True, ((r3.1.length : Int) != (2 : Int)) = false ∧ True, ((r3.1.length : Int) != (2 : Int)) = false ∧ True, ((r3.1.length : Int) != (2 : Int)) = false ∧ True, ((r3.1.length : Int) != (2 : Int)) = false ∧ True, ((r3.1.length : Int) != (2 : Int)) = false, True, ((r3.2.length : Int) != (1 : Int)) = false ∧ True, ((r3.2.length : Int) != (1 : Int)) = false ∧ True, ((r3.2.length : Int) != (1 : Int)) = false ∧ 0 ≤ (0 : Int) ∧ (0 : Int) < (r3.1.length : Int), ((r3.2.length : Int) != (1 : Int)) = false ∧ True, ((r3.2.length : Int) != (1 : Int)) = false ∧ True, ((r3.2.length : Int) != (1 : Int)) = false ∧ True, ((r3.2.length : Int) != (1 : Int)) = false ∧ True, ((r3.2.length : Int) != (1 : Int)) = false, True, (!((bytesOf ((r3.1.getD ((0 : Int).toNat) (([] : List Int), ([] : List Int))).2)) == ([0, 0, 0, 1, 0] : List UInt8))) = false ∧ True, (!((bytesOf ((r3.1.getD ((0 : Int).toNat) (([] : List Int), ([] : List Int))).2)) == ([0, 0, 0, 1, 0] : List UInt8))) = false ∧ True, (!((bytesOf ((r3.1.getD ((0 : Int).toNat) (([] : List Int), ([] : List Int))).2)) == ([0, 0, 0, 1, 0] : List UInt8))) = false ∧ 0 ≤ (0 : Int) ∧ (0 : Int) < (r3.2.length : Int), (!((bytesOf ((r3.1.getD ((0 : Int).toNat) (([] : List Int), ([] : List Int))).2)) == ([0, 0, 0, 1, 0] : List UInt8))) = false ∧ True, (!((bytesOf ((r3.1.getD ((0 : Int).toNat) (([] : List Int), ([] : List Int))).2)) == ([0, 0, 0, 1, 0] : List UInt8))) = false ∧ True, (!((bytesOf ((r3.1.getD ((0 : Int).toNat) (([] : List Int), ([] : List Int))).2)) == ([0, 0, 0, 1, 0] : List UInt8))) = false ∧ True, (!((bytesOf ((r3.1.getD ((0 : Int).toNat) (([] : List Int), ([] : List Int))).2)) == ([0, 0, 0, 1, 0] : List UInt8))) = false ∧ True, (!((bytesOf ((r3.1.getD ((0 : Int).toNat) (([] : List Int), ([] : List Int))).2)) == ([0, 0, 0, 1, 0] : List UInt8))) = false] (by kernel_rfl) (by kernel_rfl) ⟨trivial, trivial, trivial, trivial, ⟨hb9, trivial⟩, ⟨hb9, trivial⟩, ⟨hb9, trivial⟩, ⟨hb9, trivial⟩, hb9, trivial, ⟨hb10, trivial⟩, ⟨hb10, trivial⟩, ⟨hb10, trivial⟩, ⟨hb10, trivial⟩, hb10, trivial, ⟨hb11, trivial⟩, ⟨hb11, trivial⟩, ⟨hb11, c5⟩, ⟨hb11, trivial⟩, ⟨hb11, trivial⟩, ⟨hb11, trivial⟩, ⟨hb11, trivial⟩, hb11, trivial, ⟨hb12, trivial⟩, ⟨hb12, trivial⟩, ⟨hb12, c6⟩, ⟨hb12, trivial⟩, ⟨hb12, trivial⟩, ⟨hb12, trivial⟩, ⟨hb12, trivial⟩, hb12, trivial⟩ ?_
            obtain rfl := Option.some.inj h
            exact postN_to (goal_le (gs := []) (f := []) (by kernel_rfl) (by kernel_rfl))
  · clear hp1
    obtain ⟨rfl, hle⟩ := hq
    refine use_to ?_ hle
    refine to_then ?_
    refine W_cond (b := v1) (β := false) (by kernel_rfl) (fun hb13 => ?_) (fun hb13 => ?_)
    · replace h := h_if hb13 h
      refine W_seq ?_
      refine W_reg tbok ⟨[], []⟩ [] [] [(0, .p false .bool false)] [] 0 0 [True] (by kernel_rfl) (by kernel_rfl) ⟨trivial, trivial⟩ ?_
      refine to_then ?_
      refine W_ret ?_
      refine thenQ_ret ?_
      obtain rfl := Option.some.inj h
      exact Ret_intro [.bool] (by kernel_rfl)
    · replace h := h_else hb13 h
      refine W_skip_to ?_
      refine to_then ?_
      refine W_seq ?_
      refine W_seq ?_
      refine W_reg tbok ⟨[], []⟩ [] [0] [(44, .sl 0), (45, .p false (.int .i64) (([([97, 49, 50, 98] : List UInt8), ([97, 46, 98] : List UInt8), ([46] : List UInt8), ([45, 97] : List UInt8), ([97, 45, 45, 98] : List UInt8), ([97, 49, 45, 98] : List UInt8)] : List (List UInt8)).length : Int)), (46, .p false (.int .i64) (0 : Int))] [(0, .arr 9 .str ([([97, 49, 50, 98] : List UInt8), ([97, 46, 98] : List UInt8), ([46] : List UInt8), ([45, 97] : List UInt8), ([97, 45, 45, 98] : List UInt8), ([97, 49, 45, 98] : List UInt8)] : List (List UInt8)))] 1 0 [True, True, True] (by kernel_rfl) (by kernel_rfl) ⟨trivial, trivial, trivial, trivial⟩ ?_
      refine to_then ?_
      refine W_block ?_
      obtain ⟨r18, hp2, h⟩ := h_bind h
      refine W.mono (Q := (postS (postX Try.f8.ntmps 0 (fun (_ : Unit) => mkSt [] [] 0)) (postR tb Try.f8.results.toList (fun (r13 : Bool) => [⟨.bool, r13⟩]))) r18) (W_iter (f := fun (v3 : Int) => mkSt [(44, .sl 0), (45, .p false (.int .i64) (([([97, 49, 50, 98] : List UInt8), ([97, 46, 98] : List UInt8), ([46] : List UInt8), ([45, 97] : List UInt8), ([97, 45, 45, 98] : List UInt8), ([97, 49, 45, 98] : List UInt8)] : List (List UInt8)).length : Int)), (46, .p false (.int .i64) v3)] [(0, .arr 9 .str ([([97, 49, 50, 98] : List UInt8), ([97, 46, 98] : List UInt8), ([46] : List UInt8), ([45, 97] : List UInt8), ([97, 45, 45, 98] : List UInt8), ([97, 49, 45, 98] : List UInt8)] : List (List UInt8)))] 1) (Q := (postS (postX Try.f8.ntmps 0 (fun (_ : Unit) => mkSt [] [] 0)) (postR tb Try.f8.results.toList (fun (r13 : Bool) => [⟨.bool, r13⟩])))) hp2 (goal_le (gs := []) (f := [0]) (by kernel_rfl) (by kernel_rfl)) (fun v3 o ho => ?_)) (fun e σ' hq => ?_)
      · replace h := ho
        clear ho hp2
        unfold stanzalaw07_Awake_L1 at h
        refine W_seq ?_
        refine W_reg tbok ⟨[], []⟩ [] [0] [(44, .sl 0), (45, .p false (.int .i64) (([([97, 49, 50, 98] : List UInt8), ([97, 46, 98] : List UInt8), ([46] : List UInt8), ([45, 97] : List UInt8), ([97, 45, 45, 98] : List UInt8), ([97, 49, 45, 98] : List UInt8)] : List (List UInt8)).length : Int)), (46, .p false (.int .i64) v3), (47, .p false .bool (decide (v3 < (([([97, 49, 50, 98] : List UInt8), ([97, 46, 98] : List UInt8), ([46] : List UInt8), ([45, 97] : List UInt8), ([97, 45, 45, 98] : List UInt8), ([97, 49, 45, 98] : List UInt8)] : List (List UInt8)).length : Int))))] [(0, .arr 9 .str ([([97, 49, 50, 98] : List UInt8), ([97, 46, 98] : List UInt8), ([46] : List UInt8), ([45, 97] : List UInt8), ([97, 45, 45, 98] : List UInt8), ([97, 49, 45, 98] : List UInt8)] : List (List UInt8)))] 1 0 [True] (by kernel_rfl) (by kernel_rfl) ⟨trivial, trivial⟩ ?_
        refine to_then ?_
        refine W_seq ?_
        refine W_cond (b := (decide (v3 < (([([97, 49, 50, 98] : List UInt8), ([97, 46, 98] : List UInt8), ([46] : List UInt8), ([45, 97] : List UInt8), ([97, 45, 45, 98] : List UInt8), ([97, 49, 45, 98] : List UInt8)] : List (List UInt8)).length : Int)))) (β := false) (by kernel_rfl) (fun hb18 => ?_) (fun hb18 => ?_)
        · replace h := h_if hb18 h
          refine W_skip_to ?_
          refine to_then ?_
          refine W_seq ?_
          refine W_block ?_
          refine W_seq ?_
          obtain ⟨c17, h⟩ := h_guard h
          obtain ⟨c18, h⟩ := h_guard h
          refine W_reg tbok ⟨[], []⟩ [] [0] [(4, .p false .str (([([97, 49, 50, 98] : List UInt8), ([97, 46, 98] : List UInt8), ([46] : List UInt8), ([45, 97] : List UInt8), ([97, 45, 45, 98] : List UInt8), ([97, 49, 45, 98] : List UInt8)] : List (List UInt8)).getD v3.toNat ([] : List UInt8))), (44, .sl 0), (45, .p false (.int .i64) (([([97, 49, 50, 98] : List UInt8), ([97, 46, 98] : List UInt8), ([46] : List UInt8), ([45, 97] : List UInt8), ([97, 45, 45, 98] : List UInt8), ([97, 49, 45, 98] : List UInt8)] : List (List UInt8)).length : Int)), (46, .p false (.int .i64) v3)] [(0, .arr 9 .str ([([97, 49, 50, 98] : List UInt8), ([97, 46, 98] : List UInt8), ([46] : List UInt8), ([45, 97] : List UInt8), ([97, 45, 45, 98] : List UInt8), ([97, 49, 45, 98] : List UInt8)] : List (List UInt8)))] 1 0 [0 ≤ v3 ∧ v3 < (([([97, 49, 50, 98] : List UInt8), ([97, 46, 98] : List UInt8), ([46] : List UInt8), ([45, 97] : List UInt8), ([97, 45, 45, 98] : List UInt8), ([97, 49, 45, 98] : List UInt8)] : List (List UInt8)).length : Int), v3.toNat < ([([97, 49, 50, 98] : List UInt8), ([97, 46, 98] : List UInt8), ([46] : List UInt8), ([45, 97] : List UInt8), ([97, 45, 45, 98] : List UInt8), ([97, 49, 45, 98] : List UInt8)] : List (List UInt8)).length, True] (by kernel_rfl) (by kernel_rfl) ⟨c17, c18, trivial, trivial⟩ ?_
          refine to_then ?_
          refine W_seq ?_
          obtain ⟨⟨r16, r17⟩, q8, h⟩ := h_bind h
          refine W_reg tbok ⟨[], [(1, ⟨.tup [.agg [.p false (.slice (.prod (.slice (.int .i32)) (.slice (.int .u8)))) r16.1, .p false (.slice (.prod (.slice (.int .i32)) (.slice (.int .u8)))) r16.2], .agg [.p false (.int .i64) r17.1, .p false (.int .i64) r17.2]], [false], false, [true], [], []⟩)]⟩ [] [49, 0] [(6, .adr 0 0 2 0), (44, .sl 1), (45, .p false (.int .i64) (([([97, 49, 50, 98] : List UInt8), ([97, 46, 98] : List UInt8), ([46] : List UInt8), ([45, 97] : List UInt8), ([97, 45, 45, 98] : List UInt8), ([97, 49, 45, 98] : List UInt8)] : List (List UInt8)).length : Int)), (46, .p false (.int .i64) v3)] [(0, .box [.p false (.int .i64) r17.1, .p false (.int .i64) r17.2]), (1, .arr 9 .str ([([97, 49, 50, 98] : List UInt8), ([97, 46, 98] : List UInt8), ([46] : List UInt8), ([45, 97] : List UInt8), ([97, 45, 45, 98] : List UInt8), ([97, 49, 45, 98] : List UInt8)] : List (List UInt8)))] 2 0 [True, Pure Try.prog 10 [.p false .str (([([97, 49, 50, 98] : List UInt8), ([97, 46, 98] : List UInt8), ([46] : List UInt8), ([45, 97] : List UInt8), ([97, 45, 45, 98] : List UInt8), ([97, 49, 45, 98] : List UInt8)] : List (List UInt8)).getD v3.toNat ([] : List UInt8))] (.tup [.agg [.p false (.slice (.prod (.slice (.int .i32)) (.slice (.int .u8)))) r16.1, .p false (.slice (.prod (.slice (.int .i32)) (.slice (.int .u8)))) r16.2], .agg [.p false (.int .i64) r17.1, .p false (.int .i64) r17.2]]), True, True, True, True, True, True, True] (by kernel_rfl) (by kernel_rfl) ⟨trivial, (pats_Parse_ok (([([97, 49, 50, 98] : List UInt8), ([97, 46, 98] : List UInt8), ([46] : List UInt8), ([45, 97] : List UInt8), ([97, 45, 45, 98] : List UInt8), ([97, 49, 45, 98] : List UInt8)] : List (List UInt8)).getD v3.toNat ([] : List UInt8)) _ q8), trivial, trivial, trivial, trivial, trivial, trivial, trivial, trivial⟩ ?_
          refine to_then ?_
          refine W_seq ?_
          refine W_reg tbok ⟨[], []⟩ [] [1] [(44, .sl 0), (45, .p false (.int .i64) (([([97, 49, 50, 98] : List UInt8), ([97, 46, 98] : List UInt8), ([46] : List UInt8), ([45, 97] : List UInt8), ([97, 45, 45, 98] : List UInt8), ([97, 49, 45, 98] : List UInt8)] : List (List UInt8)).length : Int)), (46, .p false (.int .i64) v3), (57, .p false .bool (!((r17.1 == (30 : Int)) && (r17.2 == (0 : Int)))))] [(0, .arr 9 .str ([([97, 49, 50, 98] : List UInt8), ([97, 46, 98] : List UInt8), ([46] : List UInt8), ([45, 97] : List UInt8), ([97, 45, 45, 98] : List UInt8), ([97, 49, 45, 98] : List UInt8)] : List (List UInt8)))] 1 0 [True, True, EqOk Try.prog 31 (.prod (.int .i64) (.int .i64))] (by kernel_rfl) (by kernel_rfl) ⟨trivial, trivial, eq31, trivial⟩ ?_
          refine to_then ?_
          refine W_cond (b := (!((r17.1 == (30 : Int)) && (r17.2 == (0 : Int))))) (β := false) (by kernel_rfl) (fun hb19 => ?_) (fun hb19 => ?_)
          · replace h := h_if hb19 h
            refine W_seq ?_
            refine W_reg tbok ⟨[], []⟩ [] [] [(0, .p false .bool false)] [] 0 0 [True] (by kernel_rfl) (by kernel_rfl) ⟨trivial, trivial⟩ ?_
            refine to_then ?_
            refine W_ret ?_
            obtain rfl := Option.some.inj h
            refine blockQ_ret ?_
            refine thenQ_ret ?_
            refine round_ret ?_
            refine postS_rr ?_
            exact postR_mk (Ret_intro [.bool] (by kernel_rfl))
          · replace h := h_else hb19 h
            refine W_skip_to ?_
            refine to_block ?_
            refine to_then ?_
            refine W_reg tbok ⟨[], []⟩ [] [0] [(44, .sl 0), (45, .p false (.int .i64) (([([97, 49, 50, 98] : List UInt8), ([97, 46, 98] : List UInt8), ([46] : List UInt8), ([45, 97] : List UInt8), ([97, 45, 45, 98] : List UInt8), ([97, 49, 45, 98] : List UInt8)] : List (List UInt8)).length : Int)), (46, .p false (.int .i64) (IntKind.i64.wrap (v3 + (1 : Int))))] [(0, .arr 9 .str ([([97, 49, 50, 98] : List UInt8), ([97, 46, 98] : List UInt8), ([46] : List UInt8), ([45, 97] : List UInt8), ([97, 45, 45, 98] : List UInt8), ([97, 49, 45, 98] : List UInt8)] : List (List UInt8)))] 1 0 [True, True] (by kernel_rfl) (by kernel_rfl) ⟨trivial, trivial, trivial⟩ ?_
            obtain rfl := Option.some.inj h
            exact roundB (goal_le (gs := []) (f := [0]) (by kernel_rfl) (by kernel_rfl))
        · replace h := h_else hb18 h
          refine W_exit_to ?_
          refine thenE ?_
          obtain rfl := Option.some.inj h
          refine roundE ?_
          refine postS_l ?_
          exact postX_to (goal_le (gs := []) (f := []) (by kernel_rfl) (by kernel_rfl))
      · clear hp2
        rcases r18 with _ | r13
        · obtain ⟨rfl, hle⟩ := hq
          refine use_to ?_ hle
          refine blockE_eq ?_
          refine to_then ?_
          refine W_seq ?_
          refine W_reg tbok ⟨[], []⟩ [] [] [(0, .p false .bool true)] [] 0 0 [True] (by kernel_rfl) (by kernel_rfl) ⟨trivial, trivial⟩ ?_
          refine to_then ?_
          refine W_ret ?_
          obtain rfl := Option.some.inj h
          exact Ret_intro [.bool] (by kernel_rfl)
        · obtain ⟨rfl, hr⟩ := hq
          refine blockQ_ret ?_
          refine thenQ_ret ?_
          obtain rfl := Option.some.inj h
          exact hr

/-- a loop of 'stanza/stanzaref07.Same': one round -/
def stanzaref07_Same_L1 (a1 : List Int) (b1 : List Int) : (Int) → Option ((Int) ⊕ ((Unit) ⊕ (Bool))) := fun (i2 : Int) =>
  (if (decide (i2 < (a1.length : Int))) = true then (if 0 ≤ i2 ∧ i2 < (a1.length : Int) then (if 0 ≤ i2 ∧ i2 < (b1.length : Int) then (if ((a1.getD i2.toNat (0 : Int)) != (b1.getD i2.toNat (0 : Int))) = true then some (Sum.inr (Sum.inr false))
  else some (Sum.inl (IntKind.i64.wrap (i2 + (1 : Int))))) else none) else none)
  else some (Sum.inr (Sum.inl ())))

/-- 'stanza/stanzaref07.Same' -/
def stanzaref07_Same (a1 : List Int) (b1 : List Int) : Option (Bool) :=
  (if ((a1.length : Int) != (b1.length : Int)) = true then some false
  else ((iter (stanzaref07_Same_L1 a1 b1) (0 : Int)).bind fun (r2 : ((Unit) ⊕ (Bool))) => match r2 with
  | .inl _ => some true
  | .inr (r1) => some r1))

set_option maxRecDepth 100000 in
set_option maxHeartbeats 4000000 in
theorem stanzaref07_Same_ok (β0 β1 : Bool) (a1 : List Int) (b1 : List Int) (res : Bool) (h : stanzaref07_Same a1 b1 = some res) :
    Pure Try.prog 21 [.p β0 (.slice (.int .i32)) a1, .p β1 (.slice (.int .i32)) b1] (wrapR (encs false [⟨.bool, res⟩])) := by
  refine Pure.of_body tbok Try.func21 (by kernel_rfl) rfl (Nat.le_of_ble_eq_true rfl) (fun Bw w0 => ?_) rfl
  unfold stanzaref07_Same at h
  refine W_seq ?_
  refine W_reg tbok ⟨[], []⟩ [] [] [(0, .p β0 (.slice (.int .i32)) a1), (1, .p β1 (.slice (.int .i32)) b1)] [] 0 0 [True] (by kernel_rfl) (by kernel_rfl) ⟨trivial, trivial⟩ ?_
  refine to_then ?_
  refine W_seq ?_
  refine W_seq ?_
  refine W_reg tbok ⟨[], []⟩ [] [] [(0, .p β0 (.slice (.int .i32)) a1), (1, .p β1 (.slice (.int .i32)) b1), (10, .p false .bool ((a1.length : Int) != (b1.length : Int)))] [] 0 0 [True, True, True, True, True] (by kernel_rfl) (by kernel_rfl) ⟨trivial, trivial, trivial, trivial, trivial, trivial⟩ ?_
  refine to_then ?_
  refine W_cond (b := ((a1.length : Int) != (b1.length : Int))) (β := false) (by kernel_rfl) (fun hb1 => ?_) (fun hb1 => ?_)
  · replace h := h_if hb1 h
    refine W_seq ?_
    refine W_reg tbok ⟨[], []⟩ [] [] [(4, .p false .bool false)] [] 0 0 [True] (by kernel_rfl) (by kernel_rfl) ⟨trivial, trivial⟩ ?_
    refine to_then ?_
    refine W_ret ?_
    refine thenQ_ret ?_
    obtain rfl := Option.some.inj h
    exact Ret_intro [.bool] (by kernel_rfl)
  · replace h := h_else hb1 h
    refine W_skip_to ?_
    refine to_then ?_
    refine W_seq ?_
    refine W_seq ?_
    refine W_reg tbok ⟨[], []⟩ [] [] [(0, .p β0 (.slice (.int .i32)) a1), (1, .p β1 (.slice (.int .i32)) b1), (5, .p false (.int .i64) (0 : Int))] [] 0 0 [True] (by kernel_rfl) (by kernel_rfl) ⟨trivial, trivial⟩ ?_
    refine to_then ?_
    refine W_block ?_
    obtain ⟨r2, hp1, h⟩ := h_bind h
    refine W.mono (Q := (postS (postX Try.f21.ntmps 0 (fun (_ : Unit) => mkSt [] [] 0)) (postR tb Try.f21.results.toList (fun (r1 : Bool) => [⟨.bool, r1⟩]))) r2) (W_iter (f := fun (i2 : Int) => mkSt [(0, .p β0 (.slice (.int .i32)) a1), (1, .p β1 (.slice (.int .i32)) b1), (5, .p false (.int .i64) i2)] [] 0) (Q := (postS (postX Try.f21.ntmps 0 (fun (_ : Unit) => mkSt [] [] 0)) (postR tb Try.f21.results.toList (fun (r1 : Bool) => [⟨.bool, r1⟩])))) hp1 (goal_le (gs := []) (f := []) (by kernel_rfl) (by kernel_rfl)) (fun i2 o ho => ?_)) (fun e σ' hq => ?_)
    · replace h := ho
      clear ho hp1
      unfold stanzaref07_Same_L1 at h
      refine W_seq ?_
      refine W_seq ?_
      refine W_reg tbok ⟨[], []⟩ [] [] [(0, .p β0 (.slice (.int .i32)) a1), (1, .p β1 (.slice (.int .i32)) b1), (5, .p false (.int .i64) i2), (14, .p false .bool (decide (i2 < (a1.length : Int))))] [] 0 0 [True, True, True, True] (by kernel_rfl) (by kernel_rfl) ⟨trivial, trivial, trivial, trivial, trivial⟩ ?_
      refine to_then ?_
      refine W_cond (b := (decide (i2 < (a1.length : Int)))) (β := false) (by kernel_rfl) (fun hb6 => ?_) (fun hb6 => ?_)
      · replace h := h_if hb6 h
        refine W_skip_to ?_
        refine to_then ?_
        refine W_seq ?_
        refine W_block ?_
        refine W_seq ?_
        obtain ⟨c11, h⟩ := h_guard h
        obtain ⟨c12, h⟩ := h_guard h
        refine W_regD tbok mixed ⟨[], []⟩ [] [] [(0, .p β0 (.slice (.int .i32)) a1), (1, .p β1 (.slice (.int .i32)) b1), (5, .p false (.int .i64) i2), (25, .p false .bool ((a1.getD i2.toNat (0 : Int)) != (b1.getD i2.toNat (0 : Int))))] [] 0 0 [True, True, 0 ≤ i2 ∧ i2 < (a1.length : Int), True, True, True, 0 ≤ i2 ∧ i2 < (b1.length : Int), True, True] (by kernel_rfl) (by kernel_rfl) ⟨trivial, trivial, c11, trivial, trivial, trivial, c12, trivial, trivial, trivial⟩ ?_
        refine to_then ?_
        refine W_cond (b := ((a1.getD i2.toNat (0 : Int)) != (b1.getD i2.toNat (0 : Int)))) (β := false) (by kernel_rfl) (fun hb7 => ?_) (fun hb7 => ?_)
        · replace h := h_if hb7 h
          refine W_seq ?_
          refine W_reg tbok ⟨[], []⟩ [] [] [(4, .p false .bool false)] [] 0 0 [True] (by kernel_rfl) (by kernel_rfl) ⟨trivial, trivial⟩ ?_
          refine to_then ?_
          refine W_ret ?_
          obtain rfl := Option.some.inj h
          refine blockQ_ret ?_
          refine thenQ_ret ?_
          refine round_ret ?_
          refine postS_rr ?_
          exact postR_mk (Ret_intro [.bool] (by kernel_rfl))
        · replace h := h_else hb7 h
          refine W_skip_to ?_
          refine to_block ?_
          refine to_then ?_
          refine W_reg tbok ⟨[], []⟩ [] [] [(0, .p β0 (.slice (.int .i32)) a1), (1, .p β1 (.slice (.int .i32)) b1), (5, .p false (.int .i64) (IntKind.i64.wrap (i2 + (1 : Int))))] [] 0 0 [True, True, True] (by kernel_rfl) (by kernel_rfl) ⟨trivial, trivial, trivial, trivial⟩ ?_
          obtain rfl := Option.some.inj h
          exact roundB (goal_le (gs := []) (f := []) (by kernel_rfl) (by kernel_rfl))
      · replace h := h_else hb6 h
        refine W_exit_to ?_
        refine thenE ?_
        obtain rfl := Option.some.inj h
        refine roundE ?_
        refine postS_l ?_
        exact postX_to (goal_le (gs := []) (f := []) (by kernel_rfl) (by kernel_rfl))
    · clear hp1
      rcases r2 with _ | r1
      · obtain ⟨rfl, hle⟩ := hq
        refine use_to ?_ hle
        refine blockE_eq ?_
        refine to_then ?_
        refine W_seq ?_
        refine W_reg tbok ⟨[], []⟩ [] [] [(4, .p false .bool true)] [] 0 0 [True] (by kernel_rfl) (by kernel_rfl) ⟨trivial, trivial⟩ ?_
        refine to_then ?_
        refine W_ret ?_
        obtain rfl := Option.some.inj h
        exact Ret_intro [.bool] (by kernel_rfl)
      · obtain ⟨rfl, hr⟩ := hq
        refine blockQ_ret ?_
        refine thenQ_ret ?_
        obtain rfl := Option.some.inj h
        exact hr

/-- a loop of 'stanza/stanzaref07.SamePatterns': one round -/
def stanzaref07_SamePatterns_L1 (a1 : List ((List Int) × List Int)) (b1 : List ((List Int) × List Int)) : (Int) → Option ((Int) ⊕ ((Unit) ⊕ (Bool))) := fun (i2 : Int) =>
  (if (decide (i2 < (a1.length : Int))) = true then (((if 0 ≤ i2 ∧ i2 < (a1.length : Int) then (if 0 ≤ i2 ∧ i2 < (b1.length : Int) then ((stanzaref07_Same ((a1.getD i2.toNat (([] : List Int), ([] : List Int))).1) ((b1.getD i2.toNat (([] : List Int), ([] : List Int))).1)).bind fun (r10 : Bool) =>
  (if (!r10) = true then some (true)
  else (if 0 ≤ i2 ∧ i2 < (a1.length : Int) then (if 0 ≤ i2 ∧ i2 < (b1.length : Int) then some ((!((bytesOf ((a1.getD i2.toNat (([] : List Int), ([] : List Int))).2)) == (bytesOf ((b1.getD i2.toNat (([] : List Int), ([] : List Int))).2))))) else none) else none))) else none) else none)).bind fun (v3 : Bool) => (if v3 = true then some (Sum.inr (Sum.inr false))
  else some (Sum.inl (IntKind.i64.wrap (i2 + (1 : Int))))))
  else some (Sum.inr (Sum.inl ())))

/-- 'stanza/stanzaref07.SamePatterns' -/
def stanzaref07_SamePatterns (a1 : List ((List Int) × List Int)) (b1 : List ((List Int) × List Int)) : Option (Bool) :=
  (if ((a1.length : Int) != (b1.length : Int)) = true then some false
  else ((iter (stanzaref07_SamePatterns_L1 a1 b1) (0 : Int)).bind fun (r11 : ((Unit) ⊕ (Bool))) => match r11 with
  | .inl _ => some true
  | .inr (r7) => some r7))

set_option maxRecDepth 100000 in
set_option maxHeartbeats 4000000 in
theorem stanzaref07_SamePatterns_ok (β0 β1 : Bool) (a1 : List ((List Int) × List Int)) (b1 : List ((List Int) × List Int)) (res : Bool) (h : stanzaref07_SamePatterns a1 b1 = some res) :
    Pure Try.prog 12 [.p β0 (.slice (.prod (.slice (.int .i32)) (.slice (.int .u8)))) a1, .p β1 (.slice (.prod (.slice (.int .i32)) (.slice (.int .u8)))) b1] (wrapR (encs false [⟨.bool, res⟩])) := by
  refine Pure.of_body tbok Try.func12 (by kernel_rfl) rfl (Nat.le_of_ble_eq_true rfl) (fun Bw w0 => ?_) rfl
  unfold stanzaref07_SamePatterns at h
  refine W_seq ?_
  refine W_reg tbok ⟨[], []⟩ [] [] [(0, .p β0 (.slice (.prod (.slice (.int .i32)) (.slice (.int .u8)))) a1), (1, .p β1 (.slice (.prod (.slice (.int .i32)) (.slice (.int .u8)))) b1)] [] 0 0 [True] (by kernel_rfl) (by kernel_rfl) ⟨trivial, trivial⟩ ?_
  refine to_then ?_
  refine W_seq ?_
  refine W_seq ?_
  refine W_reg tbok ⟨[], []⟩ [] [] [(0, .p β0 (.slice (.prod (.slice (.int .i32)) (.slice (.int .u8)))) a1), (1, .p β1 (.slice (.prod (.slice (.int .i32)) (.slice (.int .u8)))) b1), (10, .p false .bool ((a1.length : Int) != (b1.length : Int)))] [] 0 0 [True, True, True, True, True] (by kernel_rfl) (by kernel_rfl) ⟨trivial, trivial, trivial, trivial, trivial, trivial⟩ ?_
  refine to_then ?_
  refine W_cond (b := ((a1.length : Int) != (b1.length : Int))) (β := false) (by kernel_rfl) (fun hb1 => ?_) (fun hb1 => ?_)
  · replace h := h_if hb1 h
    refine W_seq ?_
    refine W_reg tbok ⟨[], []⟩ [] [] [(4, .p false .bool false)] [] 0 0 [True] (by kernel_rfl) (by kernel_rfl) ⟨trivial, trivial⟩ ?_
    refine to_then ?_
    refine W_ret ?_
    refine thenQ_ret ?_
    obtain rfl := Option.some.inj h
    exact Ret_intro [.bool] (by kernel_rfl)
  · replace h := h_else hb1 h
    refine W_skip_to ?_
    refine to_then ?_
    refine W_seq ?_
    refine W_seq ?_
    refine W_reg tbok ⟨[], []⟩ [] [] [(0, .p β0 (.slice (.prod (.slice (.int .i32)) (.slice (.int .u8)))) a1), (1, .p β1 (.slice (.prod (.slice (.int .i32)) (.slice (.int .u8)))) b1), (5, .p false (.int .i64) (0 : Int))] [] 0 0 [True] (by kernel_rfl) (by kernel_rfl) ⟨trivial, trivial⟩ ?_
    refine to_then ?_
    refine W_block ?_
    obtain ⟨r11, hp4, h⟩ := h_bind h
    refine W.mono (Q := (postS (postX Try.f12.ntmps 0 (fun (_ : Unit) => mkSt [] [] 0)) (postR tb Try.f12.results.toList (fun (r7 : Bool) => [⟨.bool, r7⟩]))) r11) (W_iter (f := fun (i2 : Int) => mkSt [(0, .p β0 (.slice (.prod (.slice (.int .i32)) (.slice (.int .u8)))) a1), (1, .p β1 (.slice (.prod (.slice (.int .i32)) (.slice (.int .u8)))) b1), (5, .p false (.int .i64) i2)] [] 0) (Q := (postS (postX Try.f12.ntmps 0 (fun (_ : Unit) => mkSt [] [] 0)) (postR tb Try.f12.results.toList (fun (r7 : Bool) => [⟨.bool, r7⟩])))) hp4 (goal_le (gs := []) (f := []) (by kernel_rfl) (by kernel_rfl)) (fun i2 o ho => ?_)) (fun e σ' hq => ?_)
    · replace h := ho
      clear ho hp4
      unfold stanzaref07_SamePatterns_L1 at h
      refine W_seq ?_
      refine W_seq ?_
      refine W_reg tbok ⟨[], []⟩ [] [] [(0, .p β0 (.slice (.prod (.slice (.int .i32)) (.slice (.int .u8)))) a1), (1, .p β1 (.slice (.prod (.slice (.int .i32)) (.slice (.int .u8)))) b1), (5, .p false (.int .i64) i2), (14, .p false .bool (decide (i2 < (a1.length : Int))))] [] 0 0 [True, True, True, True] (by kernel_rfl) (by kernel_rfl) ⟨trivial, trivial, trivial, trivial, trivial⟩ ?_
      refine to_then ?_
      refine W_cond (b := (decide (i2 < (a1.length : Int)))) (β := false) (by kernel_rfl) (fun hb12 => ?_) (fun hb12 => ?_)
      · replace h := h_if hb12 h
        refine W_skip_to ?_
        refine to_then ?_
        refine W_seq ?_
        refine W_block ?_
        refine W_seq ?_
        obtain ⟨v3, hp3, h⟩ := h_bind h
        refine W.mono (Q := (postN Try.f12.ntmps (fun (v3 : Bool) => mkSt [(0, .p β0 (.slice (.prod (.slice (.int .i32)) (.slice (.int .u8)))) a1), (1, .p β1 (.slice (.prod (.slice (.int .i32)) (.slice (.int .u8)))) b1), (5, .p false (.int .i64) i2), (43, .p false .bool v3)] [] 0)) v3) ?_ (fun e σ' hq => ?_)
        · replace h := hp3
          clear hp3
          obtain ⟨c33, h⟩ := h_guard h
          obtain ⟨c34, h⟩ := h_guard h
          obtain ⟨r10, q9, h⟩ := h_bind h
          rcases Bool.eq_false_or_eq_true (!r10) with hb15 | hb15
          · replace h := h_if hb15 h
            refine W_regD tbok mixed ⟨[(12, true), (26, true)], [(10, ⟨.p false .bool r10, [false, false], false, [true, true], [], []⟩)]⟩ [] [] [(0, .p β0 (.slice (.prod (.slice (.int .i32)) (.slice (.int .u8)))) a1), (1, .p β1 (.slice (.prod (.slice (.int .i32)) (.slice (.int .u8)))) b1), (5, .p false (.int .i64) i2), (43, .p false .bool true)] [] 0 0 [True, True, 0 ≤ i2 ∧ i2 < (a1.length : Int), True, True, True, True, 0 ≤ i2 ∧ i2 < (b1.length : Int), True, True, Pure Try.prog 21 [.p β0 (.slice (.int .i32)) ((a1.getD i2.toNat (([] : List Int), ([] : List Int))).1), .p β1 (.slice (.int .i32)) ((b1.getD i2.toNat (([] : List Int), ([] : List Int))).1)] (.p false .bool r10), True, True, (!r10) = true, (!r10) = true, (!r10) = true, (!r10) = true, (!r10) = true, (!r10) = true, (!r10) = true, (!r10) = true, (!r10) = true, (!r10) = true, (!r10) = true, (!r10) = true, (!r10) = true, (!r10) = true] (by kernel_rfl) (by kernel_rfl) ⟨trivial, trivial, c33, trivial, trivial, trivial, trivial, c34, trivial, trivial, (stanzaref07_Same_ok β0 β1 ((a1.getD i2.toNat (([] : List Int), ([] : List Int))).1) ((b1.getD i2.toNat (([] : List Int), ([] : List Int))).1) _ q9), trivial, trivial, hb15, hb15, hb15, hb15, hb15, hb15, hb15, hb15, hb15, hb15, hb15, hb15, hb15, hb15, trivial⟩ ?_
            obtain rfl := Option.some.inj h
            exact postN_to (goal_le (gs := []) (f := []) (by kernel_rfl) (by kernel_rfl))
          · replace h := h_else hb15 h
            obtain ⟨c35, h⟩ := h_guard h
            obtain ⟨c36, h⟩ := h_guard h
            refine W_regD tbok mixed ⟨[(12, false), (26, false)], [(10, ⟨.p false .bool r10, [false, false], false, [true, true], [], []⟩)]⟩ [] [] [(0, .p β0 (.slice (.prod (.slice (.int .i32)) (.slice (.int .u8)))) a1), (1, .p β1 (.slice (.prod (.slice (.int .i32)) (.slice (.int .u8)))) b1), (5, .p false (.int .i64) i2), (43, .p false .bool (!((bytesOf ((a1.getD i2.toNat (([] : List Int), ([] : List Int))).2)) == (bytesOf ((b1.getD i2.toNat (([] : List Int), ([] : List Int))).2)))))] [] 0 0 [True, True, 0 ≤ i2 ∧ i2 < (a1.length : Int), True, True, True, True, 0 ≤ i2 ∧ i2 < (b1.length : Int), True, True, Pure Try.prog 21 [.p β0 (.slice (.int .i32)) ((a1.getD i2.toNat (([] : List Int), ([] : List Int))).1), .p β1 (.slice (.int .i32)) ((b1.getD i2.toNat (([] : List Int), ([] : List Int))).1)] (.p false .bool r10), True, True, (!r10) = false ∧ True, (!r10) = false ∧ True, (!r10) = false ∧ 0 ≤ i2 ∧ i2 < (a1.length : Int), (!r10) = false ∧ True, (!r10) = false ∧ True, (!r10) = false ∧ True, (!r10) = false ∧ True, (!r10) = false ∧ True, (!r10) = false ∧ 0 ≤ i2 ∧ i2 < (b1.length : Int), (!r10) = false ∧ True, (!r10) = false ∧ True, (!r10) = false ∧ True, (!r10) = false ∧ True, (!r10) = false] (by kernel_rfl) (by kernel_rfl) ⟨trivial, trivial, c33, trivial, trivial, trivial, trivial, c34, trivial, trivial, (stanzaref07_Same_ok β0 β1 ((a1.getD i2.toNat (([] : List Int), ([] : List Int))).1) ((b1.getD i2.toNat (([] : List Int), ([] : List Int))).1) _ q9), trivial, trivial, ⟨hb15, trivial⟩, ⟨hb15, trivial⟩, ⟨hb15, c35⟩, ⟨hb15, trivial⟩, ⟨hb15, trivial⟩, ⟨hb15, trivial⟩, ⟨hb15, trivial⟩, ⟨hb15, trivial⟩, ⟨hb15, c36⟩, ⟨hb15, trivial⟩, ⟨hb15, trivial⟩, ⟨hb15, trivial⟩, ⟨hb15, trivial⟩, hb15, trivial⟩ ?_
            obtain rfl := Option.some.inj h
            exact postN_to (goal_le (gs := []) (f := []) (by kernel_rfl) (by kernel_rfl))
        · clear hp3
          obtain ⟨rfl, hle⟩ := hq
          refine use_to ?_ hle
          refine to_then ?_
          refine W_cond (b := v3) (β := false) (by kernel_rfl) (fun hb16 => ?_) (fun hb16 => ?_)
          · replace h := h_if hb16 h
            refine W_seq ?_
            refine W_reg tbok ⟨[], []⟩ [] [] [(4, .p false .bool false)] [] 0 0 [True] (by kernel_rfl) (by kernel_rfl) ⟨trivial, trivial⟩ ?_
            refine to_then ?_
            refine W_ret ?_
            obtain rfl := Option.some.inj h
            refine blockQ_ret ?_
            refine thenQ_ret ?_
            refine round_ret ?_
            refine postS_rr ?_
            exact postR_mk (Ret_intro [.bool] (by kernel_rfl))
          · replace h := h_else hb16 h
            refine W_skip_to ?_
            refine to_block ?_
            refine to_then ?_
            refine W_reg tbok ⟨[], []⟩ [] [] [(0, .p β0 (.slice (.prod (.slice (.int .i32)) (.slice (.int .u8)))) a1), (1, .p β1 (.slice (.prod (.slice (.int .i32)) (.slice (.int .u8)))) b1), (5, .p false (.int .i64) (IntKind.i64.wrap (i2 + (1 : Int))))] [] 0 0 [True, True, True] (by kernel_rfl) (by kernel_rfl) ⟨trivial, trivial, trivial, trivial⟩ ?_
            obtain rfl := Option.some.inj h
            exact roundB (goal_le (gs := []) (f := []) (by kernel_rfl) (by kernel_rfl))
      · replace h := h_else hb12 h
        refine W_exit_to ?_
        refine thenE ?_
        obtain rfl := Option.some.inj h
        refine roundE ?_
        refine postS_l ?_
        exact postX_to (goal_le (gs := []) (f := []) (by kernel_rfl) (by kernel_rfl))
    · clear hp4
      rcases r11 with _ | r7
      · obtain ⟨rfl, hle⟩ := hq
        refine use_to ?_ hle
        refine blockE_eq ?_
        refine to_then ?_
        refine W_seq ?_
        refine W_reg tbok ⟨[], []⟩ [] [] [(4, .p false .bool true)] [] 0 0 [True] (by kernel_rfl) (by kernel_rfl) ⟨trivial, trivial⟩ ?_
        refine to_then ?_
        refine W_ret ?_
        obtain rfl := Option.some.inj h
        exact Ret_intro [.bool] (by kernel_rfl)
      · obtain ⟨rfl, hr⟩ := hq
        refine blockQ_ret ?_
        refine thenQ_ret ?_
        obtain rfl := Option.some.inj h
        exact hr

end
end Go.Proofs.Ytcdmdcfpjeomfaa.T
