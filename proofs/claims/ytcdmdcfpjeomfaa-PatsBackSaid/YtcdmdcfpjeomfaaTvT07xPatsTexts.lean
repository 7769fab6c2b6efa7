/- Functions of the program as functions on data, and that the program's own come to them. -/
import Derived.Test.YtcdmdcfpjeomfaaTvT07x0
import Derived.Test.YtcdmdcfpjeomfaaTvT07xa
import Derived.Test.YtcdmdcfpjeomfaaTvT07xb
namespace Go.Proofs.Ytcdmdcfpjeomfaa.T
open Go Go.Tv Go.Proofs
noncomputable section

/-- 'stanza/stanzalaw07.PatsTexts' -/
def stanzalaw07_PatsTexts (t1 : List UInt8) : Option (Bool) :=
  ((stanzalaw07_Awake).bind fun (r2 : Bool) =>
  (if (!r2) = true then some false
  else (((if (decide ((t1.length : Int) > (10000 : Int))) = true then some (true)
  else ((stanzalaw07_told t1).bind fun (r5 : Bool) =>
  some (r5)))).bind fun (v1 : Bool) => some v1)))

set_option maxRecDepth 100000 in
set_option maxHeartbeats 4000000 in
theorem stanzalaw07_PatsTexts_ok (t1 : List UInt8) (res : Bool) (h : stanzalaw07_PatsTexts t1 = some res) :
    Pure Try.prog 3 [.p false .str t1] (wrapR (encs false [⟨.bool, res⟩])) := by
  refine Pure.of_body tbok Try.func3 (by kernel_rfl) rfl (Nat.le_of_ble_eq_true rfl) (fun Bw w0 => ?_) rfl
  unfold stanzalaw07_PatsTexts at h
  refine W_seq ?_
  refine W_reg tbok ⟨[], []⟩ [] [] [(0, .p false .str t1)] [] 0 0 [True] (by kernel_rfl) (by kernel_rfl) ⟨trivial, trivial⟩ ?_
  refine to_then ?_
  refine W_seq ?_
  refine W_seq ?_
  obtain ⟨r2, q2, h⟩ := h_bind h
  refine W_reg tbok ⟨[], [(0, ⟨.p false .bool r2, [], false, [], [], []⟩)]⟩ [] [] [(0, .p false .str t1), (4, .p false .bool (!r2))] [] 0 0 [Pure Try.prog 8 [] (.p false .bool r2), True] (by kernel_rfl) (by kernel_rfl) ⟨(stanzalaw07_Awake_ok _ q2), trivial, trivial⟩ ?_
  refine to_then ?_
  refine W_cond (b := (!r2)) (β := false) (by kernel_rfl) (fun hb1 => ?_) (fun hb1 => ?_)
  · replace h := h_if hb1 h
    refine W_seq ?_
    refine W_reg tbok ⟨[], []⟩ [] [] [(2, .p false .bool false)] [] 0 0 [True] (by kernel_rfl) (by kernel_rfl) ⟨trivial, trivial⟩ ?_
    refine to_then ?_
    refine W_ret ?_
    refine thenQ_ret ?_
    obtain rfl := Option.some.inj h
    exact Ret_intro [.bool] (by kernel_rfl)
  · replace h := h_else hb1 h
    refine W_skip_to ?_
    refine to_then ?_
    refine W_seq ?_
    obtain ⟨v1, hp1, h⟩ := h_bind h
    refine W.mono (Q := (postN Try.f3.ntmps (fun (v1 : Bool) => mkSt [(2, .p false .bool v1)] [] 0)) v1) ?_ (fun e σ' hq => ?_)
    · replace h := hp1
      clear hp1
      rcases Bool.eq_false_or_eq_true (decide ((t1.length : Int) > (10000 : Int))) with hb4 | hb4
      · replace h := h_if hb4 h
        refine W_reg tbok ⟨[(3, true), (6, true)], []⟩ [] [] [(2, .p false .bool true)] [] 0 0 [True, True, True, True, (decide ((t1.length : Int) > (10000 : Int))) = true, (decide ((t1.length : Int) > (10000 : Int))) = true, (decide ((t1.length : Int) > (10000 : Int))) = true, True] (by kernel_rfl) (by kernel_rfl) ⟨trivial, trivial, trivial, trivial, hb4, hb4, hb4, trivial, trivial⟩ ?_
        obtain rfl := Option.some.inj h
        exact postN_to (goal_le (gs := []) (f := []) (by kernel_rfl) (by kernel_rfl))
      · replace h := h_else hb4 h
        obtain ⟨r5, q5, h⟩ := h_bind h
        refine W_reg tbok ⟨[(3, false), (6, false)], [(5, ⟨.p false .bool r5, [false], false, [true], [], []⟩)]⟩ [] [] [(2, .p false .bool r5)] [] 0 0 [True, True, True, True, (decide ((t1.length : Int) > (10000 : Int))) = false ∧ True, (decide ((t1.length : Int) > (10000 : Int))) = false ∧ Pure Try.prog 9 [.p false .str t1] (.p false .bool r5), (decide ((t1.length : Int) > (10000 : Int))) = false, True] (by kernel_rfl) (by kernel_rfl) ⟨trivial, trivial, trivial, trivial, ⟨hb4, trivial⟩, ⟨hb4, (stanzalaw07_told_ok t1 _ q5)⟩, hb4, trivial, trivial⟩ ?_
        obtain rfl := Option.some.inj h
        exact postN_to (goal_le (gs := []) (f := []) (by kernel_rfl) (by kernel_rfl))
    · clear hp1
      obtain ⟨rfl, hle⟩ := hq
      refine use_to ?_ hle
      refine to_then ?_
      refine W_ret ?_
      obtain rfl := Option.some.inj h
      exact Ret_intro [.bool] (by kernel_rfl)

end
end Go.Proofs.Ytcdmdcfpjeomfaa.T
