/- Functions of the program as functions on data, and that the program's own come to them. -/
import Derived.Test.YtjfjigknkhgkdaaTvT03x0
import Derived.Test.YtjfjigknkhgkdaaTvT03xa
import Derived.Test.YtjfjigknkhgkdaaTvT03xc
namespace Go.Proofs.Ytjfjigknkhgkdaa.T
open Go Go.Tv Go.Proofs
noncomputable section

def lq_RulesTexts (t1 : List UInt8) : Option (Bool) :=
  ((lq_Awake).bind fun (r2 : Bool) =>
  (if (!r2) = true then some false
  else (if (decide ((t1.length : Int) > (10000 : Int))) = true then some true
  else ((lq_told t1).bind fun (r4 : Bool) =>
  some r4))))

set_option maxRecDepth 100000 in
set_option maxHeartbeats 4000000 in
theorem lq_RulesTexts_ok (t1 : List UInt8) (res : Bool) (h : lq_RulesTexts t1 = some res) :
    Pure Try.prog 3 [.st t1] (wrapR (encs false [⟨.bool, res⟩])) := by
  refine Pure.of_body tbok Try.func3 (by kernel_rfl) rfl (Nat.le_of_ble_eq_true rfl) (fun Bw w0 => ?_) rfl
  unfold lq_RulesTexts at h
  refine W_rs tbok ⟨[], []⟩ [] [] [(0, .st t1)] [] 0 0 [True] (by kernel_rfl) ⟨tt, tt⟩ ?_
  refine W_seq ?_
  obtain ⟨r2, q2, h⟩ := h_bind h
  refine W_rs tbok ⟨[], [(0, ⟨.bo r2, [], false, [], [], [], none⟩)]⟩ [] [] [(0, .st t1), (4, .bo (!r2))] [] 0 0 [Pure Try.prog 10 [] (.bo r2), True] (by kernel_rfl) ⟨(lq_Awake_ok _ q2), tt, tt⟩ ?_
  refine W_cond (b := (!r2)) (β := false) (by kernel_rfl) (fun hb1 => ?_) (fun hb1 => ?_)
  · replace h := h_if hb1 h
    refine W_rs tbok ⟨[], []⟩ [] [] [(2, .bo false)] [] 0 0 [True] (by kernel_rfl) ⟨tt, tt⟩ ?_
    refine W_ret ?_
    refine thenQ_ret ?_
    obtain rfl := Option.some.inj h
    exact Ret_intro [.bool] (by kernel_rfl)
  · replace h := h_else hb1 h
    refine W_skip_to ?_
    refine to_then ?_
    refine W_seq ?_
    refine W_rs tbok ⟨[], []⟩ [] [] [(0, .st t1), (7, .bo (decide ((t1.length : Int) > (10000 : Int))))] [] 0 0 (Ts 3 []) (by kernel_rfl) (tr 3 tt) ?_
    refine W_cond (b := (decide ((t1.length : Int) > (10000 : Int)))) (β := false) (by kernel_rfl) (fun hb2 => ?_) (fun hb2 => ?_)
    · replace h := h_if hb2 h
      refine W_rs tbok ⟨[], []⟩ [] [] [(2, .bo true)] [] 0 0 [True] (by kernel_rfl) ⟨tt, tt⟩ ?_
      refine W_ret ?_
      refine thenQ_ret ?_
      obtain rfl := Option.some.inj h
      exact Ret_intro [.bool] (by kernel_rfl)
    · replace h := h_else hb2 h
      refine W_skip_to ?_
      refine to_then ?_
      obtain ⟨r4, q4, h⟩ := h_bind h
      refine W_rs tbok ⟨[], [(1, ⟨.bo r4, [false], false, [true], [], [], none⟩)]⟩ [] [] [(2, .bo r4)] [] 0 0 [True, Pure Try.prog 11 [.st t1] (.bo r4), True] (by kernel_rfl) ⟨tt, (lq_told_ok t1 _ q4), tt, tt⟩ ?_
      refine W_ret ?_
      obtain rfl := Option.some.inj h
      exact Ret_intro [.bool] (by kernel_rfl)

end
end Go.Proofs.Ytjfjigknkhgkdaa.T
