/- Functions of the program as functions on data, and that the program's own come to them. -/
import Derived.Test.YtjfjigknkhgkdaaTvT03x0
import Derived.Test.YtjfjigknkhgkdaaTvT03xa
import Derived.Test.YtjfjigknkhgkdaaTvT03xc
import Derived.Test.YtjfjigknkhgkdaaTvT03xd
namespace Go.Proofs.Ytjfjigknkhgkdaa.T
open Go Go.Tv Go.Proofs
noncomputable section
set_option maxRecDepth 100000
set_option maxHeartbeats 4000000
def lq_RulesCuts (p1 p2 p3 : Int) (p4 : List Int) (p5 : List (Int × (List Int) × List Int)) (cut1 : Int) : Option (Bool) :=
  ((lq_Awake).bind fun (r2 : Bool) =>
  (if (!r2) = true then some false
  else ((hq_Text p1 p2 p3 p4 p5).bind fun (r4 : List UInt8) =>
  (if ¬ (IntKind.u64.wrap (IntKind.i64.wrap ((r4.length : Int) + (1 : Int)))) = 0 then (if 0 ≤ (0 : Int) ∧ (0 : Int) ≤ (IntKind.i64.wrap (Int.tmod (IntKind.u64.wrap cut1) (IntKind.u64.wrap (IntKind.i64.wrap ((r4.length : Int) + (1 : Int)))))) ∧ (IntKind.i64.wrap (Int.tmod (IntKind.u64.wrap cut1) (IntKind.u64.wrap (IntKind.i64.wrap ((r4.length : Int) + (1 : Int)))))) ≤ (r4.length : Int) then ((lq_told ((r4.take (IntKind.i64.wrap (Int.tmod (IntKind.u64.wrap cut1) (IntKind.u64.wrap (IntKind.i64.wrap ((r4.length : Int) + (1 : Int)))))).toNat).drop (0 : Int).toNat)).bind fun (r6 : Bool) =>
  some r6) else none) else none))))
theorem lq_RulesCuts_ok (β3 : Bool) (p1 p2 p3 : Int) (p4 : List Int) (p5 : List (Int × (List Int) × List Int)) (cut1 : Int) (res : Bool) (h : lq_RulesCuts p1 p2 p3 p4 p5 cut1 = some res) :
    Pure Try.prog 5 [.agg [.u8 p1, .u8 p2, .u8 p3, .p β3 (.slice (.int .u8)) p4, .p false (.slice (.prod (.int .u8) Y6)) p5], .i64 cut1] (wrapR (encs false [⟨.bool, res⟩])) := by
  refine Pure.of_body tbok Try.func5 (by kernel_rfl) rfl (nl rfl) (fun Bw w0 => ?_) rfl
  unfold lq_RulesCuts at h
  refine W_rs tbok ⟨[], []⟩ [] [0] [(1, .i64 cut1), (2, .adr 0 0 5 0)] (ob84 p1 p2 p3 β3 p4 p5) 1 0 [True, True] (by kernel_rfl) ⟨tt, tt, tt⟩ ?_
  refine W_seq ?_
  obtain ⟨r2, q2, h⟩ := h_bind h
  refine W_rs tbok ⟨[], [(0, ⟨.bo r2, [], false, [], [], [], none⟩)]⟩ [] [0] [(1, .i64 cut1), (2, .adr 0 0 5 0), (7, .bo (!r2))] (ob84 p1 p2 p3 β3 p4 p5) 1 0 [Pure Try.prog 10 [] (.bo r2), True] (by kernel_rfl) ⟨(lq_Awake_ok _ q2), tt, tt⟩ ?_
  refine W_cond (b := (!r2)) (β := false) (by kernel_rfl) (fun hb1 => ?_) (fun hb1 => ?_)
  · replace h := h_if hb1 h
    refine W_rs tbok ⟨[], []⟩ [] [] [(4, .bo false)] [] 0 0 [True] (by kernel_rfl) ⟨tt, tt⟩ ?_
    refine W_ret ?_
    refine thenQ_ret ?_
    obtain rfl := sI h
    exact Ret_intro [.bool] (by kernel_rfl)
  replace h := h_else hb1 h
  refine W_skip_to ?_
  refine to_then ?_
  obtain ⟨r4, q4, h⟩ := h_bind h
  have u_1 := (hq_Text_ok β3 p1 p2 p3 p4 p5 _ q4)
  refine W_rs tbok ⟨[], [(1, ⟨.st r4, [false], false, [true], [], [], none⟩)]⟩ [] [] [(1, .i64 cut1), (5, .st r4)] [] 0 0 [True, pO u_1, True] (by kernel_rfl) ⟨tt, u_1, tt, tt⟩ ?_
  refine W_seq ?_
  obtain ⟨c3, h⟩ := h_guard h
  obtain ⟨c4, h⟩ := h_guard h
  obtain ⟨r6, q6, h⟩ := h_bind h
  have u_1 := (lq_told_ok ((r4.take (IntKind.i64.wrap (Int.tmod (IntKind.u64.wrap cut1) (IntKind.u64.wrap (IntKind.i64.wrap ((r4.length : Int) + (1 : Int)))))).toNat).drop (0 : Int).toNat) _ q6)
  refine W_r tbok ⟨[], [(10, ⟨.bo r6, [false], false, [true], [], [], none⟩)]⟩ [] [] [(4, .bo r6)] [] 0 0 (Ts 7 [¬ (IntKind.u64.wrap (IntKind.i64.wrap ((r4.length : Int) + (1 : Int)))) = 0, True, 0 ≤ (0 : Int) ∧ (0 : Int) ≤ (IntKind.i64.wrap (Int.tmod (IntKind.u64.wrap cut1) (IntKind.u64.wrap (IntKind.i64.wrap ((r4.length : Int) + (1 : Int)))))) ∧ (IntKind.i64.wrap (Int.tmod (IntKind.u64.wrap cut1) (IntKind.u64.wrap (IntKind.i64.wrap ((r4.length : Int) + (1 : Int)))))) ≤ (r4.length : Int), pO u_1, True]) (by kernel_rfl) (tr 7 ⟨c3, tt, c4, u_1, tt, tt⟩) ?_
  refine to_then ?_
  refine W_ret ?_
  obtain rfl := sI h
  exact Ret_intro [.bool] (by kernel_rfl)
end
end Go.Proofs.Ytjfjigknkhgkdaa.T
