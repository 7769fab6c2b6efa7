/- Functions of the program as functions on data, and that the program's own come to them. -/
import Derived.Test.YtnnbofkcfooljaaTvT05x0
import Derived.Test.YtnnbofkcfooljaaTvT05xa
import Derived.Test.YtnnbofkcfooljaaTvT05xb
namespace Go.Proofs.Ytnnbofkcfooljaa.T
open Go Go.Tv Go.Proofs
noncomputable section

/-- a loop of 'stanza/stanzalaw05.count': one round -/
def stanzalaw05_count_L1 (n1 : Int) : ((List Int) × Int) → Option (((List Int) × Int) ⊕ (List Int)) := fun ((out2, v2) : (List Int) × Int) =>
  (if (decide (v2 < n1)) = true then (if (out2.length + ([v2] : List Int).length) * 8 ≤ 140737488355328 ∧ out2.length + ([v2] : List Int).length ≤ 9223372036854775807 then some (Sum.inl ((out2 ++ ([v2] : List Int)), (IntKind.i64.wrap (v2 + (1 : Int))))) else none)
  else some (Sum.inr out2))

/-- 'stanza/stanzalaw05.count' -/
def stanzalaw05_count (n1 : Int) : Option (List Int) :=
  ((iter (stanzalaw05_count_L1 n1) (([] : List Int), (0 : Int))).bind fun (out3 : List Int) => some out3)

set_option maxRecDepth 100000 in
set_option maxHeartbeats 4000000 in
theorem stanzalaw05_count_ok (n1 : Int) (res : List Int) (h : stanzalaw05_count n1 = some res) :
    Pure Try.prog 17 [.p false (.int .i64) n1] (wrapR (encs false [⟨(.slice (.int .i64)), res⟩])) := by
  refine Pure.of_body tbok Try.func17 (by kernel_rfl) rfl (Nat.le_of_ble_eq_true rfl) (fun Bw w0 => ?_) rfl
  unfold stanzalaw05_count at h
  refine W_seq ?_
  refine W_reg tbok ⟨[], []⟩ [] [] [(0, .p false (.int .i64) n1)] [] 0 0 [True] (by kernel_rfl) (by kernel_rfl) ⟨trivial, trivial⟩ ?_
  refine to_then ?_
  refine W_seq ?_
  refine W_reg tbok ⟨[], []⟩ [] [] [(0, .p false (.int .i64) n1), (3, .nils)] [] 0 0 [True] (by kernel_rfl) (by kernel_rfl) ⟨trivial, trivial⟩ ?_
  refine to_then ?_
  refine W_seq ?_
  refine W_seq ?_
  refine W_reg tbok ⟨[], []⟩ [] [] [(3, .nils), (5, .p false (.int .i64) n1), (6, .p false (.int .i64) (0 : Int))] [] 0 0 [True, True] (by kernel_rfl) (by kernel_rfl) ⟨trivial, trivial, trivial⟩ ?_
  refine to_then ?_
  refine W_block ?_
  obtain ⟨out3, hp1, h⟩ := h_bind h
  refine W.mono (Q := (postX Try.f17.ntmps 0 (fun (out3 : List Int) => mkSt [(3, .sl 0)] [(0, .arr 3 (.int .i64) out3)] 1)) out3) (W_iter (f := fun ((out2, v2) : (List Int) × Int) => mkSt [(3, .sl 0), (5, .p false (.int .i64) n1), (6, .p false (.int .i64) v2)] [(0, .arr 3 (.int .i64) out2)] 1) (Q := (postX Try.f17.ntmps 0 (fun (out3 : List Int) => mkSt [(3, .sl 0)] [(0, .arr 3 (.int .i64) out3)] 1))) hp1 (goal_le (gs := [.nilS 3 0 3 (.int .i64)]) (f := [0]) (by kernel_rfl) (by kernel_rfl)) (fun y o ho => ?_)) (fun e σ' hq => ?_)
  · obtain ⟨out2, v2⟩ := y
    replace h := ho
    clear ho hp1
    unfold stanzalaw05_count_L1 at h
    refine W_seq ?_
    refine W_reg tbok ⟨[], []⟩ [] [0] [(3, .sl 0), (5, .p false (.int .i64) n1), (6, .p false (.int .i64) v2), (7, .p false .bool (decide (v2 < n1)))] [(0, .arr 3 (.int .i64) out2)] 1 0 [True] (by kernel_rfl) (by kernel_rfl) ⟨trivial, trivial⟩ ?_
    refine to_then ?_
    refine W_seq ?_
    refine W_cond (b := (decide (v2 < n1))) (β := false) (by kernel_rfl) (fun hb3 => ?_) (fun hb3 => ?_)
    · replace h := h_if hb3 h
      refine W_skip_to ?_
      refine to_then ?_
      refine W_seq ?_
      refine W_block ?_
      refine W_seq ?_
      refine W_reg tbok ⟨[], []⟩ [] [0] [(3, .sl 0), (4, .p false (.int .i64) v2), (5, .p false (.int .i64) n1), (6, .p false (.int .i64) v2)] [(0, .arr 3 (.int .i64) out2)] 1 0 [True, True] (by kernel_rfl) (by kernel_rfl) ⟨trivial, trivial, trivial⟩ ?_
      refine to_then ?_
      obtain ⟨c6, h⟩ := h_guard h
      refine W_reg tbok ⟨[], []⟩ [] [25] [(3, .sl 0), (5, .p false (.int .i64) n1), (6, .p false (.int .i64) v2)] [(0, .arr 3 (.int .i64) (out2 ++ ([v2] : List Int)))] 1 0 [True, True, True, (out2.length + ([v2] : List Int).length) * 8 ≤ 140737488355328 ∧ out2.length + ([v2] : List Int).length ≤ 9223372036854775807, True] (by kernel_rfl) (by kernel_rfl) ⟨trivial, trivial, trivial, c6, trivial, trivial⟩ ?_
      refine to_block ?_
      refine to_then ?_
      refine W_reg tbok ⟨[], []⟩ [] [0] [(3, .sl 0), (5, .p false (.int .i64) n1), (6, .p false (.int .i64) (IntKind.i64.wrap (v2 + (1 : Int))))] [(0, .arr 3 (.int .i64) (out2 ++ ([v2] : List Int)))] 1 0 [True, True] (by kernel_rfl) (by kernel_rfl) ⟨trivial, trivial, trivial⟩ ?_
      obtain rfl := Option.some.inj h
      exact roundB (goal_le (gs := []) (f := [0]) (by kernel_rfl) (by kernel_rfl))
    · replace h := h_else hb3 h
      refine W_exit_to ?_
      refine thenE ?_
      obtain rfl := Option.some.inj h
      refine roundE ?_
      exact postX_to (goal_le (gs := []) (f := [0]) (by kernel_rfl) (by kernel_rfl))
  · clear hp1
    obtain ⟨rfl, hle⟩ := hq
    refine use_to ?_ hle
    refine blockE_eq ?_
    refine to_then ?_
    refine W_seq ?_
    refine W_reg tbok ⟨[], []⟩ [] [0] [(2, .sl 0)] [(0, .arr 3 (.int .i64) out3)] 1 0 [True, True] (by kernel_rfl) (by kernel_rfl) ⟨trivial, trivial, trivial⟩ ?_
    refine to_then ?_
    refine W_ret ?_
    obtain rfl := Option.some.inj h
    exact Ret_intro [(.slice (.int .i64))] (by kernel_rfl)

/-- a loop of 'stanza/stanzalaw05.LeastNumbers': one round -/
def stanzalaw05_LeastNumbers_L1 (r4 : (List (List Int)) × List Int) : ((List Int) × Int) → Option (((List Int) × Int) ⊕ (List Int)) := fun ((v3, v4) : (List Int) × Int) =>
  (if (decide (v4 < ((List.replicate (r4.1.length : Int).toNat (0 : Int)).length : Int))) = true then (if 0 ≤ v4 ∧ v4 < (v3.length : Int) then (if v4.toNat < v3.length then some (Sum.inl ((v3.set v4.toNat v4), (IntKind.i64.wrap (v4 + (1 : Int))))) else none) else none)
  else some (Sum.inr v3))

/-- a loop of 'stanza/stanzalaw05.LeastNumbers': one round -/
def stanzalaw05_LeastNumbers_L2 (x2 : List Int) (r4 : (List (List Int)) × List Int) : ((List Int) × Int) → Option (((List Int) × Int) ⊕ (List Int)) := fun ((v10, v11) : (List Int) × Int) =>
  (((if (decide (v11 < (r4.1.length : Int))) = true then some ((decide (v11 < (x2.length : Int))))
  else some (false))).bind fun (v13 : Bool) => (if v13 = true then (if 0 ≤ v11 ∧ v11 < (x2.length : Int) then (if ¬ (IntKind.u64.wrap (IntKind.i64.wrap ((r4.1.length : Int) - (1 : Int)))) = 0 then (if 0 ≤ (IntKind.i64.wrap ((1 : Int) + (IntKind.i64.wrap (Int.tmod (IntKind.u64.wrap (x2.getD v11.toNat (0 : Int))) (IntKind.u64.wrap (IntKind.i64.wrap ((r4.1.length : Int) - (1 : Int)))))))) ∧ (IntKind.i64.wrap ((1 : Int) + (IntKind.i64.wrap (Int.tmod (IntKind.u64.wrap (x2.getD v11.toNat (0 : Int))) (IntKind.u64.wrap (IntKind.i64.wrap ((r4.1.length : Int) - (1 : Int)))))))) < (v10.length : Int) then (if (IntKind.i64.wrap ((1 : Int) + (IntKind.i64.wrap (Int.tmod (IntKind.u64.wrap (x2.getD v11.toNat (0 : Int))) (IntKind.u64.wrap (IntKind.i64.wrap ((r4.1.length : Int) - (1 : Int)))))))).toNat < v10.length then (if 0 ≤ v11 ∧ v11 < (v10.length : Int) then (if v11.toNat < v10.length then (if 0 ≤ v11 ∧ v11 < (v10.length : Int) then (if v11.toNat < v10.length then (if 0 ≤ (IntKind.i64.wrap ((1 : Int) + (IntKind.i64.wrap (Int.tmod (IntKind.u64.wrap (x2.getD v11.toNat (0 : Int))) (IntKind.u64.wrap (IntKind.i64.wrap ((r4.1.length : Int) - (1 : Int)))))))) ∧ (IntKind.i64.wrap ((1 : Int) + (IntKind.i64.wrap (Int.tmod (IntKind.u64.wrap (x2.getD v11.toNat (0 : Int))) (IntKind.u64.wrap (IntKind.i64.wrap ((r4.1.length : Int) - (1 : Int)))))))) < ((v10.set v11.toNat (v10.getD ((IntKind.i64.wrap ((1 : Int) + (IntKind.i64.wrap (Int.tmod (IntKind.u64.wrap (x2.getD v11.toNat (0 : Int))) (IntKind.u64.wrap (IntKind.i64.wrap ((r4.1.length : Int) - (1 : Int)))))))).toNat) (0 : Int))).length : Int) then (if (IntKind.i64.wrap ((1 : Int) + (IntKind.i64.wrap (Int.tmod (IntKind.u64.wrap (x2.getD v11.toNat (0 : Int))) (IntKind.u64.wrap (IntKind.i64.wrap ((r4.1.length : Int) - (1 : Int)))))))).toNat < (v10.set v11.toNat (v10.getD ((IntKind.i64.wrap ((1 : Int) + (IntKind.i64.wrap (Int.tmod (IntKind.u64.wrap (x2.getD v11.toNat (0 : Int))) (IntKind.u64.wrap (IntKind.i64.wrap ((r4.1.length : Int) - (1 : Int)))))))).toNat) (0 : Int))).length then some (Sum.inl (((v10.set v11.toNat (v10.getD ((IntKind.i64.wrap ((1 : Int) + (IntKind.i64.wrap (Int.tmod (IntKind.u64.wrap (x2.getD v11.toNat (0 : Int))) (IntKind.u64.wrap (IntKind.i64.wrap ((r4.1.length : Int) - (1 : Int)))))))).toNat) (0 : Int))).set ((IntKind.i64.wrap ((1 : Int) + (IntKind.i64.wrap (Int.tmod (IntKind.u64.wrap (x2.getD v11.toNat (0 : Int))) (IntKind.u64.wrap (IntKind.i64.wrap ((r4.1.length : Int) - (1 : Int)))))))).toNat) (v10.getD v11.toNat (0 : Int))), (IntKind.i64.wrap (v11 + (1 : Int))))) else none) else none) else none) else none) else none) else none) else none) else none) else none) else none)
  else some (Sum.inr v10)))

/-- a loop of 'stanza/stanzalaw05.LeastNumbers': one round -/
def stanzalaw05_LeastNumbers_L3 (r4 : (List (List Int)) × List Int) (v12 : List Int) (v29 : Int) : ((List (List Int)) × Int) → Option (((List (List Int)) × Int) ⊕ (List (List Int))) := fun ((v34, v35) : (List (List Int)) × Int) =>
  (if (decide (v35 < ((r4.1.getD v29.toNat ([] : List Int)).length : Int))) = true then (if 0 ≤ v35 ∧ v35 < ((r4.1.getD v29.toNat ([] : List Int)).length : Int) then (if 0 ≤ v29 ∧ v29 < (v12.length : Int) then (if v29.toNat < v12.length then (if 0 ≤ v29 ∧ v29 < (v12.length : Int) then (if v29.toNat < v12.length then (if 0 ≤ (v12.getD v29.toNat (0 : Int)) ∧ (v12.getD v29.toNat (0 : Int)) < (v34.length : Int) then (if (v12.getD v29.toNat (0 : Int)).toNat < v34.length then (if 0 ≤ ((r4.1.getD v29.toNat ([] : List Int)).getD v35.toNat (0 : Int)) ∧ ((r4.1.getD v29.toNat ([] : List Int)).getD v35.toNat (0 : Int)) < (v12.length : Int) then (if ((r4.1.getD v29.toNat ([] : List Int)).getD v35.toNat (0 : Int)).toNat < v12.length then (if ((v34.getD ((v12.getD v29.toNat (0 : Int)).toNat) ([] : List Int)).length + ([(v12.getD (((r4.1.getD v29.toNat ([] : List Int)).getD v35.toNat (0 : Int)).toNat) (0 : Int))] : List Int).length) * 8 ≤ 140737488355328 ∧ (v34.getD ((v12.getD v29.toNat (0 : Int)).toNat) ([] : List Int)).length + ([(v12.getD (((r4.1.getD v29.toNat ([] : List Int)).getD v35.toNat (0 : Int)).toNat) (0 : Int))] : List Int).length ≤ 9223372036854775807 then (if 0 ≤ (v12.getD v29.toNat (0 : Int)) ∧ (v12.getD v29.toNat (0 : Int)) < (v34.length : Int) then (if ((v12.getD v29.toNat (0 : Int)).toNat) = (v12.getD v29.toNat (0 : Int)).toNat ∧ (v12.getD v29.toNat (0 : Int)).toNat < v34.length then some (Sum.inl ((v34.set ((v12.getD v29.toNat (0 : Int)).toNat) ((v34.getD ((v12.getD v29.toNat (0 : Int)).toNat) ([] : List Int)) ++ ([(v12.getD (((r4.1.getD v29.toNat ([] : List Int)).getD v35.toNat (0 : Int)).toNat) (0 : Int))] : List Int))), (IntKind.i64.wrap (v35 + (1 : Int))))) else none) else none) else none) else none) else none) else none) else none) else none) else none) else none) else none) else none)
  else some (Sum.inr v34))

/-- a loop of 'stanza/stanzalaw05.LeastNumbers': one round -/
def stanzalaw05_LeastNumbers_L4 (r4 : (List (List Int)) × List Int) (v12 : List Int) : ((List (List Int)) × (List Int) × Int) → Option (((List (List Int)) × (List Int) × Int) ⊕ ((List (List Int)) × List Int)) := fun ((v27, v28, v29) : (List (List Int)) × (List Int) × Int) =>
  (if (decide (v29 < (r4.1.length : Int))) = true then (if 0 ≤ v29 ∧ v29 < (v12.length : Int) then (if v29.toNat < v12.length then (if 0 ≤ v29 ∧ v29 < (r4.2.length : Int) then (if 0 ≤ (v12.getD v29.toNat (0 : Int)) ∧ (v12.getD v29.toNat (0 : Int)) < (v28.length : Int) then (if (v12.getD v29.toNat (0 : Int)).toNat < v28.length then (if 0 ≤ v29 ∧ v29 < (r4.1.length : Int) then ((iter (stanzalaw05_LeastNumbers_L3 r4 v12 v29) (v27, (0 : Int))).bind fun (v36 : List (List Int)) => some (Sum.inl (v36, (v28.set ((v12.getD v29.toNat (0 : Int)).toNat) (r4.2.getD v29.toNat (0 : Int))), (IntKind.i64.wrap (v29 + (1 : Int)))))) else none) else none) else none) else none) else none) else none)
  else some (Sum.inr (v27, v28)))

/-- a loop of 'stanza/stanzalaw05.LeastNumbers': one round -/
def stanzalaw05_LeastNumbers_L5 (r8 : (List (List Int)) × List Int) (v98 : List Int) (v99 : Int) (v119 : List Int) (v120 : Int) : (Bool × Int) → Option ((Bool × Int) ⊕ (Bool)) := fun ((v125, v126) : Bool × Int) =>
  (if (decide (v126 < (v119.length : Int))) = true then (if 0 ≤ v126 ∧ v126 < (v119.length : Int) then (if v126.toNat < v119.length then (((if v125 = true then some (true)
  else some (((v119.getD v126.toNat (0 : Int)) == ((r8.1.getD ((v98.getD v99.toNat (0 : Int)).toNat) ([] : List Int)).getD v120.toNat (0 : Int)))))).bind fun (v128 : Bool) => some (Sum.inl (v128, (IntKind.i64.wrap (v126 + (1 : Int)))))) else none) else none)
  else some (Sum.inr v125))

/-- a loop of 'stanza/stanzalaw05.LeastNumbers': one round -/
def stanzalaw05_LeastNumbers_L6 (r8 : (List (List Int)) × List Int) (v98 : List Int) (v99 : Int) : ((List Int) × Int) → Option (((List Int) × Int) ⊕ ((List Int) ⊕ (Bool))) := fun ((v119, v120) : (List Int) × Int) =>
  (if (decide (v120 < ((r8.1.getD ((v98.getD v99.toNat (0 : Int)).toNat) ([] : List Int)).length : Int))) = true then (if 0 ≤ v120 ∧ v120 < ((r8.1.getD ((v98.getD v99.toNat (0 : Int)).toNat) ([] : List Int)).length : Int) then ((iter (stanzalaw05_LeastNumbers_L5 r8 v98 v99 v119 v120) (false, (0 : Int))).bind fun (v127 : Bool) => (((if (!v127) = true then (if (((r8.1.getD ((v98.getD v99.toNat (0 : Int)).toNat) ([] : List Int)).getD v120.toNat (0 : Int)) != (v119.length : Int)) = true then some ((Sum.inr false))
  else (if (v119.length + ([((r8.1.getD ((v98.getD v99.toNat (0 : Int)).toNat) ([] : List Int)).getD v120.toNat (0 : Int))] : List Int).length) * 8 ≤ 140737488355328 ∧ v119.length + ([((r8.1.getD ((v98.getD v99.toNat (0 : Int)).toNat) ([] : List Int)).getD v120.toNat (0 : Int))] : List Int).length ≤ 9223372036854775807 then some ((Sum.inl (v119 ++ ([((r8.1.getD ((v98.getD v99.toNat (0 : Int)).toNat) ([] : List Int)).getD v120.toNat (0 : Int))] : List Int)))) else none))
  else some ((Sum.inl v119)))).bind fun (r40 : ((List Int) ⊕ (Bool))) => match r40 with
  | .inl v129 => some (Sum.inl (v129, (IntKind.i64.wrap (v120 + (1 : Int)))))
  | .inr (r39) => some (Sum.inr (Sum.inr r39)))) else none)
  else some (Sum.inr (Sum.inl v119)))

/-- a loop of 'stanza/stanzalaw05.LeastNumbers': one round -/
def stanzalaw05_LeastNumbers_L7 (r8 : (List (List Int)) × List Int) : ((List Int) × Int) → Option (((List Int) × Int) ⊕ ((List Int) ⊕ (Bool))) := fun ((v98, v99) : (List Int) × Int) =>
  (if (decide (v99 < (v98.length : Int))) = true then (if 0 ≤ v99 ∧ v99 < (v98.length : Int) then (if v99.toNat < v98.length then (if 0 ≤ (v98.getD v99.toNat (0 : Int)) ∧ (v98.getD v99.toNat (0 : Int)) < (r8.1.length : Int) then ((iter (stanzalaw05_LeastNumbers_L6 r8 v98 v99) (v98, (0 : Int))).bind fun (r41 : ((List Int) ⊕ (Bool))) => match r41 with
  | .inl v121 => some (Sum.inl (v121, (IntKind.i64.wrap (v99 + (1 : Int)))))
  | .inr (r38) => some (Sum.inr (Sum.inr r38))) else none) else none) else none)
  else some (Sum.inr (Sum.inl v98)))

/-- 'stanza/stanzalaw05.LeastNumbers' -/
def stanzalaw05_LeastNumbers (d1 : List Int) (i1 : List Int) (x1 : Int) (x2 : List Int) : Option (Bool) :=
  ((stanzalaw05_Awake).bind fun (r2 : Bool) =>
  (if (!r2) = true then some false
  else ((stanzalaw05_Made d1 i1 x1).bind fun (r4 : (List (List Int)) × List Int) =>
  (if ((r4.1.length : Int) == (0 : Int)) = true then some true
  else (if 0 ≤ (r4.1.length : Int) ∧ (r4.1.length : Int) ≤ (r4.1.length : Int) ∧ (8 : Int) * (r4.1.length : Int) ≤ 281474976710656 ∧ (r4.1.length : Int) ≤ 9223372036854775807 then ((iter (stanzalaw05_LeastNumbers_L1 r4) ((List.replicate (r4.1.length : Int).toNat (0 : Int)), (0 : Int))).bind fun (v5 : List Int) => ((iter (stanzalaw05_LeastNumbers_L2 x2 r4) (v5, (1 : Int))).bind fun (v12 : List Int) => (if 0 ≤ (r4.1.length : Int) ∧ (r4.1.length : Int) ≤ (r4.1.length : Int) ∧ (24 : Int) * (r4.1.length : Int) ≤ 281474976710656 ∧ (r4.1.length : Int) ≤ 9223372036854775807 then (if 0 ≤ (r4.1.length : Int) ∧ (r4.1.length : Int) ≤ (r4.1.length : Int) ∧ (4 : Int) * (r4.1.length : Int) ≤ 281474976710656 ∧ (r4.1.length : Int) ≤ 9223372036854775807 then ((iter (stanzalaw05_LeastNumbers_L4 r4 v12) ((List.replicate (r4.1.length : Int).toNat ([] : List Int)), (List.replicate (r4.1.length : Int).toNat (0 : Int)), (0 : Int))).bind fun ((v30, v31) : (List (List Int)) × List Int) => ((least_Make r4.1 r4.2).bind fun ((r8, r9) : ((List (List Int)) × List Int) × Int) =>
  ((least_Make v30 v31).bind fun ((r12, r13) : ((List (List Int)) × List Int) × Int) =>
  (((if (r9 != (0 : Int)) = true then some (true)
  else (if (r13 != (0 : Int)) = true then some (true)
  else ((stanzaref04_SameAuto r8.1 r8.2 r12.1 r12.2).bind fun (r16 : Bool) =>
  some ((!r16)))))).bind fun (v37 : Bool) => (if v37 = true then some false
  else ((iter (stanzalaw05_LeastNumbers_L7 r8) (([(0 : Int)] : List Int), (0 : Int))).bind fun (r42 : ((List Int) ⊕ (Bool))) => match r42 with
  | .inl v100 => (((if ((v100.length : Int) == (r8.2.length : Int)) = true then ((stanzalaw05_count (v100.length : Int)).bind fun (r47 : List Int) =>
  ((stanzaref01_SameInts v100 r47).bind fun (r48 : Bool) =>
  some (r48)))
  else some (false))).bind fun (v130 : Bool) => some v130)
  | .inr (r33) => some r33)))))) else none) else none))) else none)))))

set_option maxRecDepth 100000 in
set_option maxHeartbeats 4000000 in
theorem stanzalaw05_LeastNumbers_ok (β0 β1 β3 : Bool) (d1 : List Int) (i1 : List Int) (x1 : Int) (x2 : List Int) (res : Bool) (h : stanzalaw05_LeastNumbers d1 i1 x1 x2 = some res) :
    Pure Try.prog 5 [.p β0 (.slice (.int .u32)) d1, .p β1 (.slice (.int .i64)) i1, .p false (.int .u8) x1, .p β3 (.slice (.int .i64)) x2] (wrapR (encs false [⟨.bool, res⟩])) := by
  refine Pure.of_body tbok Try.func5 (by kernel_rfl) rfl (Nat.le_of_ble_eq_true rfl) (fun Bw w0 => ?_) rfl
  unfold stanzalaw05_LeastNumbers at h
  refine W_seq ?_
  refine W_reg tbok ⟨[], []⟩ [] [] [(0, .p β0 (.slice (.int .u32)) d1), (1, .p β1 (.slice (.int .i64)) i1), (2, .p false (.int .u8) x1), (3, .p β3 (.slice (.int .i64)) x2)] [] 0 0 [True] (by kernel_rfl) (by kernel_rfl) ⟨trivial, trivial⟩ ?_
  refine to_then ?_
  refine W_seq ?_
  refine W_seq ?_
  obtain ⟨r2, q2, h⟩ := h_bind h
  refine W_reg tbok ⟨[], [(0, ⟨.p false .bool r2, [], false, [], [], []⟩)]⟩ [] [] [(0, .p β0 (.slice (.int .u32)) d1), (1, .p β1 (.slice (.int .i64)) i1), (2, .p false (.int .u8) x1), (3, .p β3 (.slice (.int .i64)) x2), (32, .p false .bool (!r2))] [] 0 0 [Pure Try.prog 8 [] (.p false .bool r2), True] (by kernel_rfl) (by kernel_rfl) ⟨(stanzalaw05_Awake_ok _ q2), trivial, trivial⟩ ?_
  refine to_then ?_
  refine W_cond (b := (!r2)) (β := false) (by kernel_rfl) (fun hb1 => ?_) (fun hb1 => ?_)
  · replace h := h_if hb1 h
    refine W_seq ?_
    refine W_reg tbok ⟨[], []⟩ [] [] [(8, .p false .bool false)] [] 0 0 [True] (by kernel_rfl) (by kernel_rfl) ⟨trivial, trivial⟩ ?_
    refine to_then ?_
    refine W_ret ?_
    refine thenQ_ret ?_
    obtain rfl := Option.some.inj h
    exact Ret_intro [.bool] (by kernel_rfl)
  · replace h := h_else hb1 h
    refine W_skip_to ?_
    refine to_then ?_
    refine W_seq ?_
    obtain ⟨r4, q4, h⟩ := h_bind h
    refine W_reg tbok ⟨[], [(3, ⟨.agg [.p false (.slice (.slice (.int .i64))) r4.1, .p false (.slice (.int .u32)) r4.2], [false, false, false], false, [true, true, true], [], []⟩)]⟩ [] [32] [(3, .p β3 (.slice (.int .i64)) x2), (9, .adr 0 0 2 0)] [(0, .box [.p false (.slice (.slice (.int .i64))) r4.1, .p false (.slice (.int .u32)) r4.2])] 1 0 [True, True, True, Pure Try.prog 9 [.p β0 (.slice (.int .u32)) d1, .p β1 (.slice (.int .i64)) i1, .p false (.int .u8) x1] (.agg [.p false (.slice (.slice (.int .i64))) r4.1, .p false (.slice (.int .u32)) r4.2]), True, True] (by kernel_rfl) (by kernel_rfl) ⟨trivial, trivial, trivial, (stanzalaw05_Made_ok β0 β1 d1 i1 x1 _ q4), trivial, trivial, trivial⟩ ?_
    refine to_then ?_
    refine W_seq ?_
    refine W_reg tbok ⟨[], []⟩ [] [0] [(3, .p β3 (.slice (.int .i64)) x2), (9, .adr 0 0 2 0), (10, .p false (.int .i64) (r4.1.length : Int))] [(0, .box [.p false (.slice (.slice (.int .i64))) r4.1, .p false (.slice (.int .u32)) r4.2])] 1 0 [True, True, True, True] (by kernel_rfl) (by kernel_rfl) ⟨trivial, trivial, trivial, trivial, trivial⟩ ?_
    refine to_then ?_
    refine W_seq ?_
    refine W_seq ?_
    refine W_reg tbok ⟨[], []⟩ [] [0] [(3, .p β3 (.slice (.int .i64)) x2), (9, .adr 0 0 2 0), (10, .p false (.int .i64) (r4.1.length : Int)), (41, .p false .bool ((r4.1.length : Int) == (0 : Int)))] [(0, .box [.p false (.slice (.slice (.int .i64))) r4.1, .p false (.slice (.int .u32)) r4.2])] 1 0 [True, True] (by kernel_rfl) (by kernel_rfl) ⟨trivial, trivial, trivial⟩ ?_
    refine to_then ?_
    refine W_cond (b := ((r4.1.length : Int) == (0 : Int))) (β := false) (by kernel_rfl) (fun hb2 => ?_) (fun hb2 => ?_)
    · replace h := h_if hb2 h
      refine W_seq ?_
      refine W_reg tbok ⟨[], []⟩ [] [] [(8, .p false .bool true)] [] 0 0 [True] (by kernel_rfl) (by kernel_rfl) ⟨trivial, trivial⟩ ?_
      refine to_then ?_
      refine W_ret ?_
      refine thenQ_ret ?_
      obtain rfl := Option.some.inj h
      exact Ret_intro [.bool] (by kernel_rfl)
    · replace h := h_else hb2 h
      refine W_skip_to ?_
      refine to_then ?_
      refine W_seq ?_
      obtain ⟨c2, h⟩ := h_guard h
      refine W_reg tbok ⟨[], []⟩ [] [0, 9] [(3, .p β3 (.slice (.int .i64)) x2), (9, .adr 0 0 2 0), (10, .p false (.int .i64) (r4.1.length : Int)), (11, .sl 1)] [(0, .box [.p false (.slice (.slice (.int .i64))) r4.1, .p false (.slice (.int .u32)) r4.2]), (1, .arr 3 (.int .i64) (List.replicate (r4.1.length : Int).toNat (0 : Int)))] 2 0 [True, 0 ≤ (r4.1.length : Int) ∧ (r4.1.length : Int) ≤ (r4.1.length : Int) ∧ (8 : Int) * (r4.1.length : Int) ≤ 281474976710656 ∧ (r4.1.length : Int) ≤ 9223372036854775807, True] (by kernel_rfl) (by kernel_rfl) ⟨trivial, c2, trivial, trivial⟩ ?_
      refine to_then ?_
      refine W_seq ?_
      refine W_seq ?_
      refine W_reg tbok ⟨[], []⟩ [] [0, 1] [(3, .p β3 (.slice (.int .i64)) x2), (9, .adr 0 0 2 0), (10, .p false (.int .i64) (r4.1.length : Int)), (11, .sl 1), (45, .p false (.int .i64) ((List.replicate (r4.1.length : Int).toNat (0 : Int)).length : Int)), (46, .p false (.int .i64) (0 : Int))] [(0, .box [.p false (.slice (.slice (.int .i64))) r4.1, .p false (.slice (.int .u32)) r4.2]), (1, .arr 3 (.int .i64) (List.replicate (r4.1.length : Int).toNat (0 : Int)))] 2 0 [True, True, True] (by kernel_rfl) (by kernel_rfl) ⟨trivial, trivial, trivial, trivial⟩ ?_
      refine to_then ?_
      refine W_block ?_
      obtain ⟨v5, hp1, h⟩ := h_bind h
      refine W.mono (Q := (postX Try.f5.ntmps 0 (fun (v5 : List Int) => mkSt [(3, .p β3 (.slice (.int .i64)) x2), (9, .adr 0 0 2 0), (10, .p false (.int .i64) (r4.1.length : Int)), (11, .sl 1)] [(0, .box [.p false (.slice (.slice (.int .i64))) r4.1, .p false (.slice (.int .u32)) r4.2]), (1, .arr 3 (.int .i64) v5)] 2)) v5) (W_iter (f := fun ((v3, v4) : (List Int) × Int) => mkSt [(3, .p β3 (.slice (.int .i64)) x2), (9, .adr 0 0 2 0), (10, .p false (.int .i64) (r4.1.length : Int)), (11, .sl 1), (45, .p false (.int .i64) ((List.replicate (r4.1.length : Int).toNat (0 : Int)).length : Int)), (46, .p false (.int .i64) v4)] [(0, .box [.p false (.slice (.slice (.int .i64))) r4.1, .p false (.slice (.int .u32)) r4.2]), (1, .arr 3 (.int .i64) v3)] 2) (Q := (postX Try.f5.ntmps 0 (fun (v5 : List Int) => mkSt [(3, .p β3 (.slice (.int .i64)) x2), (9, .adr 0 0 2 0), (10, .p false (.int .i64) (r4.1.length : Int)), (11, .sl 1)] [(0, .box [.p false (.slice (.slice (.int .i64))) r4.1, .p false (.slice (.int .u32)) r4.2]), (1, .arr 3 (.int .i64) v5)] 2))) hp1 (goal_le (gs := []) (f := [0, 1]) (by kernel_rfl) (by kernel_rfl)) (fun y o ho => ?_)) (fun e σ' hq => ?_)
      · obtain ⟨v3, v4⟩ := y
        replace h := ho
        clear ho hp1
        unfold stanzalaw05_LeastNumbers_L1 at h
        refine W_seq ?_
        refine W_reg tbok ⟨[], []⟩ [] [0, 1] [(3, .p β3 (.slice (.int .i64)) x2), (9, .adr 0 0 2 0), (10, .p false (.int .i64) (r4.1.length : Int)), (11, .sl 1), (45, .p false (.int .i64) ((List.replicate (r4.1.length : Int).toNat (0 : Int)).length : Int)), (46, .p false (.int .i64) v4), (47, .p false .bool (decide (v4 < ((List.replicate (r4.1.length : Int).toNat (0 : Int)).length : Int))))] [(0, .box [.p false (.slice (.slice (.int .i64))) r4.1, .p false (.slice (.int .u32)) r4.2]), (1, .arr 3 (.int .i64) v3)] 2 0 [True] (by kernel_rfl) (by kernel_rfl) ⟨trivial, trivial⟩ ?_
        refine to_then ?_
        refine W_seq ?_
        refine W_cond (b := (decide (v4 < ((List.replicate (r4.1.length : Int).toNat (0 : Int)).length : Int)))) (β := false) (by kernel_rfl) (fun hb5 => ?_) (fun hb5 => ?_)
        · replace h := h_if hb5 h
          refine W_skip_to ?_
          refine to_then ?_
          refine W_seq ?_
          refine W_block ?_
          refine W_seq ?_
          refine W_reg tbok ⟨[], []⟩ [] [0, 1] [(3, .p β3 (.slice (.int .i64)) x2), (9, .adr 0 0 2 0), (10, .p false (.int .i64) (r4.1.length : Int)), (11, .sl 1), (12, .p false (.int .i64) v4), (45, .p false (.int .i64) ((List.replicate (r4.1.length : Int).toNat (0 : Int)).length : Int)), (46, .p false (.int .i64) v4)] [(0, .box [.p false (.slice (.slice (.int .i64))) r4.1, .p false (.slice (.int .u32)) r4.2]), (1, .arr 3 (.int .i64) v3)] 2 0 [True, True] (by kernel_rfl) (by kernel_rfl) ⟨trivial, trivial, trivial⟩ ?_
          refine to_then ?_
          obtain ⟨c13, h⟩ := h_guard h
          obtain ⟨c14, h⟩ := h_guard h
          refine W_reg tbok ⟨[], []⟩ [] [0, 1] [(3, .p β3 (.slice (.int .i64)) x2), (9, .adr 0 0 2 0), (10, .p false (.int .i64) (r4.1.length : Int)), (11, .sl 1), (45, .p false (.int .i64) ((List.replicate (r4.1.length : Int).toNat (0 : Int)).length : Int)), (46, .p false (.int .i64) v4)] [(0, .box [.p false (.slice (.slice (.int .i64))) r4.1, .p false (.slice (.int .u32)) r4.2]), (1, .arr 3 (.int .i64) (v3.set v4.toNat v4))] 2 0 [True, True, True, 0 ≤ v4 ∧ v4 < (v3.length : Int), v4.toNat < v3.length] (by kernel_rfl) (by kernel_rfl) ⟨trivial, trivial, trivial, c13, c14, trivial⟩ ?_
          refine to_block ?_
          refine to_then ?_
          refine W_reg tbok ⟨[], []⟩ [] [0, 1] [(3, .p β3 (.slice (.int .i64)) x2), (9, .adr 0 0 2 0), (10, .p false (.int .i64) (r4.1.length : Int)), (11, .sl 1), (45, .p false (.int .i64) ((List.replicate (r4.1.length : Int).toNat (0 : Int)).length : Int)), (46, .p false (.int .i64) (IntKind.i64.wrap (v4 + (1 : Int))))] [(0, .box [.p false (.slice (.slice (.int .i64))) r4.1, .p false (.slice (.int .u32)) r4.2]), (1, .arr 3 (.int .i64) (v3.set v4.toNat v4))] 2 0 [True, True] (by kernel_rfl) (by kernel_rfl) ⟨trivial, trivial, trivial⟩ ?_
          obtain rfl := Option.some.inj h
          exact roundB (goal_le (gs := []) (f := [0, 1]) (by kernel_rfl) (by kernel_rfl))
        · replace h := h_else hb5 h
          refine W_exit_to ?_
          refine thenE ?_
          obtain rfl := Option.some.inj h
          refine roundE ?_
          exact postX_to (goal_le (gs := []) (f := [0, 1]) (by kernel_rfl) (by kernel_rfl))
      · clear hp1
        obtain ⟨rfl, hle⟩ := hq
        refine use_to ?_ hle
        refine blockE_eq ?_
        refine to_then ?_
        refine W_seq ?_
        refine W_seq ?_
        refine W_reg tbok ⟨[], []⟩ [] [0, 1] [(3, .p β3 (.slice (.int .i64)) x2), (9, .adr 0 0 2 0), (10, .p false (.int .i64) (r4.1.length : Int)), (11, .sl 1), (13, .p false (.int .i64) (1 : Int))] [(0, .box [.p false (.slice (.slice (.int .i64))) r4.1, .p false (.slice (.int .u32)) r4.2]), (1, .arr 3 (.int .i64) v5)] 2 0 [True] (by kernel_rfl) (by kernel_rfl) ⟨trivial, trivial⟩ ?_
        refine to_then ?_
        refine W_block ?_
        obtain ⟨v12, hp5, h⟩ := h_bind h
        refine W.mono (Q := (postX Try.f5.ntmps 2 (fun (v12 : List Int) => mkSt [(9, .adr 0 0 2 0), (10, .p false (.int .i64) (r4.1.length : Int)), (11, .sl 1)] [(0, .box [.p false (.slice (.slice (.int .i64))) r4.1, .p false (.slice (.int .u32)) r4.2]), (1, .arr 3 (.int .i64) v12)] 2)) v12) (W_iter (f := fun ((v10, v11) : (List Int) × Int) => mkSt [(3, .p β3 (.slice (.int .i64)) x2), (9, .adr 0 0 2 0), (10, .p false (.int .i64) (r4.1.length : Int)), (11, .sl 1), (13, .p false (.int .i64) v11)] [(0, .box [.p false (.slice (.slice (.int .i64))) r4.1, .p false (.slice (.int .u32)) r4.2]), (1, .arr 3 (.int .i64) v10)] 2) (Q := (postX Try.f5.ntmps 2 (fun (v12 : List Int) => mkSt [(9, .adr 0 0 2 0), (10, .p false (.int .i64) (r4.1.length : Int)), (11, .sl 1)] [(0, .box [.p false (.slice (.slice (.int .i64))) r4.1, .p false (.slice (.int .u32)) r4.2]), (1, .arr 3 (.int .i64) v12)] 2))) hp5 (goal_le (gs := []) (f := [0, 1]) (by kernel_rfl) (by kernel_rfl)) (fun y o ho => ?_)) (fun e σ' hq => ?_)
        · obtain ⟨v10, v11⟩ := y
          replace h := ho
          clear ho hp5
          unfold stanzalaw05_LeastNumbers_L2 at h
          refine W_seq ?_
          refine W_seq ?_
          obtain ⟨v13, hp4, h⟩ := h_bind h
          refine W.mono (Q := (postN Try.f5.ntmps (fun (v13 : Bool) => mkSt [(3, .p β3 (.slice (.int .i64)) x2), (9, .adr 0 0 2 0), (10, .p false (.int .i64) (r4.1.length : Int)), (11, .sl 1), (13, .p false (.int .i64) v11), (62, .p false .bool v13)] [(0, .box [.p false (.slice (.slice (.int .i64))) r4.1, .p false (.slice (.int .u32)) r4.2]), (1, .arr 3 (.int .i64) v10)] 2)) v13) ?_ (fun e σ' hq => ?_)
          · replace h := hp4
            clear hp4
            rcases Bool.eq_false_or_eq_true (decide (v11 < (r4.1.length : Int))) with hb16 | hb16
            · replace h := h_if hb16 h
              refine W_reg tbok ⟨[(3, true), (8, true)], []⟩ [] [0, 1] [(3, .p β3 (.slice (.int .i64)) x2), (9, .adr 0 0 2 0), (10, .p false (.int .i64) (r4.1.length : Int)), (11, .sl 1), (13, .p false (.int .i64) v11), (62, .p false .bool (decide (v11 < (x2.length : Int))))] [(0, .box [.p false (.slice (.slice (.int .i64))) r4.1, .p false (.slice (.int .u32)) r4.2]), (1, .arr 3 (.int .i64) v10)] 2 0 [True, True, True, True, (decide (v11 < (r4.1.length : Int))) = true ∧ True, (decide (v11 < (r4.1.length : Int))) = true ∧ True, (decide (v11 < (r4.1.length : Int))) = true ∧ True, (decide (v11 < (r4.1.length : Int))) = true ∧ True, (decide (v11 < (r4.1.length : Int))) = true] (by kernel_rfl) (by kernel_rfl) ⟨trivial, trivial, trivial, trivial, ⟨hb16, trivial⟩, ⟨hb16, trivial⟩, ⟨hb16, trivial⟩, ⟨hb16, trivial⟩, hb16, trivial⟩ ?_
              obtain rfl := Option.some.inj h
              exact postN_to (goal_le (gs := []) (f := [0, 1]) (by kernel_rfl) (by kernel_rfl))
            · replace h := h_else hb16 h
              refine W_reg tbok ⟨[(3, false), (8, false)], []⟩ [] [0, 1] [(3, .p β3 (.slice (.int .i64)) x2), (9, .adr 0 0 2 0), (10, .p false (.int .i64) (r4.1.length : Int)), (11, .sl 1), (13, .p false (.int .i64) v11), (62, .p false .bool false)] [(0, .box [.p false (.slice (.slice (.int .i64))) r4.1, .p false (.slice (.int .u32)) r4.2]), (1, .arr 3 (.int .i64) v10)] 2 0 [True, True, True, True, (decide (v11 < (r4.1.length : Int))) = false, (decide (v11 < (r4.1.length : Int))) = false, (decide (v11 < (r4.1.length : Int))) = false, (decide (v11 < (r4.1.length : Int))) = false, (decide (v11 < (r4.1.length : Int))) = false] (by kernel_rfl) (by kernel_rfl) ⟨trivial, trivial, trivial, trivial, hb16, hb16, hb16, hb16, hb16, trivial⟩ ?_
              obtain rfl := Option.some.inj h
              exact postN_to (goal_le (gs := []) (f := [0, 1]) (by kernel_rfl) (by kernel_rfl))
          · clear hp4
            obtain ⟨rfl, hle⟩ := hq
            refine use_to ?_ hle
            refine to_then ?_
            refine W_cond (b := v13) (β := false) (by kernel_rfl) (fun hb17 => ?_) (fun hb17 => ?_)
            · replace h := h_if hb17 h
              refine W_skip_to ?_
              refine to_then ?_
              refine W_seq ?_
              refine W_block ?_
              refine W_seq ?_
              obtain ⟨c57, h⟩ := h_guard h
              obtain ⟨c58, h⟩ := h_guard h
              refine W_reg tbok ⟨[], []⟩ [] [0, 1] [(3, .p β3 (.slice (.int .i64)) x2), (9, .adr 0 0 2 0), (10, .p false (.int .i64) (r4.1.length : Int)), (11, .sl 1), (13, .p false (.int .i64) v11), (14, .p false (.int .i64) (IntKind.i64.wrap ((1 : Int) + (IntKind.i64.wrap (Int.tmod (IntKind.u64.wrap (x2.getD v11.toNat (0 : Int))) (IntKind.u64.wrap (IntKind.i64.wrap ((r4.1.length : Int) - (1 : Int)))))))))] [(0, .box [.p false (.slice (.slice (.int .i64))) r4.1, .p false (.slice (.int .u32)) r4.2]), (1, .arr 3 (.int .i64) v10)] 2 0 [True, True, 0 ≤ v11 ∧ v11 < (x2.length : Int), True, True, True, True, True, ¬ (IntKind.u64.wrap (IntKind.i64.wrap ((r4.1.length : Int) - (1 : Int)))) = 0, True, True, True] (by kernel_rfl) (by kernel_rfl) ⟨trivial, trivial, c57, trivial, trivial, trivial, trivial, trivial, c58, trivial, trivial, trivial, trivial⟩ ?_
              refine to_then ?_
              obtain ⟨c67, h⟩ := h_guard h
              obtain ⟨c68, h⟩ := h_guard h
              obtain ⟨c69, h⟩ := h_guard h
              obtain ⟨c70, h⟩ := h_guard h
              obtain ⟨c71, h⟩ := h_guard h
              obtain ⟨c72, h⟩ := h_guard h
              obtain ⟨c73, h⟩ := h_guard h
              obtain ⟨c74, h⟩ := h_guard h
              refine W_regD tbok mixed ⟨[], []⟩ [] [0, 1] [(3, .p β3 (.slice (.int .i64)) x2), (9, .adr 0 0 2 0), (10, .p false (.int .i64) (r4.1.length : Int)), (11, .sl 1), (13, .p false (.int .i64) v11)] [(0, .box [.p false (.slice (.slice (.int .i64))) r4.1, .p false (.slice (.int .u32)) r4.2]), (1, .arr 3 (.int .i64) ((v10.set v11.toNat (v10.getD ((IntKind.i64.wrap ((1 : Int) + (IntKind.i64.wrap (Int.tmod (IntKind.u64.wrap (x2.getD v11.toNat (0 : Int))) (IntKind.u64.wrap (IntKind.i64.wrap ((r4.1.length : Int) - (1 : Int)))))))).toNat) (0 : Int))).set ((IntKind.i64.wrap ((1 : Int) + (IntKind.i64.wrap (Int.tmod (IntKind.u64.wrap (x2.getD v11.toNat (0 : Int))) (IntKind.u64.wrap (IntKind.i64.wrap ((r4.1.length : Int) - (1 : Int)))))))).toNat) (v10.getD v11.toNat (0 : Int))))] 2 0 [True, True, True, True, True, True, 0 ≤ (IntKind.i64.wrap ((1 : Int) + (IntKind.i64.wrap (Int.tmod (IntKind.u64.wrap (x2.getD v11.toNat (0 : Int))) (IntKind.u64.wrap (IntKind.i64.wrap ((r4.1.length : Int) - (1 : Int)))))))) ∧ (IntKind.i64.wrap ((1 : Int) + (IntKind.i64.wrap (Int.tmod (IntKind.u64.wrap (x2.getD v11.toNat (0 : Int))) (IntKind.u64.wrap (IntKind.i64.wrap ((r4.1.length : Int) - (1 : Int)))))))) < (v10.length : Int), (IntKind.i64.wrap ((1 : Int) + (IntKind.i64.wrap (Int.tmod (IntKind.u64.wrap (x2.getD v11.toNat (0 : Int))) (IntKind.u64.wrap (IntKind.i64.wrap ((r4.1.length : Int) - (1 : Int)))))))).toNat < v10.length, True, True, 0 ≤ v11 ∧ v11 < (v10.length : Int), v11.toNat < v10.length, 0 ≤ v11 ∧ v11 < (v10.length : Int), v11.toNat < v10.length, 0 ≤ (IntKind.i64.wrap ((1 : Int) + (IntKind.i64.wrap (Int.tmod (IntKind.u64.wrap (x2.getD v11.toNat (0 : Int))) (IntKind.u64.wrap (IntKind.i64.wrap ((r4.1.length : Int) - (1 : Int)))))))) ∧ (IntKind.i64.wrap ((1 : Int) + (IntKind.i64.wrap (Int.tmod (IntKind.u64.wrap (x2.getD v11.toNat (0 : Int))) (IntKind.u64.wrap (IntKind.i64.wrap ((r4.1.length : Int) - (1 : Int)))))))) < ((v10.set v11.toNat (v10.getD ((IntKind.i64.wrap ((1 : Int) + (IntKind.i64.wrap (Int.tmod (IntKind.u64.wrap (x2.getD v11.toNat (0 : Int))) (IntKind.u64.wrap (IntKind.i64.wrap ((r4.1.length : Int) - (1 : Int)))))))).toNat) (0 : Int))).length : Int), (IntKind.i64.wrap ((1 : Int) + (IntKind.i64.wrap (Int.tmod (IntKind.u64.wrap (x2.getD v11.toNat (0 : Int))) (IntKind.u64.wrap (IntKind.i64.wrap ((r4.1.length : Int) - (1 : Int)))))))).toNat < (v10.set v11.toNat (v10.getD ((IntKind.i64.wrap ((1 : Int) + (IntKind.i64.wrap (Int.tmod (IntKind.u64.wrap (x2.getD v11.toNat (0 : Int))) (IntKind.u64.wrap (IntKind.i64.wrap ((r4.1.length : Int) - (1 : Int)))))))).toNat) (0 : Int))).length] (by kernel_rfl) (by kernel_rfl) ⟨trivial, trivial, trivial, trivial, trivial, trivial, c67, c68, trivial, trivial, c69, c70, c71, c72, c73, c74, trivial⟩ ?_
              refine to_block ?_
              refine to_then ?_
              refine W_reg tbok ⟨[], []⟩ [] [0, 1] [(3, .p β3 (.slice (.int .i64)) x2), (9, .adr 0 0 2 0), (10, .p false (.int .i64) (r4.1.length : Int)), (11, .sl 1), (13, .p false (.int .i64) (IntKind.i64.wrap (v11 + (1 : Int))))] [(0, .box [.p false (.slice (.slice (.int .i64))) r4.1, .p false (.slice (.int .u32)) r4.2]), (1, .arr 3 (.int .i64) ((v10.set v11.toNat (v10.getD ((IntKind.i64.wrap ((1 : Int) + (IntKind.i64.wrap (Int.tmod (IntKind.u64.wrap (x2.getD v11.toNat (0 : Int))) (IntKind.u64.wrap (IntKind.i64.wrap ((r4.1.length : Int) - (1 : Int)))))))).toNat) (0 : Int))).set ((IntKind.i64.wrap ((1 : Int) + (IntKind.i64.wrap (Int.tmod (IntKind.u64.wrap (x2.getD v11.toNat (0 : Int))) (IntKind.u64.wrap (IntKind.i64.wrap ((r4.1.length : Int) - (1 : Int)))))))).toNat) (v10.getD v11.toNat (0 : Int))))] 2 0 [True, True, True] (by kernel_rfl) (by kernel_rfl) ⟨trivial, trivial, trivial, trivial⟩ ?_
              obtain rfl := Option.some.inj h
              exact roundB (goal_le (gs := []) (f := [0, 1]) (by kernel_rfl) (by kernel_rfl))
            · replace h := h_else hb17 h
              refine W_exit_to ?_
              refine thenE ?_
              obtain rfl := Option.some.inj h
              refine roundE ?_
              exact postX_to (goal_le (gs := []) (f := [0, 1]) (by kernel_rfl) (by kernel_rfl))
        · clear hp5
          obtain ⟨rfl, hle⟩ := hq
          refine use_to ?_ hle
          refine blockE_eq ?_
          refine to_then ?_
          refine W_seq ?_
          obtain ⟨c77, h⟩ := h_guard h
          obtain ⟨c78, h⟩ := h_guard h
          refine W_regD tbok mixed ⟨[], []⟩ [] [0, 1, 42, 10, 26] [(9, .adr 0 0 2 0), (10, .p false (.int .i64) (r4.1.length : Int)), (11, .sl 1), (15, .adr 2 0 2 0)] [(0, .box [.p false (.slice (.slice (.int .i64))) r4.1, .p false (.slice (.int .u32)) r4.2]), (1, .arr 3 (.int .i64) v12), (2, .box [.sl 3, .sl 4]), (3, .mat 23 3 (.int .i64) (List.replicate (r4.1.length : Int).toNat ([] : List Int)) none), (4, .arr 37 (.int .u32) (List.replicate (r4.1.length : Int).toNat (0 : Int)))] 5 0 [True, 0 ≤ (r4.1.length : Int) ∧ (r4.1.length : Int) ≤ (r4.1.length : Int) ∧ (24 : Int) * (r4.1.length : Int) ≤ 281474976710656 ∧ (r4.1.length : Int) ≤ 9223372036854775807, True, 0 ≤ (r4.1.length : Int) ∧ (r4.1.length : Int) ≤ (r4.1.length : Int) ∧ (4 : Int) * (r4.1.length : Int) ≤ 281474976710656 ∧ (r4.1.length : Int) ≤ 9223372036854775807, True, True, True] (by kernel_rfl) (by kernel_rfl) ⟨trivial, c77, trivial, c78, trivial, trivial, trivial, trivial⟩ ?_
          refine to_then ?_
          refine W_seq ?_
          refine W_seq ?_
          refine W_reg tbok ⟨[], []⟩ [] [0, 1, 2, 3, 4] [(9, .adr 0 0 2 0), (11, .sl 1), (15, .adr 2 0 2 0), (95, .p false (.int .i64) (r4.1.length : Int)), (96, .p false (.int .i64) (0 : Int))] [(0, .box [.p false (.slice (.slice (.int .i64))) r4.1, .p false (.slice (.int .u32)) r4.2]), (1, .arr 3 (.int .i64) v12), (2, .box [.sl 3, .sl 4]), (3, .mat 23 3 (.int .i64) (List.replicate (r4.1.length : Int).toNat ([] : List Int)) none), (4, .arr 37 (.int .u32) (List.replicate (r4.1.length : Int).toNat (0 : Int)))] 5 0 [True, True] (by kernel_rfl) (by kernel_rfl) ⟨trivial, trivial, trivial⟩ ?_
          refine to_then ?_
          refine W_block ?_
          obtain ⟨r5, hp9, h⟩ := h_bind h
          refine W.mono (Q := (postX Try.f5.ntmps 4 (fun ((v30, v31) : (List (List Int)) × List Int) => mkSt [(9, .adr 0 0 2 0), (15, .adr 1 0 2 0)] [(0, .box [.p false (.slice (.slice (.int .i64))) r4.1, .p false (.slice (.int .u32)) r4.2]), (1, .box [.sl 2, .sl 3]), (2, .mat 23 3 (.int .i64) v30 none), (3, .arr 37 (.int .u32) v31)] 4)) r5) (W_iter (f := fun ((v27, v28, v29) : (List (List Int)) × (List Int) × Int) => mkSt [(9, .adr 0 0 2 0), (11, .sl 1), (15, .adr 2 0 2 0), (95, .p false (.int .i64) (r4.1.length : Int)), (96, .p false (.int .i64) v29)] [(0, .box [.p false (.slice (.slice (.int .i64))) r4.1, .p false (.slice (.int .u32)) r4.2]), (1, .arr 3 (.int .i64) v12), (2, .box [.sl 3, .sl 4]), (3, .mat 23 3 (.int .i64) v27 none), (4, .arr 37 (.int .u32) v28)] 5) (Q := (postX Try.f5.ntmps 4 (fun ((v30, v31) : (List (List Int)) × List Int) => mkSt [(9, .adr 0 0 2 0), (15, .adr 1 0 2 0)] [(0, .box [.p false (.slice (.slice (.int .i64))) r4.1, .p false (.slice (.int .u32)) r4.2]), (1, .box [.sl 2, .sl 3]), (2, .mat 23 3 (.int .i64) v30 none), (3, .arr 37 (.int .u32) v31)] 4))) hp9 (goal_le (gs := []) (f := [0, 1, 2, 3, 4]) (by kernel_rfl) (by kernel_rfl)) (fun y o ho => ?_)) (fun e σ' hq => ?_)
          · obtain ⟨v27, v28, v29⟩ := y
            replace h := ho
            clear ho hp9
            unfold stanzalaw05_LeastNumbers_L4 at h
            refine W_seq ?_
            refine W_reg tbok ⟨[], []⟩ [] [0, 1, 2, 3, 4] [(9, .adr 0 0 2 0), (11, .sl 1), (15, .adr 2 0 2 0), (95, .p false (.int .i64) (r4.1.length : Int)), (96, .p false (.int .i64) v29), (97, .p false .bool (decide (v29 < (r4.1.length : Int))))] [(0, .box [.p false (.slice (.slice (.int .i64))) r4.1, .p false (.slice (.int .u32)) r4.2]), (1, .arr 3 (.int .i64) v12), (2, .box [.sl 3, .sl 4]), (3, .mat 23 3 (.int .i64) v27 none), (4, .arr 37 (.int .u32) v28)] 5 0 [True] (by kernel_rfl) (by kernel_rfl) ⟨trivial, trivial⟩ ?_
            refine to_then ?_
            refine W_seq ?_
            refine W_cond (b := (decide (v29 < (r4.1.length : Int)))) (β := false) (by kernel_rfl) (fun hb26 => ?_) (fun hb26 => ?_)
            · replace h := h_if hb26 h
              refine W_skip_to ?_
              refine to_then ?_
              refine W_seq ?_
              refine W_block ?_
              refine W_seq ?_
              refine W_reg tbok ⟨[], []⟩ [] [0, 1, 2, 3, 4] [(9, .adr 0 0 2 0), (11, .sl 1), (15, .adr 2 0 2 0), (16, .p false (.int .i64) v29), (95, .p false (.int .i64) (r4.1.length : Int)), (96, .p false (.int .i64) v29)] [(0, .box [.p false (.slice (.slice (.int .i64))) r4.1, .p false (.slice (.int .u32)) r4.2]), (1, .arr 3 (.int .i64) v12), (2, .box [.sl 3, .sl 4]), (3, .mat 23 3 (.int .i64) v27 none), (4, .arr 37 (.int .u32) v28)] 5 0 [True, True] (by kernel_rfl) (by kernel_rfl) ⟨trivial, trivial, trivial⟩ ?_
              refine to_then ?_
              refine W_seq ?_
              obtain ⟨c252, h⟩ := h_guard h
              obtain ⟨c253, h⟩ := h_guard h
              obtain ⟨c254, h⟩ := h_guard h
              obtain ⟨c255, h⟩ := h_guard h
              obtain ⟨c256, h⟩ := h_guard h
              refine W_regD tbok mixed ⟨[], []⟩ [] [0, 1, 2, 3, 4] [(9, .adr 0 0 2 0), (11, .sl 1), (15, .adr 2 0 2 0), (16, .p false (.int .i64) v29), (95, .p false (.int .i64) (r4.1.length : Int)), (96, .p false (.int .i64) v29)] [(0, .box [.p false (.slice (.slice (.int .i64))) r4.1, .p false (.slice (.int .u32)) r4.2]), (1, .arr 3 (.int .i64) v12), (2, .box [.sl 3, .sl 4]), (3, .mat 23 3 (.int .i64) v27 none), (4, .arr 37 (.int .u32) (v28.set ((v12.getD v29.toNat (0 : Int)).toNat) (r4.2.getD v29.toNat (0 : Int))))] 5 0 [True, True, True, True, 0 ≤ v29 ∧ v29 < (v12.length : Int), v29.toNat < v12.length, True, True, True, 0 ≤ v29 ∧ v29 < (r4.2.length : Int), True, 0 ≤ (v12.getD v29.toNat (0 : Int)) ∧ (v12.getD v29.toNat (0 : Int)) < (v28.length : Int), (v12.getD v29.toNat (0 : Int)).toNat < v28.length] (by kernel_rfl) (by kernel_rfl) ⟨trivial, trivial, trivial, trivial, c252, c253, trivial, trivial, trivial, c254, trivial, c255, c256, trivial⟩ ?_
              refine to_then ?_
              refine W_seq ?_
              obtain ⟨c258, h⟩ := h_guard h
              refine W_reg tbok ⟨[], []⟩ [] [0, 1, 2, 3, 4] [(9, .adr 0 0 2 0), (11, .sl 1), (15, .adr 2 0 2 0), (16, .p false (.int .i64) v29), (95, .p false (.int .i64) (r4.1.length : Int)), (96, .p false (.int .i64) v29), (115, .p false (.slice (.int .i64)) (r4.1.getD v29.toNat ([] : List Int))), (116, .p false (.int .i64) ((r4.1.getD v29.toNat ([] : List Int)).length : Int)), (117, .p false (.int .i64) (0 : Int))] [(0, .box [.p false (.slice (.slice (.int .i64))) r4.1, .p false (.slice (.int .u32)) r4.2]), (1, .arr 3 (.int .i64) v12), (2, .box [.sl 3, .sl 4]), (3, .mat 23 3 (.int .i64) v27 none), (4, .arr 37 (.int .u32) (v28.set ((v12.getD v29.toNat (0 : Int)).toNat) (r4.2.getD v29.toNat (0 : Int))))] 5 0 [True, True, True, 0 ≤ v29 ∧ v29 < (r4.1.length : Int), True, True, True] (by kernel_rfl) (by kernel_rfl) ⟨trivial, trivial, trivial, c258, trivial, trivial, trivial, trivial⟩ ?_
              refine to_then ?_
              refine W_block ?_
              obtain ⟨v36, hp8, h⟩ := h_bind h
              refine W.mono (Q := (postX Try.f5.ntmps 6 (fun (v36 : List (List Int)) => mkSt [(9, .adr 0 0 2 0), (11, .sl 1), (15, .adr 2 0 2 0), (95, .p false (.int .i64) (r4.1.length : Int)), (96, .p false (.int .i64) v29)] [(0, .box [.p false (.slice (.slice (.int .i64))) r4.1, .p false (.slice (.int .u32)) r4.2]), (1, .arr 3 (.int .i64) v12), (2, .box [.sl 3, .sl 4]), (3, .mat 23 3 (.int .i64) v36 none), (4, .arr 37 (.int .u32) (v28.set ((v12.getD v29.toNat (0 : Int)).toNat) (r4.2.getD v29.toNat (0 : Int))))] 5)) v36) (W_iter (f := fun ((v34, v35) : (List (List Int)) × Int) => mkSt [(9, .adr 0 0 2 0), (11, .sl 1), (15, .adr 2 0 2 0), (16, .p false (.int .i64) v29), (95, .p false (.int .i64) (r4.1.length : Int)), (96, .p false (.int .i64) v29), (115, .p false (.slice (.int .i64)) (r4.1.getD v29.toNat ([] : List Int))), (116, .p false (.int .i64) ((r4.1.getD v29.toNat ([] : List Int)).length : Int)), (117, .p false (.int .i64) v35)] [(0, .box [.p false (.slice (.slice (.int .i64))) r4.1, .p false (.slice (.int .u32)) r4.2]), (1, .arr 3 (.int .i64) v12), (2, .box [.sl 3, .sl 4]), (3, .mat 23 3 (.int .i64) v34 none), (4, .arr 37 (.int .u32) (v28.set ((v12.getD v29.toNat (0 : Int)).toNat) (r4.2.getD v29.toNat (0 : Int))))] 5) (Q := (postX Try.f5.ntmps 6 (fun (v36 : List (List Int)) => mkSt [(9, .adr 0 0 2 0), (11, .sl 1), (15, .adr 2 0 2 0), (95, .p false (.int .i64) (r4.1.length : Int)), (96, .p false (.int .i64) v29)] [(0, .box [.p false (.slice (.slice (.int .i64))) r4.1, .p false (.slice (.int .u32)) r4.2]), (1, .arr 3 (.int .i64) v12), (2, .box [.sl 3, .sl 4]), (3, .mat 23 3 (.int .i64) v36 none), (4, .arr 37 (.int .u32) (v28.set ((v12.getD v29.toNat (0 : Int)).toNat) (r4.2.getD v29.toNat (0 : Int))))] 5))) hp8 (goal_le (gs := []) (f := [0, 1, 2, 3, 4]) (by kernel_rfl) (by kernel_rfl)) (fun y o ho => ?_)) (fun e σ' hq => ?_)
              · obtain ⟨v34, v35⟩ := y
                replace h := ho
                clear ho hp8
                unfold stanzalaw05_LeastNumbers_L3 at h
                refine W_seq ?_
                refine W_reg tbok ⟨[], []⟩ [] [0, 1, 2, 3, 4] [(9, .adr 0 0 2 0), (11, .sl 1), (15, .adr 2 0 2 0), (16, .p false (.int .i64) v29), (95, .p false (.int .i64) (r4.1.length : Int)), (96, .p false (.int .i64) v29), (115, .p false (.slice (.int .i64)) (r4.1.getD v29.toNat ([] : List Int))), (116, .p false (.int .i64) ((r4.1.getD v29.toNat ([] : List Int)).length : Int)), (117, .p false (.int .i64) v35), (118, .p false .bool (decide (v35 < ((r4.1.getD v29.toNat ([] : List Int)).length : Int))))] [(0, .box [.p false (.slice (.slice (.int .i64))) r4.1, .p false (.slice (.int .u32)) r4.2]), (1, .arr 3 (.int .i64) v12), (2, .box [.sl 3, .sl 4]), (3, .mat 23 3 (.int .i64) v34 none), (4, .arr 37 (.int .u32) (v28.set ((v12.getD v29.toNat (0 : Int)).toNat) (r4.2.getD v29.toNat (0 : Int))))] 5 0 [True] (by kernel_rfl) (by kernel_rfl) ⟨trivial, trivial⟩ ?_
                refine to_then ?_
                refine W_seq ?_
                refine W_cond (b := (decide (v35 < ((r4.1.getD v29.toNat ([] : List Int)).length : Int)))) (β := false) (by kernel_rfl) (fun hb29 => ?_) (fun hb29 => ?_)
                · replace h := h_if hb29 h
                  refine W_skip_to ?_
                  refine to_then ?_
                  refine W_seq ?_
                  refine W_block ?_
                  refine W_seq ?_
                  obtain ⟨c308, h⟩ := h_guard h
                  refine W_reg tbok ⟨[], []⟩ [] [0, 1, 2, 3, 4] [(9, .adr 0 0 2 0), (11, .sl 1), (15, .adr 2 0 2 0), (16, .p false (.int .i64) v29), (18, .p false (.int .i64) ((r4.1.getD v29.toNat ([] : List Int)).getD v35.toNat (0 : Int))), (95, .p false (.int .i64) (r4.1.length : Int)), (96, .p false (.int .i64) v29), (115, .p false (.slice (.int .i64)) (r4.1.getD v29.toNat ([] : List Int))), (116, .p false (.int .i64) ((r4.1.getD v29.toNat ([] : List Int)).length : Int)), (117, .p false (.int .i64) v35)] [(0, .box [.p false (.slice (.slice (.int .i64))) r4.1, .p false (.slice (.int .u32)) r4.2]), (1, .arr 3 (.int .i64) v12), (2, .box [.sl 3, .sl 4]), (3, .mat 23 3 (.int .i64) v34 none), (4, .arr 37 (.int .u32) (v28.set ((v12.getD v29.toNat (0 : Int)).toNat) (r4.2.getD v29.toNat (0 : Int))))] 5 0 [0 ≤ v35 ∧ v35 < ((r4.1.getD v29.toNat ([] : List Int)).length : Int), True, True] (by kernel_rfl) (by kernel_rfl) ⟨c308, trivial, trivial, trivial⟩ ?_
                  refine to_then ?_
                  obtain ⟨c320, h⟩ := h_guard h
                  obtain ⟨c321, h⟩ := h_guard h
                  obtain ⟨c322, h⟩ := h_guard h
                  obtain ⟨c323, h⟩ := h_guard h
                  obtain ⟨c324, h⟩ := h_guard h
                  obtain ⟨c325, h⟩ := h_guard h
                  obtain ⟨c326, h⟩ := h_guard h
                  obtain ⟨c327, h⟩ := h_guard h
                  obtain ⟨c328, h⟩ := h_guard h
                  obtain ⟨c329, h⟩ := h_guard h
                  obtain ⟨c330, h⟩ := h_guard h
                  refine W_regD tbok mixed ⟨[], []⟩ [.shut 3] [0, 1, 2, 3, 4] [(9, .adr 0 0 2 0), (11, .sl 1), (15, .adr 2 0 2 0), (16, .p false (.int .i64) v29), (95, .p false (.int .i64) (r4.1.length : Int)), (96, .p false (.int .i64) v29), (115, .p false (.slice (.int .i64)) (r4.1.getD v29.toNat ([] : List Int))), (116, .p false (.int .i64) ((r4.1.getD v29.toNat ([] : List Int)).length : Int)), (117, .p false (.int .i64) v35)] [(0, .box [.p false (.slice (.slice (.int .i64))) r4.1, .p false (.slice (.int .u32)) r4.2]), (1, .arr 3 (.int .i64) v12), (2, .box [.sl 3, .sl 4]), (3, .mat 23 3 (.int .i64) (v34.set ((v12.getD v29.toNat (0 : Int)).toNat) ((v34.getD ((v12.getD v29.toNat (0 : Int)).toNat) ([] : List Int)) ++ ([(v12.getD (((r4.1.getD v29.toNat ([] : List Int)).getD v35.toNat (0 : Int)).toNat) (0 : Int))] : List Int))) none), (4, .arr 37 (.int .u32) (v28.set ((v12.getD v29.toNat (0 : Int)).toNat) (r4.2.getD v29.toNat (0 : Int))))] 5 0 [True, True, True, True, 0 ≤ v29 ∧ v29 < (v12.length : Int), v29.toNat < v12.length, True, True, True, True, 0 ≤ v29 ∧ v29 < (v12.length : Int), v29.toNat < v12.length, 0 ≤ (v12.getD v29.toNat (0 : Int)) ∧ (v12.getD v29.toNat (0 : Int)) < (v34.length : Int), (v12.getD v29.toNat (0 : Int)).toNat < v34.length, True, True, 0 ≤ ((r4.1.getD v29.toNat ([] : List Int)).getD v35.toNat (0 : Int)) ∧ ((r4.1.getD v29.toNat ([] : List Int)).getD v35.toNat (0 : Int)) < (v12.length : Int), ((r4.1.getD v29.toNat ([] : List Int)).getD v35.toNat (0 : Int)).toNat < v12.length, True, ((v34.getD ((v12.getD v29.toNat (0 : Int)).toNat) ([] : List Int)).length + ([(v12.getD (((r4.1.getD v29.toNat ([] : List Int)).getD v35.toNat (0 : Int)).toNat) (0 : Int))] : List Int).length) * 8 ≤ 140737488355328 ∧ (v34.getD ((v12.getD v29.toNat (0 : Int)).toNat) ([] : List Int)).length + ([(v12.getD (((r4.1.getD v29.toNat ([] : List Int)).getD v35.toNat (0 : Int)).toNat) (0 : Int))] : List Int).length ≤ 9223372036854775807, 0 ≤ (v12.getD v29.toNat (0 : Int)) ∧ (v12.getD v29.toNat (0 : Int)) < (v34.length : Int), ((v12.getD v29.toNat (0 : Int)).toNat) = (v12.getD v29.toNat (0 : Int)).toNat ∧ (v12.getD v29.toNat (0 : Int)).toNat < v34.length] (by kernel_rfl) (by kernel_rfl) ⟨trivial, trivial, trivial, trivial, c320, c321, trivial, trivial, trivial, trivial, c322, c323, c324, c325, trivial, trivial, c326, c327, trivial, c328, c329, c330, trivial⟩ ?_
                  refine to_block ?_
                  refine to_then ?_
                  refine W_reg tbok ⟨[], []⟩ [] [0, 1, 2, 3, 4] [(9, .adr 0 0 2 0), (11, .sl 1), (15, .adr 2 0 2 0), (16, .p false (.int .i64) v29), (95, .p false (.int .i64) (r4.1.length : Int)), (96, .p false (.int .i64) v29), (115, .p false (.slice (.int .i64)) (r4.1.getD v29.toNat ([] : List Int))), (116, .p false (.int .i64) ((r4.1.getD v29.toNat ([] : List Int)).length : Int)), (117, .p false (.int .i64) (IntKind.i64.wrap (v35 + (1 : Int))))] [(0, .box [.p false (.slice (.slice (.int .i64))) r4.1, .p false (.slice (.int .u32)) r4.2]), (1, .arr 3 (.int .i64) v12), (2, .box [.sl 3, .sl 4]), (3, .mat 23 3 (.int .i64) (v34.set ((v12.getD v29.toNat (0 : Int)).toNat) ((v34.getD ((v12.getD v29.toNat (0 : Int)).toNat) ([] : List Int)) ++ ([(v12.getD (((r4.1.getD v29.toNat ([] : List Int)).getD v35.toNat (0 : Int)).toNat) (0 : Int))] : List Int))) none), (4, .arr 37 (.int .u32) (v28.set ((v12.getD v29.toNat (0 : Int)).toNat) (r4.2.getD v29.toNat (0 : Int))))] 5 0 [True, True] (by kernel_rfl) (by kernel_rfl) ⟨trivial, trivial, trivial⟩ ?_
                  obtain rfl := Option.some.inj h
                  exact roundB (goal_le (gs := []) (f := [0, 1, 2, 3, 4]) (by kernel_rfl) (by kernel_rfl))
                · replace h := h_else hb29 h
                  refine W_exit_to ?_
                  refine thenE ?_
                  obtain rfl := Option.some.inj h
                  refine roundE ?_
                  exact postX_to (goal_le (gs := []) (f := [0, 1, 2, 3, 4]) (by kernel_rfl) (by kernel_rfl))
              · clear hp8
                obtain ⟨rfl, hle⟩ := hq
                refine use_to ?_ hle
                refine blockE_eq ?_
                refine to_block ?_
                refine to_then ?_
                refine W_reg tbok ⟨[], []⟩ [] [0, 1, 2, 3, 4] [(9, .adr 0 0 2 0), (11, .sl 1), (15, .adr 2 0 2 0), (95, .p false (.int .i64) (r4.1.length : Int)), (96, .p false (.int .i64) (IntKind.i64.wrap (v29 + (1 : Int))))] [(0, .box [.p false (.slice (.slice (.int .i64))) r4.1, .p false (.slice (.int .u32)) r4.2]), (1, .arr 3 (.int .i64) v12), (2, .box [.sl 3, .sl 4]), (3, .mat 23 3 (.int .i64) v36 none), (4, .arr 37 (.int .u32) (v28.set ((v12.getD v29.toNat (0 : Int)).toNat) (r4.2.getD v29.toNat (0 : Int))))] 5 0 [True, True] (by kernel_rfl) (by kernel_rfl) ⟨trivial, trivial, trivial⟩ ?_
                obtain rfl := Option.some.inj h
                exact roundB (goal_le (gs := []) (f := [0, 1, 2, 3, 4]) (by kernel_rfl) (by kernel_rfl))
            · replace h := h_else hb26 h
              refine W_exit_to ?_
              refine thenE ?_
              obtain rfl := Option.some.inj h
              refine roundE ?_
              exact postX_to (goal_le (gs := []) (f := [0, 2, 3, 4]) (by kernel_rfl) (by kernel_rfl))
          · clear hp9
            obtain ⟨v30, v31⟩ := r5
            obtain ⟨rfl, hle⟩ := hq
            refine use_to ?_ hle
            refine blockE_eq ?_
            refine to_then ?_
            refine W_seq ?_
            obtain ⟨⟨r8, r9⟩, q6, h⟩ := h_bind h
            refine W_reg tbok ⟨[], [(1, ⟨.tup [.agg [.p false (.slice (.slice (.int .i64))) r8.1, .p false (.slice (.int .u32)) r8.2], .p false (.int .i64) r9], [false], false, [true], [], []⟩)]⟩ [] [1, 2, 3, 44] [(15, .adr 0 0 2 0), (19, .adr 3 0 2 0), (20, .p false (.int .i64) r9)] [(0, .box [.sl 1, .sl 2]), (1, .mat 23 3 (.int .i64) v30 none), (2, .arr 37 (.int .u32) v31), (3, .box [.p false (.slice (.slice (.int .i64))) r8.1, .p false (.slice (.int .u32)) r8.2])] 4 0 [True, Pure Try.prog 12 [.agg [.p false (.slice (.slice (.int .i64))) r4.1, .p false (.slice (.int .u32)) r4.2]] (.tup [.agg [.p false (.slice (.slice (.int .i64))) r8.1, .p false (.slice (.int .u32)) r8.2], .p false (.int .i64) r9]), True, True, True, True, True, True] (by kernel_rfl) (by kernel_rfl) ⟨trivial, (least_Make_ok false false r4.1 r4.2 _ q6), trivial, trivial, trivial, trivial, trivial, trivial, trivial⟩ ?_
            refine to_then ?_
            refine W_seq ?_
            obtain ⟨⟨r12, r13⟩, q8, h⟩ := h_bind h
            refine W_reg tbok ⟨[], [(1, ⟨.tup [.agg [.p false (.slice (.slice (.int .i64))) r12.1, .p false (.slice (.int .u32)) r12.2], .p false (.int .i64) r13], [true], false, [true], [], []⟩)]⟩ [] [3, 44] [(19, .adr 0 0 2 0), (20, .p false (.int .i64) r9), (21, .adr 1 0 2 0), (22, .p false (.int .i64) r13)] [(0, .box [.p false (.slice (.slice (.int .i64))) r8.1, .p false (.slice (.int .u32)) r8.2]), (1, .box [.p false (.slice (.slice (.int .i64))) r12.1, .p false (.slice (.int .u32)) r12.2])] 2 0 [True, Pure Try.prog 12 [.agg [.p false (.slice (.slice (.int .i64))) v30, .p false (.slice (.int .u32)) v31]] (.tup [.agg [.p false (.slice (.slice (.int .i64))) r12.1, .p false (.slice (.int .u32)) r12.2], .p false (.int .i64) r13]), True, True, True, True, True, True] (by kernel_rfl) (by kernel_rfl) ⟨trivial, (least_Make_ok false false v30 v31 _ q8), trivial, trivial, trivial, trivial, trivial, trivial, trivial⟩ ?_
            refine to_then ?_
            refine W_seq ?_
            refine W_seq ?_
            obtain ⟨v37, hp10, h⟩ := h_bind h
            refine W.mono (Q := (postN Try.f5.ntmps (fun (v37 : Bool) => mkSt [(19, .adr 0 0 2 0), (165, .p false .bool v37)] [(0, .box [.p false (.slice (.slice (.int .i64))) r8.1, .p false (.slice (.int .u32)) r8.2])] 1)) v37) ?_ (fun e σ' hq => ?_)
            · replace h := hp10
              clear hp10
              rcases Bool.eq_false_or_eq_true (r9 != (0 : Int)) with hb34 | hb34
              · replace h := h_if hb34 h
                refine W_reg tbok ⟨[(2, true), (5, true), (6, true), (11, true)], []⟩ [] [0] [(19, .adr 0 0 2 0), (165, .p false .bool true)] [(0, .box [.p false (.slice (.slice (.int .i64))) r8.1, .p false (.slice (.int .u32)) r8.2])] 1 0 [True, True, True, (r9 != (0 : Int)) = true, (r9 != (0 : Int)) = true, (r9 != (0 : Int)) = true, True, true = true, true = true, true = true, true = true, true = true] (by kernel_rfl) (by kernel_rfl) ⟨trivial, trivial, trivial, hb34, hb34, hb34, trivial, rfl, rfl, rfl, rfl, rfl, trivial⟩ ?_
                obtain rfl := Option.some.inj h
                exact postN_to (goal_le (gs := []) (f := [0]) (by kernel_rfl) (by kernel_rfl))
              · replace h := h_else hb34 h
                rcases Bool.eq_false_or_eq_true (r13 != (0 : Int)) with hb35 | hb35
                · replace h := h_if hb35 h
                  refine W_reg tbok ⟨[(2, false), (5, false), (6, true), (11, true)], []⟩ [] [0] [(19, .adr 0 0 2 0), (165, .p false .bool true)] [(0, .box [.p false (.slice (.slice (.int .i64))) r8.1, .p false (.slice (.int .u32)) r8.2])] 1 0 [True, True, True, (r9 != (0 : Int)) = false ∧ True, (r9 != (0 : Int)) = false ∧ True, (r9 != (0 : Int)) = false, True, (r13 != (0 : Int)) = true, (r13 != (0 : Int)) = true, (r13 != (0 : Int)) = true, (r13 != (0 : Int)) = true, (r13 != (0 : Int)) = true] (by kernel_rfl) (by kernel_rfl) ⟨trivial, trivial, trivial, ⟨hb34, trivial⟩, ⟨hb34, trivial⟩, hb34, trivial, hb35, hb35, hb35, hb35, hb35, trivial⟩ ?_
                  obtain rfl := Option.some.inj h
                  exact postN_to (goal_le (gs := []) (f := [0]) (by kernel_rfl) (by kernel_rfl))
                · replace h := h_else hb35 h
                  obtain ⟨r16, q11, h⟩ := h_bind h
                  refine W_reg tbok ⟨[(2, false), (5, false), (6, false), (11, false)], [(9, ⟨.p false .bool r16, [false, false], false, [true, true], [], []⟩)]⟩ [] [0] [(19, .adr 0 0 2 0), (165, .p false .bool (!r16))] [(0, .box [.p false (.slice (.slice (.int .i64))) r8.1, .p false (.slice (.int .u32)) r8.2])] 1 0 [True, True, True, (r9 != (0 : Int)) = false ∧ True, (r9 != (0 : Int)) = false ∧ True, (r9 != (0 : Int)) = false, True, (r13 != (0 : Int)) = false ∧ True, (r13 != (0 : Int)) = false ∧ True, (r13 != (0 : Int)) = false ∧ Pure Try.prog 13 [.agg [.p false (.slice (.slice (.int .i64))) r8.1, .p false (.slice (.int .u32)) r8.2], .agg [.p false (.slice (.slice (.int .i64))) r12.1, .p false (.slice (.int .u32)) r12.2]] (.p false .bool r16), (r13 != (0 : Int)) = false ∧ True, (r13 != (0 : Int)) = false] (by kernel_rfl) (by kernel_rfl) ⟨trivial, trivial, trivial, ⟨hb34, trivial⟩, ⟨hb34, trivial⟩, hb34, trivial, ⟨hb35, trivial⟩, ⟨hb35, trivial⟩, ⟨hb35, (stanzaref04_SameAuto_ok false false false false r8.1 r8.2 r12.1 r12.2 _ q11)⟩, ⟨hb35, trivial⟩, hb35, trivial⟩ ?_
                  obtain rfl := Option.some.inj h
                  exact postN_to (goal_le (gs := []) (f := [0]) (by kernel_rfl) (by kernel_rfl))
            · clear hp10
              obtain ⟨rfl, hle⟩ := hq
              refine use_to ?_ hle
              refine to_then ?_
              refine W_cond (b := v37) (β := false) (by kernel_rfl) (fun hb36 => ?_) (fun hb36 => ?_)
              · replace h := h_if hb36 h
                refine W_seq ?_
                refine W_reg tbok ⟨[], []⟩ [] [] [(8, .p false .bool false)] [] 0 0 [True] (by kernel_rfl) (by kernel_rfl) ⟨trivial, trivial⟩ ?_
                refine to_then ?_
                refine W_ret ?_
                refine thenQ_ret ?_
                obtain rfl := Option.some.inj h
                exact Ret_intro [.bool] (by kernel_rfl)
              · replace h := h_else hb36 h
                refine W_skip_to ?_
                refine to_then ?_
                refine W_seq ?_
                refine W_reg tbok ⟨[], []⟩ [] [0, 1] [(19, .adr 0 0 2 0), (23, .sl 1)] [(0, .box [.p false (.slice (.slice (.int .i64))) r8.1, .p false (.slice (.int .u32)) r8.2]), (1, .arr 3 (.int .i64) ([(0 : Int)] : List Int))] 2 0 [True, True] (by kernel_rfl) (by kernel_rfl) ⟨trivial, trivial, trivial⟩ ?_
                refine to_then ?_
                refine W_seq ?_
                refine W_seq ?_
                refine W_reg tbok ⟨[], []⟩ [] [0, 1] [(19, .adr 0 0 2 0), (23, .sl 1), (24, .p false (.int .i64) (0 : Int))] [(0, .box [.p false (.slice (.slice (.int .i64))) r8.1, .p false (.slice (.int .u32)) r8.2]), (1, .arr 3 (.int .i64) ([(0 : Int)] : List Int))] 2 0 [True] (by kernel_rfl) (by kernel_rfl) ⟨trivial, trivial⟩ ?_
                refine to_then ?_
                refine W_block ?_
                obtain ⟨r42, hp50, h⟩ := h_bind h
                refine W.mono (Q := (postS (postX Try.f5.ntmps 8 (fun (v100 : List Int) => mkSt [(19, .adr 0 0 2 0), (23, .sl 1)] [(0, .box [.p false (.slice (.slice (.int .i64))) r8.1, .p false (.slice (.int .u32)) r8.2]), (1, .arr 3 (.int .i64) v100)] 2)) (postR tb Try.f5.results.toList (fun (r33 : Bool) => [⟨.bool, r33⟩]))) r42) (W_iter (f := fun ((v98, v99) : (List Int) × Int) => mkSt [(19, .adr 0 0 2 0), (23, .sl 1), (24, .p false (.int .i64) v99)] [(0, .box [.p false (.slice (.slice (.int .i64))) r8.1, .p false (.slice (.int .u32)) r8.2]), (1, .arr 3 (.int .i64) v98)] 2) (Q := (postS (postX Try.f5.ntmps 8 (fun (v100 : List Int) => mkSt [(19, .adr 0 0 2 0), (23, .sl 1)] [(0, .box [.p false (.slice (.slice (.int .i64))) r8.1, .p false (.slice (.int .u32)) r8.2]), (1, .arr 3 (.int .i64) v100)] 2)) (postR tb Try.f5.results.toList (fun (r33 : Bool) => [⟨.bool, r33⟩])))) hp50 (goal_le (gs := []) (f := [0, 1]) (by kernel_rfl) (by kernel_rfl)) (fun y o ho => ?_)) (fun e σ' hq => ?_)
                · obtain ⟨v98, v99⟩ := y
                  replace h := ho
                  clear ho hp50
                  unfold stanzalaw05_LeastNumbers_L7 at h
                  refine W_seq ?_
                  refine W_seq ?_
                  refine W_reg tbok ⟨[], []⟩ [] [0, 1] [(19, .adr 0 0 2 0), (23, .sl 1), (24, .p false (.int .i64) v99), (170, .p false .bool (decide (v99 < (v98.length : Int))))] [(0, .box [.p false (.slice (.slice (.int .i64))) r8.1, .p false (.slice (.int .u32)) r8.2]), (1, .arr 3 (.int .i64) v98)] 2 0 [True, True, True, True] (by kernel_rfl) (by kernel_rfl) ⟨trivial, trivial, trivial, trivial, trivial⟩ ?_
                  refine to_then ?_
                  refine W_cond (b := (decide (v99 < (v98.length : Int)))) (β := false) (by kernel_rfl) (fun hb123 => ?_) (fun hb123 => ?_)
                  · replace h := h_if hb123 h
                    refine W_skip_to ?_
                    refine to_then ?_
                    refine W_seq ?_
                    refine W_block ?_
                    refine W_seq ?_
                    obtain ⟨c454, h⟩ := h_guard h
                    obtain ⟨c455, h⟩ := h_guard h
                    obtain ⟨c456, h⟩ := h_guard h
                    refine W_regD tbok mixed ⟨[], []⟩ [] [0, 1] [(19, .adr 0 0 2 0), (23, .sl 1), (24, .p false (.int .i64) v99), (25, .p false (.slice (.int .i64)) (r8.1.getD ((v98.getD v99.toNat (0 : Int)).toNat) ([] : List Int)))] [(0, .box [.p false (.slice (.slice (.int .i64))) r8.1, .p false (.slice (.int .u32)) r8.2]), (1, .arr 3 (.int .i64) v98)] 2 0 [True, True, True, True, 0 ≤ v99 ∧ v99 < (v98.length : Int), v99.toNat < v98.length, 0 ≤ (v98.getD v99.toNat (0 : Int)) ∧ (v98.getD v99.toNat (0 : Int)) < (r8.1.length : Int), True, True] (by kernel_rfl) (by kernel_rfl) ⟨trivial, trivial, trivial, trivial, c454, c455, c456, trivial, trivial, trivial⟩ ?_
                    refine to_then ?_
                    refine W_seq ?_
                    refine W_reg tbok ⟨[], []⟩ [] [0, 1] [(19, .adr 0 0 2 0), (23, .sl 1), (24, .p false (.int .i64) v99), (181, .p false (.slice (.int .i64)) (r8.1.getD ((v98.getD v99.toNat (0 : Int)).toNat) ([] : List Int))), (182, .p false (.int .i64) ((r8.1.getD ((v98.getD v99.toNat (0 : Int)).toNat) ([] : List Int)).length : Int)), (183, .p false (.int .i64) (0 : Int))] [(0, .box [.p false (.slice (.slice (.int .i64))) r8.1, .p false (.slice (.int .u32)) r8.2]), (1, .arr 3 (.int .i64) v98)] 2 0 [True, True, True] (by kernel_rfl) (by kernel_rfl) ⟨trivial, trivial, trivial, trivial⟩ ?_
                    refine to_then ?_
                    refine W_block ?_
                    obtain ⟨r41, hp49, h⟩ := h_bind h
                    refine W.mono (Q := (postS (postX Try.f5.ntmps 10 (fun (v121 : List Int) => mkSt [(19, .adr 0 0 2 0), (23, .sl 1), (24, .p false (.int .i64) v99)] [(0, .box [.p false (.slice (.slice (.int .i64))) r8.1, .p false (.slice (.int .u32)) r8.2]), (1, .arr 3 (.int .i64) v121)] 2)) (postR tb Try.f5.results.toList (fun (r38 : Bool) => [⟨.bool, r38⟩]))) r41) (W_iter (f := fun ((v119, v120) : (List Int) × Int) => mkSt [(19, .adr 0 0 2 0), (23, .sl 1), (24, .p false (.int .i64) v99), (181, .p false (.slice (.int .i64)) (r8.1.getD ((v98.getD v99.toNat (0 : Int)).toNat) ([] : List Int))), (182, .p false (.int .i64) ((r8.1.getD ((v98.getD v99.toNat (0 : Int)).toNat) ([] : List Int)).length : Int)), (183, .p false (.int .i64) v120)] [(0, .box [.p false (.slice (.slice (.int .i64))) r8.1, .p false (.slice (.int .u32)) r8.2]), (1, .arr 3 (.int .i64) v119)] 2) (Q := (postS (postX Try.f5.ntmps 10 (fun (v121 : List Int) => mkSt [(19, .adr 0 0 2 0), (23, .sl 1), (24, .p false (.int .i64) v99)] [(0, .box [.p false (.slice (.slice (.int .i64))) r8.1, .p false (.slice (.int .u32)) r8.2]), (1, .arr 3 (.int .i64) v121)] 2)) (postR tb Try.f5.results.toList (fun (r38 : Bool) => [⟨.bool, r38⟩])))) hp49 (goal_le (gs := []) (f := [0, 1]) (by kernel_rfl) (by kernel_rfl)) (fun y o ho => ?_)) (fun e σ' hq => ?_)
                    · obtain ⟨v119, v120⟩ := y
                      replace h := ho
                      clear ho hp49
                      unfold stanzalaw05_LeastNumbers_L6 at h
                      refine W_seq ?_
                      refine W_reg tbok ⟨[], []⟩ [] [0, 1] [(19, .adr 0 0 2 0), (23, .sl 1), (24, .p false (.int .i64) v99), (181, .p false (.slice (.int .i64)) (r8.1.getD ((v98.getD v99.toNat (0 : Int)).toNat) ([] : List Int))), (182, .p false (.int .i64) ((r8.1.getD ((v98.getD v99.toNat (0 : Int)).toNat) ([] : List Int)).length : Int)), (183, .p false (.int .i64) v120), (184, .p false .bool (decide (v120 < ((r8.1.getD ((v98.getD v99.toNat (0 : Int)).toNat) ([] : List Int)).length : Int))))] [(0, .box [.p false (.slice (.slice (.int .i64))) r8.1, .p false (.slice (.int .u32)) r8.2]), (1, .arr 3 (.int .i64) v119)] 2 0 [True] (by kernel_rfl) (by kernel_rfl) ⟨trivial, trivial⟩ ?_
                      refine to_then ?_
                      refine W_seq ?_
                      refine W_cond (b := (decide (v120 < ((r8.1.getD ((v98.getD v99.toNat (0 : Int)).toNat) ([] : List Int)).length : Int)))) (β := false) (by kernel_rfl) (fun hb152 => ?_) (fun hb152 => ?_)
                      · replace h := h_if hb152 h
                        refine W_skip_to ?_
                        refine to_then ?_
                        refine W_seq ?_
                        refine W_block ?_
                        refine W_seq ?_
                        obtain ⟨c494, h⟩ := h_guard h
                        refine W_reg tbok ⟨[], []⟩ [] [0, 1] [(19, .adr 0 0 2 0), (23, .sl 1), (24, .p false (.int .i64) v99), (27, .p false (.int .i64) ((r8.1.getD ((v98.getD v99.toNat (0 : Int)).toNat) ([] : List Int)).getD v120.toNat (0 : Int))), (181, .p false (.slice (.int .i64)) (r8.1.getD ((v98.getD v99.toNat (0 : Int)).toNat) ([] : List Int))), (182, .p false (.int .i64) ((r8.1.getD ((v98.getD v99.toNat (0 : Int)).toNat) ([] : List Int)).length : Int)), (183, .p false (.int .i64) v120)] [(0, .box [.p false (.slice (.slice (.int .i64))) r8.1, .p false (.slice (.int .u32)) r8.2]), (1, .arr 3 (.int .i64) v119)] 2 0 [0 ≤ v120 ∧ v120 < ((r8.1.getD ((v98.getD v99.toNat (0 : Int)).toNat) ([] : List Int)).length : Int), True, True] (by kernel_rfl) (by kernel_rfl) ⟨c494, trivial, trivial, trivial⟩ ?_
                        refine to_then ?_
                        refine W_seq ?_
                        refine W_reg tbok ⟨[], []⟩ [] [0, 1] [(19, .adr 0 0 2 0), (23, .sl 1), (24, .p false (.int .i64) v99), (27, .p false (.int .i64) ((r8.1.getD ((v98.getD v99.toNat (0 : Int)).toNat) ([] : List Int)).getD v120.toNat (0 : Int))), (28, .p false .bool false), (181, .p false (.slice (.int .i64)) (r8.1.getD ((v98.getD v99.toNat (0 : Int)).toNat) ([] : List Int))), (182, .p false (.int .i64) ((r8.1.getD ((v98.getD v99.toNat (0 : Int)).toNat) ([] : List Int)).length : Int)), (183, .p false (.int .i64) v120)] [(0, .box [.p false (.slice (.slice (.int .i64))) r8.1, .p false (.slice (.int .u32)) r8.2]), (1, .arr 3 (.int .i64) v119)] 2 0 [True] (by kernel_rfl) (by kernel_rfl) ⟨trivial, trivial⟩ ?_
                        refine to_then ?_
                        refine W_seq ?_
                        refine W_seq ?_
                        refine W_reg tbok ⟨[], []⟩ [] [0, 1] [(19, .adr 0 0 2 0), (23, .sl 1), (24, .p false (.int .i64) v99), (27, .p false (.int .i64) ((r8.1.getD ((v98.getD v99.toNat (0 : Int)).toNat) ([] : List Int)).getD v120.toNat (0 : Int))), (28, .p false .bool false), (181, .p false (.slice (.int .i64)) (r8.1.getD ((v98.getD v99.toNat (0 : Int)).toNat) ([] : List Int))), (182, .p false (.int .i64) ((r8.1.getD ((v98.getD v99.toNat (0 : Int)).toNat) ([] : List Int)).length : Int)), (183, .p false (.int .i64) v120), (187, .sl 1), (188, .p false (.int .i64) (v119.length : Int)), (189, .p false (.int .i64) (0 : Int))] [(0, .box [.p false (.slice (.slice (.int .i64))) r8.1, .p false (.slice (.int .u32)) r8.2]), (1, .arr 3 (.int .i64) v119)] 2 0 [True, True, True] (by kernel_rfl) (by kernel_rfl) ⟨trivial, trivial, trivial, trivial⟩ ?_
                        refine to_then ?_
                        refine W_block ?_
                        obtain ⟨v127, hp47, h⟩ := h_bind h
                        refine W.mono (Q := (postX Try.f5.ntmps 12 (fun (v127 : Bool) => mkSt [(19, .adr 0 0 2 0), (23, .sl 1), (24, .p false (.int .i64) v99), (27, .p false (.int .i64) ((r8.1.getD ((v98.getD v99.toNat (0 : Int)).toNat) ([] : List Int)).getD v120.toNat (0 : Int))), (28, .p false .bool v127), (181, .p false (.slice (.int .i64)) (r8.1.getD ((v98.getD v99.toNat (0 : Int)).toNat) ([] : List Int))), (182, .p false (.int .i64) ((r8.1.getD ((v98.getD v99.toNat (0 : Int)).toNat) ([] : List Int)).length : Int)), (183, .p false (.int .i64) v120)] [(0, .box [.p false (.slice (.slice (.int .i64))) r8.1, .p false (.slice (.int .u32)) r8.2]), (1, .arr 3 (.int .i64) v119)] 2)) v127) (W_iter (f := fun ((v125, v126) : Bool × Int) => mkSt [(19, .adr 0 0 2 0), (23, .sl 1), (24, .p false (.int .i64) v99), (27, .p false (.int .i64) ((r8.1.getD ((v98.getD v99.toNat (0 : Int)).toNat) ([] : List Int)).getD v120.toNat (0 : Int))), (28, .p false .bool v125), (181, .p false (.slice (.int .i64)) (r8.1.getD ((v98.getD v99.toNat (0 : Int)).toNat) ([] : List Int))), (182, .p false (.int .i64) ((r8.1.getD ((v98.getD v99.toNat (0 : Int)).toNat) ([] : List Int)).length : Int)), (183, .p false (.int .i64) v120), (187, .sl 1), (188, .p false (.int .i64) (v119.length : Int)), (189, .p false (.int .i64) v126)] [(0, .box [.p false (.slice (.slice (.int .i64))) r8.1, .p false (.slice (.int .u32)) r8.2]), (1, .arr 3 (.int .i64) v119)] 2) (Q := (postX Try.f5.ntmps 12 (fun (v127 : Bool) => mkSt [(19, .adr 0 0 2 0), (23, .sl 1), (24, .p false (.int .i64) v99), (27, .p false (.int .i64) ((r8.1.getD ((v98.getD v99.toNat (0 : Int)).toNat) ([] : List Int)).getD v120.toNat (0 : Int))), (28, .p false .bool v127), (181, .p false (.slice (.int .i64)) (r8.1.getD ((v98.getD v99.toNat (0 : Int)).toNat) ([] : List Int))), (182, .p false (.int .i64) ((r8.1.getD ((v98.getD v99.toNat (0 : Int)).toNat) ([] : List Int)).length : Int)), (183, .p false (.int .i64) v120)] [(0, .box [.p false (.slice (.slice (.int .i64))) r8.1, .p false (.slice (.int .u32)) r8.2]), (1, .arr 3 (.int .i64) v119)] 2))) hp47 (goal_le (gs := []) (f := [0, 1]) (by kernel_rfl) (by kernel_rfl)) (fun y o ho => ?_)) (fun e σ' hq => ?_)
                        · obtain ⟨v125, v126⟩ := y
                          replace h := ho
                          clear ho hp47
                          unfold stanzalaw05_LeastNumbers_L5 at h
                          refine W_seq ?_
                          refine W_reg tbok ⟨[], []⟩ [] [0, 1] [(19, .adr 0 0 2 0), (23, .sl 1), (24, .p false (.int .i64) v99), (27, .p false (.int .i64) ((r8.1.getD ((v98.getD v99.toNat (0 : Int)).toNat) ([] : List Int)).getD v120.toNat (0 : Int))), (28, .p false .bool v125), (181, .p false (.slice (.int .i64)) (r8.1.getD ((v98.getD v99.toNat (0 : Int)).toNat) ([] : List Int))), (182, .p false (.int .i64) ((r8.1.getD ((v98.getD v99.toNat (0 : Int)).toNat) ([] : List Int)).length : Int)), (183, .p false (.int .i64) v120), (187, .sl 1), (188, .p false (.int .i64) (v119.length : Int)), (189, .p false (.int .i64) v126), (190, .p false .bool (decide (v126 < (v119.length : Int))))] [(0, .box [.p false (.slice (.slice (.int .i64))) r8.1, .p false (.slice (.int .u32)) r8.2]), (1, .arr 3 (.int .i64) v119)] 2 0 [True] (by kernel_rfl) (by kernel_rfl) ⟨trivial, trivial⟩ ?_
                          refine to_then ?_
                          refine W_seq ?_
                          refine W_cond (b := (decide (v126 < (v119.length : Int)))) (β := false) (by kernel_rfl) (fun hb158 => ?_) (fun hb158 => ?_)
                          · replace h := h_if hb158 h
                            refine W_skip_to ?_
                            refine to_then ?_
                            refine W_seq ?_
                            refine W_block ?_
                            refine W_seq ?_
                            obtain ⟨c505, h⟩ := h_guard h
                            obtain ⟨c506, h⟩ := h_guard h
                            refine W_reg tbok ⟨[], []⟩ [] [0, 1] [(19, .adr 0 0 2 0), (23, .sl 1), (24, .p false (.int .i64) v99), (27, .p false (.int .i64) ((r8.1.getD ((v98.getD v99.toNat (0 : Int)).toNat) ([] : List Int)).getD v120.toNat (0 : Int))), (28, .p false .bool v125), (30, .p false (.int .i64) (v119.getD v126.toNat (0 : Int))), (181, .p false (.slice (.int .i64)) (r8.1.getD ((v98.getD v99.toNat (0 : Int)).toNat) ([] : List Int))), (182, .p false (.int .i64) ((r8.1.getD ((v98.getD v99.toNat (0 : Int)).toNat) ([] : List Int)).length : Int)), (183, .p false (.int .i64) v120), (187, .sl 1), (188, .p false (.int .i64) (v119.length : Int)), (189, .p false (.int .i64) v126)] [(0, .box [.p false (.slice (.slice (.int .i64))) r8.1, .p false (.slice (.int .u32)) r8.2]), (1, .arr 3 (.int .i64) v119)] 2 0 [0 ≤ v126 ∧ v126 < (v119.length : Int), v126.toNat < v119.length, True] (by kernel_rfl) (by kernel_rfl) ⟨c505, c506, trivial, trivial⟩ ?_
                            refine to_then ?_
                            obtain ⟨v128, hp46, h⟩ := h_bind h
                            refine W.mono (Q := (postN Try.f5.ntmps (fun (v128 : Bool) => mkSt [(19, .adr 0 0 2 0), (23, .sl 1), (24, .p false (.int .i64) v99), (27, .p false (.int .i64) ((r8.1.getD ((v98.getD v99.toNat (0 : Int)).toNat) ([] : List Int)).getD v120.toNat (0 : Int))), (28, .p false .bool v128), (181, .p false (.slice (.int .i64)) (r8.1.getD ((v98.getD v99.toNat (0 : Int)).toNat) ([] : List Int))), (182, .p false (.int .i64) ((r8.1.getD ((v98.getD v99.toNat (0 : Int)).toNat) ([] : List Int)).length : Int)), (183, .p false (.int .i64) v120), (187, .sl 1), (188, .p false (.int .i64) (v119.length : Int)), (189, .p false (.int .i64) v126)] [(0, .box [.p false (.slice (.slice (.int .i64))) r8.1, .p false (.slice (.int .u32)) r8.2]), (1, .arr 3 (.int .i64) v119)] 2)) v128) ?_ (fun e σ' hq => ?_)
                            · replace h := hp46
                              clear hp46
                              rcases Bool.eq_false_or_eq_true v125 with hb161 | hb161
                              · replace h := h_if hb161 h
                                refine W_reg tbok ⟨[(1, true), (5, true)], []⟩ [] [0, 1] [(19, .adr 0 0 2 0), (23, .sl 1), (24, .p false (.int .i64) v99), (27, .p false (.int .i64) ((r8.1.getD ((v98.getD v99.toNat (0 : Int)).toNat) ([] : List Int)).getD v120.toNat (0 : Int))), (28, .p false .bool true), (181, .p false (.slice (.int .i64)) (r8.1.getD ((v98.getD v99.toNat (0 : Int)).toNat) ([] : List Int))), (182, .p false (.int .i64) ((r8.1.getD ((v98.getD v99.toNat (0 : Int)).toNat) ([] : List Int)).length : Int)), (183, .p false (.int .i64) v120), (187, .sl 1), (188, .p false (.int .i64) (v119.length : Int)), (189, .p false (.int .i64) v126)] [(0, .box [.p false (.slice (.slice (.int .i64))) r8.1, .p false (.slice (.int .u32)) r8.2]), (1, .arr 3 (.int .i64) v119)] 2 0 [True, True, v125 = true, v125 = true, v125 = true, v125 = true, True] (by kernel_rfl) (by kernel_rfl) ⟨trivial, trivial, hb161, hb161, hb161, hb161, trivial, trivial⟩ ?_
                                obtain rfl := Option.some.inj h
                                exact postN_to (goal_le (gs := []) (f := [0, 1]) (by kernel_rfl) (by kernel_rfl))
                              · replace h := h_else hb161 h
                                refine W_reg tbok ⟨[(1, false), (5, false)], []⟩ [] [0, 1] [(19, .adr 0 0 2 0), (23, .sl 1), (24, .p false (.int .i64) v99), (27, .p false (.int .i64) ((r8.1.getD ((v98.getD v99.toNat (0 : Int)).toNat) ([] : List Int)).getD v120.toNat (0 : Int))), (28, .p false .bool ((v119.getD v126.toNat (0 : Int)) == ((r8.1.getD ((v98.getD v99.toNat (0 : Int)).toNat) ([] : List Int)).getD v120.toNat (0 : Int)))), (181, .p false (.slice (.int .i64)) (r8.1.getD ((v98.getD v99.toNat (0 : Int)).toNat) ([] : List Int))), (182, .p false (.int .i64) ((r8.1.getD ((v98.getD v99.toNat (0 : Int)).toNat) ([] : List Int)).length : Int)), (183, .p false (.int .i64) v120), (187, .sl 1), (188, .p false (.int .i64) (v119.length : Int)), (189, .p false (.int .i64) v126)] [(0, .box [.p false (.slice (.slice (.int .i64))) r8.1, .p false (.slice (.int .u32)) r8.2]), (1, .arr 3 (.int .i64) v119)] 2 0 [True, True, v125 = false ∧ True, v125 = false ∧ True, v125 = false ∧ True, v125 = false, True] (by kernel_rfl) (by kernel_rfl) ⟨trivial, trivial, ⟨hb161, trivial⟩, ⟨hb161, trivial⟩, ⟨hb161, trivial⟩, hb161, trivial, trivial⟩ ?_
                                obtain rfl := Option.some.inj h
                                exact postN_to (goal_le (gs := []) (f := [0, 1]) (by kernel_rfl) (by kernel_rfl))
                            · clear hp46
                              obtain ⟨rfl, hle⟩ := hq
                              refine use_to ?_ hle
                              refine to_block ?_
                              refine to_then ?_
                              refine W_reg tbok ⟨[], []⟩ [] [0, 1] [(19, .adr 0 0 2 0), (23, .sl 1), (24, .p false (.int .i64) v99), (27, .p false (.int .i64) ((r8.1.getD ((v98.getD v99.toNat (0 : Int)).toNat) ([] : List Int)).getD v120.toNat (0 : Int))), (28, .p false .bool v128), (181, .p false (.slice (.int .i64)) (r8.1.getD ((v98.getD v99.toNat (0 : Int)).toNat) ([] : List Int))), (182, .p false (.int .i64) ((r8.1.getD ((v98.getD v99.toNat (0 : Int)).toNat) ([] : List Int)).length : Int)), (183, .p false (.int .i64) v120), (187, .sl 1), (188, .p false (.int .i64) (v119.length : Int)), (189, .p false (.int .i64) (IntKind.i64.wrap (v126 + (1 : Int))))] [(0, .box [.p false (.slice (.slice (.int .i64))) r8.1, .p false (.slice (.int .u32)) r8.2]), (1, .arr 3 (.int .i64) v119)] 2 0 [True, True] (by kernel_rfl) (by kernel_rfl) ⟨trivial, trivial, trivial⟩ ?_
                              obtain rfl := Option.some.inj h
                              exact roundB (goal_le (gs := []) (f := [0, 1]) (by kernel_rfl) (by kernel_rfl))
                          · replace h := h_else hb158 h
                            refine W_exit_to ?_
                            refine thenE ?_
                            obtain rfl := Option.some.inj h
                            refine roundE ?_
                            exact postX_to (goal_le (gs := []) (f := [0, 1]) (by kernel_rfl) (by kernel_rfl))
                        · clear hp47
                          obtain ⟨rfl, hle⟩ := hq
                          refine use_to ?_ hle
                          refine blockE_eq ?_
                          refine to_then ?_
                          refine W_seq ?_
                          refine W_reg tbok ⟨[], []⟩ [] [0, 1] [(19, .adr 0 0 2 0), (23, .sl 1), (24, .p false (.int .i64) v99), (27, .p false (.int .i64) ((r8.1.getD ((v98.getD v99.toNat (0 : Int)).toNat) ([] : List Int)).getD v120.toNat (0 : Int))), (181, .p false (.slice (.int .i64)) (r8.1.getD ((v98.getD v99.toNat (0 : Int)).toNat) ([] : List Int))), (182, .p false (.int .i64) ((r8.1.getD ((v98.getD v99.toNat (0 : Int)).toNat) ([] : List Int)).length : Int)), (183, .p false (.int .i64) v120), (201, .p false .bool (!v127))] [(0, .box [.p false (.slice (.slice (.int .i64))) r8.1, .p false (.slice (.int .u32)) r8.2]), (1, .arr 3 (.int .i64) v119)] 2 0 [True, True] (by kernel_rfl) (by kernel_rfl) ⟨trivial, trivial, trivial⟩ ?_
                          refine to_then ?_
                          obtain ⟨r40, hp48, h⟩ := h_bind h
                          refine W.mono (Q := (postS (postN Try.f5.ntmps (fun (v129 : List Int) => mkSt [(19, .adr 0 0 2 0), (23, .sl 1), (24, .p false (.int .i64) v99), (181, .p false (.slice (.int .i64)) (r8.1.getD ((v98.getD v99.toNat (0 : Int)).toNat) ([] : List Int))), (182, .p false (.int .i64) ((r8.1.getD ((v98.getD v99.toNat (0 : Int)).toNat) ([] : List Int)).length : Int)), (183, .p false (.int .i64) v120)] [(0, .box [.p false (.slice (.slice (.int .i64))) r8.1, .p false (.slice (.int .u32)) r8.2]), (1, .arr 3 (.int .i64) v129)] 2)) (postR tb Try.f5.results.toList (fun (r39 : Bool) => [⟨.bool, r39⟩]))) r40) ?_ (fun e σ' hq => ?_)
                          · replace h := hp48
                            clear hp48
                            refine W_cond (b := (!v127)) (β := false) (by kernel_rfl) (fun hb164 => ?_) (fun hb164 => ?_)
                            · replace h := h_if hb164 h
                              refine W_seq ?_
                              refine W_seq ?_
                              refine W_reg tbok ⟨[], []⟩ [] [0, 1] [(19, .adr 0 0 2 0), (23, .sl 1), (24, .p false (.int .i64) v99), (27, .p false (.int .i64) ((r8.1.getD ((v98.getD v99.toNat (0 : Int)).toNat) ([] : List Int)).getD v120.toNat (0 : Int))), (181, .p false (.slice (.int .i64)) (r8.1.getD ((v98.getD v99.toNat (0 : Int)).toNat) ([] : List Int))), (182, .p false (.int .i64) ((r8.1.getD ((v98.getD v99.toNat (0 : Int)).toNat) ([] : List Int)).length : Int)), (183, .p false (.int .i64) v120), (205, .p false .bool (((r8.1.getD ((v98.getD v99.toNat (0 : Int)).toNat) ([] : List Int)).getD v120.toNat (0 : Int)) != (v119.length : Int)))] [(0, .box [.p false (.slice (.slice (.int .i64))) r8.1, .p false (.slice (.int .u32)) r8.2]), (1, .arr 3 (.int .i64) v119)] 2 0 [True, True, True, True] (by kernel_rfl) (by kernel_rfl) ⟨trivial, trivial, trivial, trivial, trivial⟩ ?_
                              refine to_then ?_
                              refine W_cond (b := (((r8.1.getD ((v98.getD v99.toNat (0 : Int)).toNat) ([] : List Int)).getD v120.toNat (0 : Int)) != (v119.length : Int))) (β := false) (by kernel_rfl) (fun hb165 => ?_) (fun hb165 => ?_)
                              · replace h := h_if hb165 h
                                refine W_seq ?_
                                refine W_reg tbok ⟨[], []⟩ [] [] [(8, .p false .bool false)] [] 0 0 [True] (by kernel_rfl) (by kernel_rfl) ⟨trivial, trivial⟩ ?_
                                refine to_then ?_
                                refine W_ret ?_
                                obtain rfl := Option.some.inj h
                                refine thenQ_ret ?_
                                refine postS_rr ?_
                                exact postR_mk (Ret_intro [.bool] (by kernel_rfl))
                              · replace h := h_else hb165 h
                                refine W_skip_to ?_
                                refine to_then ?_
                                obtain ⟨c510, h⟩ := h_guard h
                                refine W_reg tbok ⟨[], []⟩ [] [0, 26] [(19, .adr 0 0 2 0), (23, .sl 1), (24, .p false (.int .i64) v99), (181, .p false (.slice (.int .i64)) (r8.1.getD ((v98.getD v99.toNat (0 : Int)).toNat) ([] : List Int))), (182, .p false (.int .i64) ((r8.1.getD ((v98.getD v99.toNat (0 : Int)).toNat) ([] : List Int)).length : Int)), (183, .p false (.int .i64) v120)] [(0, .box [.p false (.slice (.slice (.int .i64))) r8.1, .p false (.slice (.int .u32)) r8.2]), (1, .arr 3 (.int .i64) (v119 ++ ([((r8.1.getD ((v98.getD v99.toNat (0 : Int)).toNat) ([] : List Int)).getD v120.toNat (0 : Int))] : List Int)))] 2 0 [True, True, True, (v119.length + ([((r8.1.getD ((v98.getD v99.toNat (0 : Int)).toNat) ([] : List Int)).getD v120.toNat (0 : Int))] : List Int).length) * 8 ≤ 140737488355328 ∧ v119.length + ([((r8.1.getD ((v98.getD v99.toNat (0 : Int)).toNat) ([] : List Int)).getD v120.toNat (0 : Int))] : List Int).length ≤ 9223372036854775807, True] (by kernel_rfl) (by kernel_rfl) ⟨trivial, trivial, trivial, c510, trivial, trivial⟩ ?_
                                obtain rfl := Option.some.inj h
                                refine postS_l ?_
                                exact postN_to (goal_le (gs := []) (f := [0, 1]) (by kernel_rfl) (by kernel_rfl))
                            · replace h := h_else hb164 h
                              refine W_skip_to ?_
                              obtain rfl := Option.some.inj h
                              refine postS_l ?_
                              exact postN_to (goal_le (gs := []) (f := [0, 1]) (by kernel_rfl) (by kernel_rfl))
                          · clear hp48
                            rcases r40 with v129 | r39
                            · obtain ⟨rfl, hle⟩ := hq
                              refine use_to ?_ hle
                              refine to_block ?_
                              refine to_then ?_
                              refine W_reg tbok ⟨[], []⟩ [] [0, 1] [(19, .adr 0 0 2 0), (23, .sl 1), (24, .p false (.int .i64) v99), (181, .p false (.slice (.int .i64)) (r8.1.getD ((v98.getD v99.toNat (0 : Int)).toNat) ([] : List Int))), (182, .p false (.int .i64) ((r8.1.getD ((v98.getD v99.toNat (0 : Int)).toNat) ([] : List Int)).length : Int)), (183, .p false (.int .i64) (IntKind.i64.wrap (v120 + (1 : Int))))] [(0, .box [.p false (.slice (.slice (.int .i64))) r8.1, .p false (.slice (.int .u32)) r8.2]), (1, .arr 3 (.int .i64) v129)] 2 0 [True, True] (by kernel_rfl) (by kernel_rfl) ⟨trivial, trivial, trivial⟩ ?_
                              obtain rfl := Option.some.inj h
                              exact roundB (goal_le (gs := []) (f := [0, 1]) (by kernel_rfl) (by kernel_rfl))
                            · obtain ⟨rfl, hr⟩ := hq
                              obtain rfl := Option.some.inj h
                              refine blockQ_ret ?_
                              refine thenQ_ret ?_
                              refine round_ret ?_
                              refine postS_rr ?_
                              exact postR_mk hr
                      · replace h := h_else hb152 h
                        refine W_exit_to ?_
                        refine thenE ?_
                        obtain rfl := Option.some.inj h
                        refine roundE ?_
                        refine postS_l ?_
                        exact postX_to (goal_le (gs := []) (f := [0, 1]) (by kernel_rfl) (by kernel_rfl))
                    · clear hp49
                      rcases r41 with v121 | r38
                      · obtain ⟨rfl, hle⟩ := hq
                        refine use_to ?_ hle
                        refine blockE_eq ?_
                        refine to_block ?_
                        refine to_then ?_
                        refine W_reg tbok ⟨[], []⟩ [] [0, 1] [(19, .adr 0 0 2 0), (23, .sl 1), (24, .p false (.int .i64) (IntKind.i64.wrap (v99 + (1 : Int))))] [(0, .box [.p false (.slice (.slice (.int .i64))) r8.1, .p false (.slice (.int .u32)) r8.2]), (1, .arr 3 (.int .i64) v121)] 2 0 [True, True, True] (by kernel_rfl) (by kernel_rfl) ⟨trivial, trivial, trivial, trivial⟩ ?_
                        obtain rfl := Option.some.inj h
                        exact roundB (goal_le (gs := []) (f := [0, 1]) (by kernel_rfl) (by kernel_rfl))
                      · obtain ⟨rfl, hr⟩ := hq
                        obtain rfl := Option.some.inj h
                        refine blockQ_ret ?_
                        refine blockQ_ret ?_
                        refine thenQ_ret ?_
                        refine round_ret ?_
                        refine postS_rr ?_
                        exact postR_mk hr
                  · replace h := h_else hb123 h
                    refine W_exit_to ?_
                    refine thenE ?_
                    obtain rfl := Option.some.inj h
                    refine roundE ?_
                    refine postS_l ?_
                    exact postX_to (goal_le (gs := []) (f := [0, 1]) (by kernel_rfl) (by kernel_rfl))
                · clear hp50
                  rcases r42 with v100 | r33
                  · obtain ⟨rfl, hle⟩ := hq
                    refine use_to ?_ hle
                    refine blockE_eq ?_
                    refine to_then ?_
                    refine W_seq ?_
                    obtain ⟨v130, hp51, h⟩ := h_bind h
                    refine W.mono (Q := (postN Try.f5.ntmps (fun (v130 : Bool) => mkSt [(8, .p false .bool v130)] [] 0)) v130) ?_ (fun e σ' hq => ?_)
                    · replace h := hp51
                      clear hp51
                      rcases Bool.eq_false_or_eq_true ((v100.length : Int) == (r8.2.length : Int)) with hb168 | hb168
                      · replace h := h_if hb168 h
                        obtain ⟨r47, q16, h⟩ := h_bind h
                        obtain ⟨r48, q17, h⟩ := h_bind h
                        refine W_reg tbok ⟨[(6, true), (12, true)], [(10, ⟨.p false (.slice (.int .i64)) r47, [false], false, [true], [], []⟩), (11, ⟨.p false .bool r48, [false, false], false, [true, true], [], []⟩)]⟩ [] [] [(8, .p false .bool r48)] [] 0 0 [True, True, True, True, True, True, True, ((v100.length : Int) == (r8.2.length : Int)) = true ∧ True, ((v100.length : Int) == (r8.2.length : Int)) = true ∧ True, ((v100.length : Int) == (r8.2.length : Int)) = true ∧ True, ((v100.length : Int) == (r8.2.length : Int)) = true ∧ Pure Try.prog 17 [.p false (.int .i64) (v100.length : Int)] (.p false (.slice (.int .i64)) r47), ((v100.length : Int) == (r8.2.length : Int)) = true ∧ Pure Try.prog 16 [.p true (.slice (.int .i64)) v100, .p false (.slice (.int .i64)) r47] (.p false .bool r48), ((v100.length : Int) == (r8.2.length : Int)) = true, True] (by kernel_rfl) (by kernel_rfl) ⟨trivial, trivial, trivial, trivial, trivial, trivial, trivial, ⟨hb168, trivial⟩, ⟨hb168, trivial⟩, ⟨hb168, trivial⟩, ⟨hb168, (stanzalaw05_count_ok (v100.length : Int) _ q16)⟩, ⟨hb168, (stanzaref01_SameInts_ok true false v100 r47 _ q17)⟩, hb168, trivial, trivial⟩ ?_
                        obtain rfl := Option.some.inj h
                        exact postN_to (goal_le (gs := []) (f := []) (by kernel_rfl) (by kernel_rfl))
                      · replace h := h_else hb168 h
                        refine W_reg tbok ⟨[(6, false), (12, false)], []⟩ [] [] [(8, .p false .bool false)] [] 0 0 [True, True, True, True, True, True, True, ((v100.length : Int) == (r8.2.length : Int)) = false, ((v100.length : Int) == (r8.2.length : Int)) = false, ((v100.length : Int) == (r8.2.length : Int)) = false, ((v100.length : Int) == (r8.2.length : Int)) = false, ((v100.length : Int) == (r8.2.length : Int)) = false, ((v100.length : Int) == (r8.2.length : Int)) = false, True] (by kernel_rfl) (by kernel_rfl) ⟨trivial, trivial, trivial, trivial, trivial, trivial, trivial, hb168, hb168, hb168, hb168, hb168, hb168, trivial, trivial⟩ ?_
                        obtain rfl := Option.some.inj h
                        exact postN_to (goal_le (gs := []) (f := []) (by kernel_rfl) (by kernel_rfl))
                    · clear hp51
                      obtain ⟨rfl, hle⟩ := hq
                      refine use_to ?_ hle
                      refine to_then ?_
                      refine W_ret ?_
                      obtain rfl := Option.some.inj h
                      exact Ret_intro [.bool] (by kernel_rfl)
                  · obtain ⟨rfl, hr⟩ := hq
                    refine blockQ_ret ?_
                    refine thenQ_ret ?_
                    obtain rfl := Option.some.inj h
                    exact hr

end
end Go.Proofs.Ytnnbofkcfooljaa.T
