/- Functions of the program as functions on data, and that the program's own come to them. -/
import Derived.Test.YtnnbofkcfooljaaTvT05x0
namespace Go.Proofs.Ytnnbofkcfooljaa.T
open Go Go.Tv Go.Proofs
noncomputable section

/-- a loop of 'stanza/stanzaref04.Least': one round -/
def stanzaref04_Least_L1 (d1 : List (List Int)) (d2 : List Int) (v14 : Int) : ((List (List Bool)) × Int) → Option (((List (List Bool)) × Int) ⊕ (List (List Bool))) := fun ((v18, v19) : (List (List Bool)) × Int) =>
  (if (decide (v19 < (d1.length : Int))) = true then (if 0 ≤ v14 ∧ v14 < (v18.length : Int) then (if v14.toNat < v18.length then (if 0 ≤ v14 ∧ v14 < (d2.length : Int) then (if 0 ≤ v19 ∧ v19 < (d2.length : Int) then (if 0 ≤ v19 ∧ v19 < ((v18.getD v14.toNat ([] : List Bool)).length : Int) then (if v19.toNat < (v18.getD v14.toNat ([] : List Bool)).length then some (Sum.inl ((v18.set v14.toNat ((v18.getD v14.toNat ([] : List Bool)).set v19.toNat ((d2.getD v14.toNat (0 : Int)) != (d2.getD v19.toNat (0 : Int))))), (IntKind.i64.wrap (v19 + (1 : Int))))) else none) else none) else none) else none) else none) else none)
  else some (Sum.inr v18))

/-- a loop of 'stanza/stanzaref04.Least': one round -/
def stanzaref04_Least_L2 (d1 : List (List Int)) (d2 : List Int) : ((List (List Bool)) × Int) → Option (((List (List Bool)) × Int) ⊕ (List (List Bool))) := fun ((v13, v14) : (List (List Bool)) × Int) =>
  (if (decide (v14 < (d1.length : Int))) = true then (if 0 ≤ (d1.length : Int) ∧ (d1.length : Int) ≤ (d1.length : Int) ∧ (1 : Int) * (d1.length : Int) ≤ 281474976710656 ∧ (d1.length : Int) ≤ 9223372036854775807 then (if 0 ≤ v14 ∧ v14 < (v13.length : Int) then (if v14.toNat < v13.length then ((iter (stanzaref04_Least_L1 d1 d2 v14) ((v13.set v14.toNat (List.replicate (d1.length : Int).toNat false)), (0 : Int))).bind fun (v20 : List (List Bool)) => some (Sum.inl (v20, (IntKind.i64.wrap (v14 + (1 : Int)))))) else none) else none) else none)
  else some (Sum.inr v13))

/-- a loop of 'stanza/stanzaref04.Least': one round -/
def stanzaref04_Least_L3 (d1 : List (List Int)) (v591 : Int) (v639 : Int) : ((List (List Bool)) × Bool × Int) → Option (((List (List Bool)) × Bool × Int) ⊕ ((List (List Bool)) × Bool)) := fun ((v653, v654, v655) : (List (List Bool)) × Bool × Int) =>
  (((if 0 ≤ v591 ∧ v591 < (d1.length : Int) then (if (decide (v655 < ((d1.getD v591.toNat ([] : List Int)).length : Int))) = true then (if 0 ≤ v591 ∧ v591 < (v653.length : Int) then (if v591.toNat < v653.length then (if 0 ≤ v639 ∧ v639 < ((v653.getD v591.toNat ([] : List Bool)).length : Int) then (if v639.toNat < (v653.getD v591.toNat ([] : List Bool)).length then some (((v653.set v591.toNat (v653.getD v591.toNat ([] : List Bool))), (!((v653.getD v591.toNat ([] : List Bool)).getD v639.toNat false)))) else none) else none) else none) else none)
  else some ((v653, false))) else none)).bind fun ((v658, v659) : (List (List Bool)) × Bool) => (if v659 = true then (if 0 ≤ v591 ∧ v591 < (d1.length : Int) then (if 0 ≤ v655 ∧ v655 < ((d1.getD v591.toNat ([] : List Int)).length : Int) then (if 0 ≤ ((d1.getD v591.toNat ([] : List Int)).getD v655.toNat (0 : Int)) ∧ ((d1.getD v591.toNat ([] : List Int)).getD v655.toNat (0 : Int)) < (v658.length : Int) then (if ((d1.getD v591.toNat ([] : List Int)).getD v655.toNat (0 : Int)).toNat < v658.length then (if 0 ≤ v639 ∧ v639 < (d1.length : Int) then (if 0 ≤ v655 ∧ v655 < ((d1.getD v639.toNat ([] : List Int)).length : Int) then (if 0 ≤ ((d1.getD v639.toNat ([] : List Int)).getD v655.toNat (0 : Int)) ∧ ((d1.getD v639.toNat ([] : List Int)).getD v655.toNat (0 : Int)) < ((v658.getD (((d1.getD v591.toNat ([] : List Int)).getD v655.toNat (0 : Int)).toNat) ([] : List Bool)).length : Int) then (if ((d1.getD v639.toNat ([] : List Int)).getD v655.toNat (0 : Int)).toNat < (v658.getD (((d1.getD v591.toNat ([] : List Int)).getD v655.toNat (0 : Int)).toNat) ([] : List Bool)).length then (((if ((v658.getD (((d1.getD v591.toNat ([] : List Int)).getD v655.toNat (0 : Int)).toNat) ([] : List Bool)).getD (((d1.getD v639.toNat ([] : List Int)).getD v655.toNat (0 : Int)).toNat) false) = true then (if 0 ≤ v591 ∧ v591 < ((v658.set (((d1.getD v591.toNat ([] : List Int)).getD v655.toNat (0 : Int)).toNat) (v658.getD (((d1.getD v591.toNat ([] : List Int)).getD v655.toNat (0 : Int)).toNat) ([] : List Bool))).length : Int) then (if v591.toNat < (v658.set (((d1.getD v591.toNat ([] : List Int)).getD v655.toNat (0 : Int)).toNat) (v658.getD (((d1.getD v591.toNat ([] : List Int)).getD v655.toNat (0 : Int)).toNat) ([] : List Bool))).length then (if 0 ≤ v639 ∧ v639 < (((v658.set (((d1.getD v591.toNat ([] : List Int)).getD v655.toNat (0 : Int)).toNat) (v658.getD (((d1.getD v591.toNat ([] : List Int)).getD v655.toNat (0 : Int)).toNat) ([] : List Bool))).getD v591.toNat ([] : List Bool)).length : Int) then (if v639.toNat < ((v658.set (((d1.getD v591.toNat ([] : List Int)).getD v655.toNat (0 : Int)).toNat) (v658.getD (((d1.getD v591.toNat ([] : List Int)).getD v655.toNat (0 : Int)).toNat) ([] : List Bool))).getD v591.toNat ([] : List Bool)).length then some ((((v658.set (((d1.getD v591.toNat ([] : List Int)).getD v655.toNat (0 : Int)).toNat) (v658.getD (((d1.getD v591.toNat ([] : List Int)).getD v655.toNat (0 : Int)).toNat) ([] : List Bool))).set v591.toNat (((v658.set (((d1.getD v591.toNat ([] : List Int)).getD v655.toNat (0 : Int)).toNat) (v658.getD (((d1.getD v591.toNat ([] : List Int)).getD v655.toNat (0 : Int)).toNat) ([] : List Bool))).getD v591.toNat ([] : List Bool)).set v639.toNat true)), true)) else none) else none) else none) else none)
  else some (((v658.set (((d1.getD v591.toNat ([] : List Int)).getD v655.toNat (0 : Int)).toNat) (v658.getD (((d1.getD v591.toNat ([] : List Int)).getD v655.toNat (0 : Int)).toNat) ([] : List Bool))), v654)))).bind fun ((v660, v661) : (List (List Bool)) × Bool) => some (Sum.inl (v660, v661, (IntKind.i64.wrap (v655 + (1 : Int)))))) else none) else none) else none) else none) else none) else none) else none) else none)
  else some (Sum.inr (v658, v654))))

/-- a loop of 'stanza/stanzaref04.Least': one round -/
def stanzaref04_Least_L4 (d1 : List (List Int)) (v591 : Int) : ((List (List Bool)) × Bool × Int) → Option (((List (List Bool)) × Bool × Int) ⊕ ((List (List Bool)) × Bool)) := fun ((v637, v638, v639) : (List (List Bool)) × Bool × Int) =>
  (if (decide (v639 < (d1.length : Int))) = true then ((iter (stanzaref04_Least_L3 d1 v591 v639) (v637, v638, (0 : Int))).bind fun ((v656, v657) : (List (List Bool)) × Bool) => some (Sum.inl (v656, v657, (IntKind.i64.wrap (v639 + (1 : Int))))))
  else some (Sum.inr (v637, v638)))

/-- a loop of 'stanza/stanzaref04.Least': one round -/
def stanzaref04_Least_L5 (d1 : List (List Int)) : ((List (List Bool)) × Bool × Int) → Option (((List (List Bool)) × Bool × Int) ⊕ ((List (List Bool)) × Bool)) := fun ((v589, v590, v591) : (List (List Bool)) × Bool × Int) =>
  (if (decide (v591 < (d1.length : Int))) = true then ((iter (stanzaref04_Least_L4 d1 v591) (v589, v590, (0 : Int))).bind fun ((v640, v641) : (List (List Bool)) × Bool) => some (Sum.inl (v640, v641, (IntKind.i64.wrap (v591 + (1 : Int))))))
  else some (Sum.inr (v589, v590)))

/-- a loop of 'stanza/stanzaref04.Least': one round -/
def stanzaref04_Least_L6 (d1 : List (List Int)) : ((List (List Bool)) × Bool) → Option (((List (List Bool)) × Bool) ⊕ (List (List Bool))) := fun ((v447, v448) : (List (List Bool)) × Bool) =>
  (if v448 = true then ((iter (stanzaref04_Least_L5 d1) (v447, false, (0 : Int))).bind fun ((v592, v593) : (List (List Bool)) × Bool) => some (Sum.inl (v592, v593)))
  else some (Sum.inr v447))

/-- a loop of 'stanza/stanzaref04.Least': one round -/
def stanzaref04_Least_L7 (v689 : Int) : ((List (List Bool)) × (List Int) × Int) → Option (((List (List Bool)) × (List Int) × Int) ⊕ ((List (List Bool)) × List Int)) := fun ((v696, v697, v698) : (List (List Bool)) × (List Int) × Int) =>
  (if (decide (v698 ≥ (0 : Int))) = true then (if 0 ≤ v689 ∧ v689 < (v696.length : Int) then (if v689.toNat < v696.length then (if 0 ≤ v698 ∧ v698 < ((v696.getD v689.toNat ([] : List Bool)).length : Int) then (if v698.toNat < (v696.getD v689.toNat ([] : List Bool)).length then (((if (!((v696.getD v689.toNat ([] : List Bool)).getD v698.toNat false)) = true then (if 0 ≤ v689 ∧ v689 < (v697.length : Int) then (if v689.toNat < v697.length then some ((v697.set v689.toNat v698)) else none) else none)
  else some (v697))).bind fun (v701 : List Int) => some (Sum.inl ((v696.set v689.toNat (v696.getD v689.toNat ([] : List Bool))), v701, (IntKind.i64.wrap (v698 - (1 : Int)))))) else none) else none) else none) else none)
  else some (Sum.inr (v696, v697)))

/-- a loop of 'stanza/stanzaref04.Least': one round -/
def stanzaref04_Least_L8 (d1 : List (List Int)) : ((List (List Bool)) × (List Int) × Int) → Option (((List (List Bool)) × (List Int) × Int) ⊕ (List Int)) := fun ((v687, v688, v689) : (List (List Bool)) × (List Int) × Int) =>
  (if (decide (v689 < (d1.length : Int))) = true then (if 0 ≤ v689 ∧ v689 < (v688.length : Int) then (if v689.toNat < v688.length then ((iter (stanzaref04_Least_L7 v689) (v687, (v688.set v689.toNat v689), v689)).bind fun ((v699, v700) : (List (List Bool)) × List Int) => some (Sum.inl (v699, v700, (IntKind.i64.wrap (v689 + (1 : Int)))))) else none) else none)
  else some (Sum.inr v688))

/-- a loop of 'stanza/stanzaref04.Least': one round -/
def stanzaref04_Least_L9 (d1 : List (List Int)) (v690 : List Int) (v767 : Int) (v787 : List Int) (v789 : Int) : (Int) → Option ((Int) ⊕ (Int)) := fun (v795 : Int) =>
  (((if (decide (v795 < (v787.length : Int))) = true then (if 0 ≤ v795 ∧ v795 < (v787.length : Int) then (if v795.toNat < v787.length then some (((v787.getD v795.toNat (0 : Int)) != (v690.getD (((d1.getD ((v787.getD v767.toNat (0 : Int)).toNat) ([] : List Int)).getD v789.toNat (0 : Int)).toNat) (0 : Int)))) else none) else none)
  else some (false))).bind fun (v797 : Bool) => (if v797 = true then some (Sum.inl (IntKind.i64.wrap (v795 + (1 : Int))))
  else some (Sum.inr v795)))

/-- a loop of 'stanza/stanzaref04.Least': one round -/
def stanzaref04_Least_L10 (d1 : List (List Int)) (v690 : List Int) (v767 : Int) : ((List Int) × (List Int) × Int) → Option (((List Int) × (List Int) × Int) ⊕ ((List Int) × List Int)) := fun ((v787, v788, v789) : (List Int) × (List Int) × Int) =>
  (if 0 ≤ v767 ∧ v767 < (v787.length : Int) then (if v767.toNat < v787.length then (if 0 ≤ (v787.getD v767.toNat (0 : Int)) ∧ (v787.getD v767.toNat (0 : Int)) < (d1.length : Int) then (if (decide (v789 < ((d1.getD ((v787.getD v767.toNat (0 : Int)).toNat) ([] : List Int)).length : Int))) = true then (if 0 ≤ v767 ∧ v767 < (v787.length : Int) then (if v767.toNat < v787.length then (if 0 ≤ (v787.getD v767.toNat (0 : Int)) ∧ (v787.getD v767.toNat (0 : Int)) < (d1.length : Int) then (if 0 ≤ v789 ∧ v789 < ((d1.getD ((v787.getD v767.toNat (0 : Int)).toNat) ([] : List Int)).length : Int) then (if 0 ≤ ((d1.getD ((v787.getD v767.toNat (0 : Int)).toNat) ([] : List Int)).getD v789.toNat (0 : Int)) ∧ ((d1.getD ((v787.getD v767.toNat (0 : Int)).toNat) ([] : List Int)).getD v789.toNat (0 : Int)) < (v690.length : Int) then (if ((d1.getD ((v787.getD v767.toNat (0 : Int)).toNat) ([] : List Int)).getD v789.toNat (0 : Int)).toNat < v690.length then ((iter (stanzaref04_Least_L9 d1 v690 v767 v787 v789) (0 : Int)).bind fun (v796 : Int) => (((if (v796 == (v787.length : Int)) = true then (if (v787.length + ([(v690.getD (((d1.getD ((v787.getD v767.toNat (0 : Int)).toNat) ([] : List Int)).getD v789.toNat (0 : Int)).toNat) (0 : Int))] : List Int).length) * 8 ≤ 140737488355328 ∧ v787.length + ([(v690.getD (((d1.getD ((v787.getD v767.toNat (0 : Int)).toNat) ([] : List Int)).getD v789.toNat (0 : Int)).toNat) (0 : Int))] : List Int).length ≤ 9223372036854775807 then some ((v787 ++ ([(v690.getD (((d1.getD ((v787.getD v767.toNat (0 : Int)).toNat) ([] : List Int)).getD v789.toNat (0 : Int)).toNat) (0 : Int))] : List Int))) else none)
  else some (v787))).bind fun (v798 : List Int) => (if (v788.length + ([v796] : List Int).length) * 8 ≤ 140737488355328 ∧ v788.length + ([v796] : List Int).length ≤ 9223372036854775807 then some (Sum.inl (v798, (v788 ++ ([v796] : List Int)), (IntKind.i64.wrap (v789 + (1 : Int))))) else none))) else none) else none) else none) else none) else none) else none)
  else some (Sum.inr (v787, v788))) else none) else none) else none)

/-- a loop of 'stanza/stanzaref04.Least': one round -/
def stanzaref04_Least_L11 (d1 : List (List Int)) (d2 : List Int) (v690 : List Int) : ((List Int) × (List (List Int)) × (List Int) × Int) → Option (((List Int) × (List (List Int)) × (List Int) × Int) ⊕ ((List (List Int)) × List Int)) := fun ((v764, v765, v766, v767) : (List Int) × (List (List Int)) × (List Int) × Int) =>
  (if (decide (v767 < (v764.length : Int))) = true then ((iter (stanzaref04_Least_L10 d1 v690 v767) (v764, ([] : List Int), (0 : Int))).bind fun ((v790, v791) : (List Int) × List Int) => (if (v765.length + ([v791] : List (List Int)).length) * 24 ≤ 140737488355328 ∧ v765.length + ([v791] : List (List Int)).length ≤ 9223372036854775807 then (if 0 ≤ v767 ∧ v767 < (v790.length : Int) then (if v767.toNat < v790.length then (if 0 ≤ (v790.getD v767.toNat (0 : Int)) ∧ (v790.getD v767.toNat (0 : Int)) < (d2.length : Int) then (if (v766.length + ([(d2.getD ((v790.getD v767.toNat (0 : Int)).toNat) (0 : Int))] : List Int).length) * 4 ≤ 140737488355328 ∧ v766.length + ([(d2.getD ((v790.getD v767.toNat (0 : Int)).toNat) (0 : Int))] : List Int).length ≤ 9223372036854775807 then some (Sum.inl (v790, (v765 ++ ([v791] : List (List Int))), (v766 ++ ([(d2.getD ((v790.getD v767.toNat (0 : Int)).toNat) (0 : Int))] : List Int)), (IntKind.i64.wrap (v767 + (1 : Int))))) else none) else none) else none) else none) else none))
  else some (Sum.inr (v765, v766)))

/-- 'stanza/stanzaref04.Least' -/
def stanzaref04_Least (d1 : List (List Int)) (d2 : List Int) : Option ((List (List Int)) × List Int) :=
  (if 0 ≤ (d1.length : Int) ∧ (d1.length : Int) ≤ (d1.length : Int) ∧ (24 : Int) * (d1.length : Int) ≤ 281474976710656 ∧ (d1.length : Int) ≤ 9223372036854775807 then ((iter (stanzaref04_Least_L2 d1 d2) ((List.replicate (d1.length : Int).toNat ([] : List Bool)), (0 : Int))).bind fun (v15 : List (List Bool)) => ((iter (stanzaref04_Least_L6 d1) (v15, true)).bind fun (v449 : List (List Bool)) => (if 0 ≤ (d1.length : Int) ∧ (d1.length : Int) ≤ (d1.length : Int) ∧ (8 : Int) * (d1.length : Int) ≤ 281474976710656 ∧ (d1.length : Int) ≤ 9223372036854775807 then ((iter (stanzaref04_Least_L8 d1) (v449, (List.replicate (d1.length : Int).toNat (0 : Int)), (0 : Int))).bind fun (v690 : List Int) => (if 0 ≤ (0 : Int) ∧ (0 : Int) < (v690.length : Int) then (if (0 : Int).toNat < v690.length then ((iter (stanzaref04_Least_L11 d1 d2 v690) (([(v690.getD ((0 : Int).toNat) (0 : Int))] : List Int), ([] : List (List Int)), ([] : List Int), (0 : Int))).bind fun ((v768, v769) : (List (List Int)) × List Int) => some (v768, v769)) else none) else none)) else none))) else none)

set_option maxRecDepth 100000 in
set_option maxHeartbeats 4000000 in
theorem stanzaref04_Least_ok (β0 β1 : Bool) (d1 : List (List Int)) (d2 : List Int) (res : (List (List Int)) × List Int) (h : stanzaref04_Least d1 d2 = some res) :
    Pure Try.prog 14 [.agg [.p β0 (.slice (.slice (.int .i64))) d1, .p β1 (.slice (.int .u32)) d2]] (wrapR (encs false [⟨(.prod (.slice (.slice (.int .i64))) (.slice (.int .u32))), res⟩])) := by
  refine Pure.of_body tbok Try.func14 (by kernel_rfl) rfl (Nat.le_of_ble_eq_true rfl) (fun Bw w0 => ?_) rfl
  unfold stanzaref04_Least at h
  refine W_seq ?_
  refine W_reg tbok ⟨[], []⟩ [] [0, 8] [(1, .adr 0 0 2 0), (2, .adr 1 0 2 0)] [(0, .box [.p β0 (.slice (.slice (.int .i64))) d1, .p β1 (.slice (.int .u32)) d2]), (1, .box [.nils, .nils])] 2 0 [True, True] (by kernel_rfl) (by kernel_rfl) ⟨trivial, trivial, trivial⟩ ?_
  refine to_then ?_
  refine W_seq ?_
  refine W_reg tbok ⟨[], []⟩ [] [0, 1] [(1, .adr 0 0 2 0), (2, .adr 1 0 2 0), (3, .p false (.int .i64) (d1.length : Int))] [(0, .box [.p β0 (.slice (.slice (.int .i64))) d1, .p β1 (.slice (.int .u32)) d2]), (1, .box [.nils, .nils])] 2 0 [True, True, True, True] (by kernel_rfl) (by kernel_rfl) ⟨trivial, trivial, trivial, trivial, trivial⟩ ?_
  refine to_then ?_
  refine W_seq ?_
  obtain ⟨c2, h⟩ := h_guard h
  refine W_reg tbok ⟨[], []⟩ [] [0, 1, 10] [(1, .adr 0 0 2 0), (2, .adr 1 0 2 0), (3, .p false (.int .i64) (d1.length : Int)), (4, .sl 2)] [(0, .box [.p β0 (.slice (.slice (.int .i64))) d1, .p β1 (.slice (.int .u32)) d2]), (1, .box [.nils, .nils]), (2, .mat 47 4 .bool (List.replicate (d1.length : Int).toNat ([] : List Bool)) none)] 3 0 [True, 0 ≤ (d1.length : Int) ∧ (d1.length : Int) ≤ (d1.length : Int) ∧ (24 : Int) * (d1.length : Int) ≤ 281474976710656 ∧ (d1.length : Int) ≤ 9223372036854775807, True] (by kernel_rfl) (by kernel_rfl) ⟨trivial, c2, trivial, trivial⟩ ?_
  refine to_then ?_
  refine W_seq ?_
  refine W_seq ?_
  refine W_reg tbok ⟨[], []⟩ [] [0, 1, 2] [(1, .adr 0 0 2 0), (2, .adr 1 0 2 0), (3, .p false (.int .i64) (d1.length : Int)), (4, .sl 2), (5, .p false (.int .i64) (0 : Int))] [(0, .box [.p β0 (.slice (.slice (.int .i64))) d1, .p β1 (.slice (.int .u32)) d2]), (1, .box [.nils, .nils]), (2, .mat 47 4 .bool (List.replicate (d1.length : Int).toNat ([] : List Bool)) none)] 3 0 [True] (by kernel_rfl) (by kernel_rfl) ⟨trivial, trivial⟩ ?_
  refine to_then ?_
  refine W_block ?_
  obtain ⟨v15, hp4, h⟩ := h_bind h
  refine W.mono (Q := (postX Try.f14.ntmps 0 (fun (v15 : List (List Bool)) => mkSt [(1, .adr 0 0 2 0), (2, .adr 1 0 2 0), (3, .p false (.int .i64) (d1.length : Int)), (4, .sl 2)] [(0, .box [.p β0 (.slice (.slice (.int .i64))) d1, .p β1 (.slice (.int .u32)) d2]), (1, .box [.nils, .nils]), (2, .mat 47 4 .bool v15 none)] 3)) v15) (W_iter (f := fun ((v13, v14) : (List (List Bool)) × Int) => mkSt [(1, .adr 0 0 2 0), (2, .adr 1 0 2 0), (3, .p false (.int .i64) (d1.length : Int)), (4, .sl 2), (5, .p false (.int .i64) v14)] [(0, .box [.p β0 (.slice (.slice (.int .i64))) d1, .p β1 (.slice (.int .u32)) d2]), (1, .box [.nils, .nils]), (2, .mat 47 4 .bool v13 none)] 3) (Q := (postX Try.f14.ntmps 0 (fun (v15 : List (List Bool)) => mkSt [(1, .adr 0 0 2 0), (2, .adr 1 0 2 0), (3, .p false (.int .i64) (d1.length : Int)), (4, .sl 2)] [(0, .box [.p β0 (.slice (.slice (.int .i64))) d1, .p β1 (.slice (.int .u32)) d2]), (1, .box [.nils, .nils]), (2, .mat 47 4 .bool v15 none)] 3))) hp4 (goal_le (gs := []) (f := [0, 1, 2]) (by kernel_rfl) (by kernel_rfl)) (fun y o ho => ?_)) (fun e σ' hq => ?_)
  · obtain ⟨v13, v14⟩ := y
    replace h := ho
    clear ho hp4
    unfold stanzaref04_Least_L2 at h
    refine W_seq ?_
    refine W_seq ?_
    refine W_reg tbok ⟨[], []⟩ [] [0, 1, 2] [(1, .adr 0 0 2 0), (2, .adr 1 0 2 0), (3, .p false (.int .i64) (d1.length : Int)), (4, .sl 2), (5, .p false (.int .i64) v14), (28, .p false .bool (decide (v14 < (d1.length : Int))))] [(0, .box [.p β0 (.slice (.slice (.int .i64))) d1, .p β1 (.slice (.int .u32)) d2]), (1, .box [.nils, .nils]), (2, .mat 47 4 .bool v13 none)] 3 0 [True, True, True] (by kernel_rfl) (by kernel_rfl) ⟨trivial, trivial, trivial, trivial⟩ ?_
    refine to_then ?_
    refine W_cond (b := (decide (v14 < (d1.length : Int)))) (β := false) (by kernel_rfl) (fun hb9 => ?_) (fun hb9 => ?_)
    · replace h := h_if hb9 h
      refine W_skip_to ?_
      refine to_then ?_
      refine W_seq ?_
      refine W_block ?_
      refine W_seq ?_
      obtain ⟨c90, h⟩ := h_guard h
      obtain ⟨c91, h⟩ := h_guard h
      obtain ⟨c92, h⟩ := h_guard h
      refine W_reg tbok ⟨[], []⟩ [.shut 2] [0, 1, 2] [(1, .adr 0 0 2 0), (2, .adr 1 0 2 0), (3, .p false (.int .i64) (d1.length : Int)), (4, .sl 2), (5, .p false (.int .i64) v14)] [(0, .box [.p β0 (.slice (.slice (.int .i64))) d1, .p β1 (.slice (.int .u32)) d2]), (1, .box [.nils, .nils]), (2, .mat 47 4 .bool (v13.set v14.toNat (List.replicate (d1.length : Int).toNat false)) none)] 3 0 [True, True, True, 0 ≤ (d1.length : Int) ∧ (d1.length : Int) ≤ (d1.length : Int) ∧ (1 : Int) * (d1.length : Int) ≤ 281474976710656 ∧ (d1.length : Int) ≤ 9223372036854775807, 0 ≤ v14 ∧ v14 < (v13.length : Int), v14.toNat < v13.length] (by kernel_rfl) (by kernel_rfl) ⟨trivial, trivial, trivial, c90, c91, c92, trivial⟩ ?_
      refine to_then ?_
      refine W_seq ?_
      refine W_reg tbok ⟨[], []⟩ [] [0, 1, 2] [(1, .adr 0 0 2 0), (2, .adr 1 0 2 0), (3, .p false (.int .i64) (d1.length : Int)), (4, .sl 2), (5, .p false (.int .i64) v14), (6, .p false (.int .i64) (0 : Int))] [(0, .box [.p β0 (.slice (.slice (.int .i64))) d1, .p β1 (.slice (.int .u32)) d2]), (1, .box [.nils, .nils]), (2, .mat 47 4 .bool (v13.set v14.toNat (List.replicate (d1.length : Int).toNat false)) none)] 3 0 [True] (by kernel_rfl) (by kernel_rfl) ⟨trivial, trivial⟩ ?_
      refine to_then ?_
      refine W_block ?_
      obtain ⟨v20, hp3, h⟩ := h_bind h
      refine W.mono (Q := (postX Try.f14.ntmps 2 (fun (v20 : List (List Bool)) => mkSt [(1, .adr 0 0 2 0), (2, .adr 1 0 2 0), (3, .p false (.int .i64) (d1.length : Int)), (4, .sl 2), (5, .p false (.int .i64) v14)] [(0, .box [.p β0 (.slice (.slice (.int .i64))) d1, .p β1 (.slice (.int .u32)) d2]), (1, .box [.nils, .nils]), (2, .mat 47 4 .bool v20 none)] 3)) v20) (W_iter (f := fun ((v18, v19) : (List (List Bool)) × Int) => mkSt [(1, .adr 0 0 2 0), (2, .adr 1 0 2 0), (3, .p false (.int .i64) (d1.length : Int)), (4, .sl 2), (5, .p false (.int .i64) v14), (6, .p false (.int .i64) v19)] [(0, .box [.p β0 (.slice (.slice (.int .i64))) d1, .p β1 (.slice (.int .u32)) d2]), (1, .box [.nils, .nils]), (2, .mat 47 4 .bool v18 none)] 3) (Q := (postX Try.f14.ntmps 2 (fun (v20 : List (List Bool)) => mkSt [(1, .adr 0 0 2 0), (2, .adr 1 0 2 0), (3, .p false (.int .i64) (d1.length : Int)), (4, .sl 2), (5, .p false (.int .i64) v14)] [(0, .box [.p β0 (.slice (.slice (.int .i64))) d1, .p β1 (.slice (.int .u32)) d2]), (1, .box [.nils, .nils]), (2, .mat 47 4 .bool v20 none)] 3))) hp3 (goal_le (gs := []) (f := [0, 1, 2]) (by kernel_rfl) (by kernel_rfl)) (fun y o ho => ?_)) (fun e σ' hq => ?_)
      · obtain ⟨v18, v19⟩ := y
        replace h := ho
        clear ho hp3
        unfold stanzaref04_Least_L1 at h
        refine W_seq ?_
        refine W_seq ?_
        refine W_reg tbok ⟨[], []⟩ [] [0, 1, 2] [(1, .adr 0 0 2 0), (2, .adr 1 0 2 0), (3, .p false (.int .i64) (d1.length : Int)), (4, .sl 2), (5, .p false (.int .i64) v14), (6, .p false (.int .i64) v19), (38, .p false .bool (decide (v19 < (d1.length : Int))))] [(0, .box [.p β0 (.slice (.slice (.int .i64))) d1, .p β1 (.slice (.int .u32)) d2]), (1, .box [.nils, .nils]), (2, .mat 47 4 .bool v18 none)] 3 0 [True, True, True] (by kernel_rfl) (by kernel_rfl) ⟨trivial, trivial, trivial, trivial⟩ ?_
        refine to_then ?_
        refine W_cond (b := (decide (v19 < (d1.length : Int)))) (β := false) (by kernel_rfl) (fun hb12 => ?_) (fun hb12 => ?_)
        · replace h := h_if hb12 h
          refine W_skip_to ?_
          refine to_then ?_
          refine W_seq ?_
          refine W_block ?_
          obtain ⟨c123, h⟩ := h_guard h
          obtain ⟨c124, h⟩ := h_guard h
          obtain ⟨c125, h⟩ := h_guard h
          obtain ⟨c126, h⟩ := h_guard h
          obtain ⟨c127, h⟩ := h_guard h
          obtain ⟨c128, h⟩ := h_guard h
          refine W_regD tbok mixed ⟨[], []⟩ [.shut 2] [0, 1, 2] [(1, .adr 0 0 2 0), (2, .adr 1 0 2 0), (3, .p false (.int .i64) (d1.length : Int)), (4, .sl 2), (5, .p false (.int .i64) v14), (6, .p false (.int .i64) v19)] [(0, .box [.p β0 (.slice (.slice (.int .i64))) d1, .p β1 (.slice (.int .u32)) d2]), (1, .box [.nils, .nils]), (2, .mat 47 4 .bool (v18.set v14.toNat ((v18.getD v14.toNat ([] : List Bool)).set v19.toNat ((d2.getD v14.toNat (0 : Int)) != (d2.getD v19.toNat (0 : Int))))) none)] 3 0 [True, True, 0 ≤ v14 ∧ v14 < (v18.length : Int), v14.toNat < v18.length, True, True, True, True, 0 ≤ v14 ∧ v14 < (d2.length : Int), True, True, True, True, 0 ≤ v19 ∧ v19 < (d2.length : Int), True, True, 0 ≤ v19 ∧ v19 < ((v18.getD v14.toNat ([] : List Bool)).length : Int), v19.toNat < (v18.getD v14.toNat ([] : List Bool)).length] (by kernel_rfl) (by kernel_rfl) ⟨trivial, trivial, c123, c124, trivial, trivial, trivial, trivial, c125, trivial, trivial, trivial, trivial, c126, trivial, trivial, c127, c128, trivial⟩ ?_
          refine to_block ?_
          refine to_then ?_
          refine W_reg tbok ⟨[], []⟩ [] [0, 1, 2] [(1, .adr 0 0 2 0), (2, .adr 1 0 2 0), (3, .p false (.int .i64) (d1.length : Int)), (4, .sl 2), (5, .p false (.int .i64) v14), (6, .p false (.int .i64) (IntKind.i64.wrap (v19 + (1 : Int))))] [(0, .box [.p β0 (.slice (.slice (.int .i64))) d1, .p β1 (.slice (.int .u32)) d2]), (1, .box [.nils, .nils]), (2, .mat 47 4 .bool (v18.set v14.toNat ((v18.getD v14.toNat ([] : List Bool)).set v19.toNat ((d2.getD v14.toNat (0 : Int)) != (d2.getD v19.toNat (0 : Int))))) none)] 3 0 [True, True, True] (by kernel_rfl) (by kernel_rfl) ⟨trivial, trivial, trivial, trivial⟩ ?_
          obtain rfl := Option.some.inj h
          exact roundB (goal_le (gs := []) (f := [0, 1, 2]) (by kernel_rfl) (by kernel_rfl))
        · replace h := h_else hb12 h
          refine W_exit_to ?_
          refine thenE ?_
          obtain rfl := Option.some.inj h
          refine roundE ?_
          exact postX_to (goal_le (gs := []) (f := [0, 1, 2]) (by kernel_rfl) (by kernel_rfl))
      · clear hp3
        obtain ⟨rfl, hle⟩ := hq
        refine use_to ?_ hle
        refine blockE_eq ?_
        refine to_block ?_
        refine to_then ?_
        refine W_reg tbok ⟨[], []⟩ [] [0, 1, 2] [(1, .adr 0 0 2 0), (2, .adr 1 0 2 0), (3, .p false (.int .i64) (d1.length : Int)), (4, .sl 2), (5, .p false (.int .i64) (IntKind.i64.wrap (v14 + (1 : Int))))] [(0, .box [.p β0 (.slice (.slice (.int .i64))) d1, .p β1 (.slice (.int .u32)) d2]), (1, .box [.nils, .nils]), (2, .mat 47 4 .bool v20 none)] 3 0 [True, True, True] (by kernel_rfl) (by kernel_rfl) ⟨trivial, trivial, trivial, trivial⟩ ?_
        obtain rfl := Option.some.inj h
        exact roundB (goal_le (gs := []) (f := [0, 1, 2]) (by kernel_rfl) (by kernel_rfl))
    · replace h := h_else hb9 h
      refine W_exit_to ?_
      refine thenE ?_
      obtain rfl := Option.some.inj h
      refine roundE ?_
      exact postX_to (goal_le (gs := []) (f := [0, 1, 2]) (by kernel_rfl) (by kernel_rfl))
  · clear hp4
    obtain ⟨rfl, hle⟩ := hq
    refine use_to ?_ hle
    refine blockE_eq ?_
    refine to_then ?_
    refine W_seq ?_
    refine W_seq ?_
    refine W_reg tbok ⟨[], []⟩ [] [0, 1, 2] [(1, .adr 0 0 2 0), (2, .adr 1 0 2 0), (3, .p false (.int .i64) (d1.length : Int)), (4, .sl 2), (7, .p false .bool true)] [(0, .box [.p β0 (.slice (.slice (.int .i64))) d1, .p β1 (.slice (.int .u32)) d2]), (1, .box [.nils, .nils]), (2, .mat 47 4 .bool v15 none)] 3 0 [True] (by kernel_rfl) (by kernel_rfl) ⟨trivial, trivial⟩ ?_
    refine to_then ?_
    refine W_block ?_
    obtain ⟨v449, hp206, h⟩ := h_bind h
    refine W.mono (Q := (postX Try.f14.ntmps 4 (fun (v449 : List (List Bool)) => mkSt [(1, .adr 0 0 2 0), (2, .adr 1 0 2 0), (3, .p false (.int .i64) (d1.length : Int)), (4, .sl 2)] [(0, .box [.p β0 (.slice (.slice (.int .i64))) d1, .p β1 (.slice (.int .u32)) d2]), (1, .box [.nils, .nils]), (2, .mat 47 4 .bool v449 none)] 3)) v449) (W_iter (f := fun ((v447, v448) : (List (List Bool)) × Bool) => mkSt [(1, .adr 0 0 2 0), (2, .adr 1 0 2 0), (3, .p false (.int .i64) (d1.length : Int)), (4, .sl 2), (7, .p false .bool v448)] [(0, .box [.p β0 (.slice (.slice (.int .i64))) d1, .p β1 (.slice (.int .u32)) d2]), (1, .box [.nils, .nils]), (2, .mat 47 4 .bool v447 none)] 3) (Q := (postX Try.f14.ntmps 4 (fun (v449 : List (List Bool)) => mkSt [(1, .adr 0 0 2 0), (2, .adr 1 0 2 0), (3, .p false (.int .i64) (d1.length : Int)), (4, .sl 2)] [(0, .box [.p β0 (.slice (.slice (.int .i64))) d1, .p β1 (.slice (.int .u32)) d2]), (1, .box [.nils, .nils]), (2, .mat 47 4 .bool v449 none)] 3))) hp206 (goal_le (gs := []) (f := [0, 1, 2]) (by kernel_rfl) (by kernel_rfl)) (fun y o ho => ?_)) (fun e σ' hq => ?_)
    · obtain ⟨v447, v448⟩ := y
      replace h := ho
      clear ho hp206
      unfold stanzaref04_Least_L6 at h
      refine W_seq ?_
      refine W_seq ?_
      refine W_reg tbok ⟨[], []⟩ [] [0, 1, 2] [(1, .adr 0 0 2 0), (2, .adr 1 0 2 0), (3, .p false (.int .i64) (d1.length : Int)), (4, .sl 2), (58, .p false .bool v448)] [(0, .box [.p β0 (.slice (.slice (.int .i64))) d1, .p β1 (.slice (.int .u32)) d2]), (1, .box [.nils, .nils]), (2, .mat 47 4 .bool v447 none)] 3 0 [True] (by kernel_rfl) (by kernel_rfl) ⟨trivial, trivial⟩ ?_
      refine to_then ?_
      refine W_cond (b := v448) (β := false) (by kernel_rfl) (fun hb363 => ?_) (fun hb363 => ?_)
      · replace h := h_if hb363 h
        refine W_skip_to ?_
        refine to_then ?_
        refine W_block ?_
        refine W_seq ?_
        refine W_reg tbok ⟨[], []⟩ [] [0, 1, 2] [(1, .adr 0 0 2 0), (2, .adr 1 0 2 0), (3, .p false (.int .i64) (d1.length : Int)), (4, .sl 2), (7, .p false .bool false)] [(0, .box [.p β0 (.slice (.slice (.int .i64))) d1, .p β1 (.slice (.int .u32)) d2]), (1, .box [.nils, .nils]), (2, .mat 47 4 .bool v447 none)] 3 0 [True] (by kernel_rfl) (by kernel_rfl) ⟨trivial, trivial⟩ ?_
        refine to_then ?_
        refine W_seq ?_
        refine W_reg tbok ⟨[], []⟩ [] [0, 1, 2] [(1, .adr 0 0 2 0), (2, .adr 1 0 2 0), (3, .p false (.int .i64) (d1.length : Int)), (4, .sl 2), (7, .p false .bool false), (8, .p false (.int .i64) (0 : Int))] [(0, .box [.p β0 (.slice (.slice (.int .i64))) d1, .p β1 (.slice (.int .u32)) d2]), (1, .box [.nils, .nils]), (2, .mat 47 4 .bool v447 none)] 3 0 [True] (by kernel_rfl) (by kernel_rfl) ⟨trivial, trivial⟩ ?_
        refine to_then ?_
        refine W_block ?_
        obtain ⟨r201, hp205, h⟩ := h_bind h
        refine W.mono (Q := (postX Try.f14.ntmps 6 (fun ((v592, v593) : (List (List Bool)) × Bool) => mkSt [(1, .adr 0 0 2 0), (2, .adr 1 0 2 0), (3, .p false (.int .i64) (d1.length : Int)), (4, .sl 2), (7, .p false .bool v593)] [(0, .box [.p β0 (.slice (.slice (.int .i64))) d1, .p β1 (.slice (.int .u32)) d2]), (1, .box [.nils, .nils]), (2, .mat 47 4 .bool v592 none)] 3)) r201) (W_iter (f := fun ((v589, v590, v591) : (List (List Bool)) × Bool × Int) => mkSt [(1, .adr 0 0 2 0), (2, .adr 1 0 2 0), (3, .p false (.int .i64) (d1.length : Int)), (4, .sl 2), (7, .p false .bool v590), (8, .p false (.int .i64) v591)] [(0, .box [.p β0 (.slice (.slice (.int .i64))) d1, .p β1 (.slice (.int .u32)) d2]), (1, .box [.nils, .nils]), (2, .mat 47 4 .bool v589 none)] 3) (Q := (postX Try.f14.ntmps 6 (fun ((v592, v593) : (List (List Bool)) × Bool) => mkSt [(1, .adr 0 0 2 0), (2, .adr 1 0 2 0), (3, .p false (.int .i64) (d1.length : Int)), (4, .sl 2), (7, .p false .bool v593)] [(0, .box [.p β0 (.slice (.slice (.int .i64))) d1, .p β1 (.slice (.int .u32)) d2]), (1, .box [.nils, .nils]), (2, .mat 47 4 .bool v592 none)] 3))) hp205 (goal_le (gs := []) (f := [0, 1, 2]) (by kernel_rfl) (by kernel_rfl)) (fun y o ho => ?_)) (fun e σ' hq => ?_)
        · obtain ⟨v589, v590, v591⟩ := y
          replace h := ho
          clear ho hp205
          unfold stanzaref04_Least_L5 at h
          refine W_seq ?_
          refine W_seq ?_
          refine W_reg tbok ⟨[], []⟩ [] [0, 1, 2] [(1, .adr 0 0 2 0), (2, .adr 1 0 2 0), (3, .p false (.int .i64) (d1.length : Int)), (4, .sl 2), (7, .p false .bool v590), (8, .p false (.int .i64) v591), (61, .p false .bool (decide (v591 < (d1.length : Int))))] [(0, .box [.p β0 (.slice (.slice (.int .i64))) d1, .p β1 (.slice (.int .u32)) d2]), (1, .box [.nils, .nils]), (2, .mat 47 4 .bool v589 none)] 3 0 [True, True, True] (by kernel_rfl) (by kernel_rfl) ⟨trivial, trivial, trivial, trivial⟩ ?_
          refine to_then ?_
          refine W_cond (b := (decide (v591 < (d1.length : Int)))) (β := false) (by kernel_rfl) (fun hb480 => ?_) (fun hb480 => ?_)
          · replace h := h_if hb480 h
            refine W_skip_to ?_
            refine to_then ?_
            refine W_seq ?_
            refine W_block ?_
            refine W_seq ?_
            refine W_reg tbok ⟨[], []⟩ [] [0, 1, 2] [(1, .adr 0 0 2 0), (2, .adr 1 0 2 0), (3, .p false (.int .i64) (d1.length : Int)), (4, .sl 2), (7, .p false .bool v590), (8, .p false (.int .i64) v591), (9, .p false (.int .i64) (0 : Int))] [(0, .box [.p β0 (.slice (.slice (.int .i64))) d1, .p β1 (.slice (.int .u32)) d2]), (1, .box [.nils, .nils]), (2, .mat 47 4 .bool v589 none)] 3 0 [True] (by kernel_rfl) (by kernel_rfl) ⟨trivial, trivial⟩ ?_
            refine to_then ?_
            refine W_block ?_
            obtain ⟨r200, hp204, h⟩ := h_bind h
            refine W.mono (Q := (postX Try.f14.ntmps 8 (fun ((v640, v641) : (List (List Bool)) × Bool) => mkSt [(1, .adr 0 0 2 0), (2, .adr 1 0 2 0), (3, .p false (.int .i64) (d1.length : Int)), (4, .sl 2), (7, .p false .bool v641), (8, .p false (.int .i64) v591)] [(0, .box [.p β0 (.slice (.slice (.int .i64))) d1, .p β1 (.slice (.int .u32)) d2]), (1, .box [.nils, .nils]), (2, .mat 47 4 .bool v640 none)] 3)) r200) (W_iter (f := fun ((v637, v638, v639) : (List (List Bool)) × Bool × Int) => mkSt [(1, .adr 0 0 2 0), (2, .adr 1 0 2 0), (3, .p false (.int .i64) (d1.length : Int)), (4, .sl 2), (7, .p false .bool v638), (8, .p false (.int .i64) v591), (9, .p false (.int .i64) v639)] [(0, .box [.p β0 (.slice (.slice (.int .i64))) d1, .p β1 (.slice (.int .u32)) d2]), (1, .box [.nils, .nils]), (2, .mat 47 4 .bool v637 none)] 3) (Q := (postX Try.f14.ntmps 8 (fun ((v640, v641) : (List (List Bool)) × Bool) => mkSt [(1, .adr 0 0 2 0), (2, .adr 1 0 2 0), (3, .p false (.int .i64) (d1.length : Int)), (4, .sl 2), (7, .p false .bool v641), (8, .p false (.int .i64) v591)] [(0, .box [.p β0 (.slice (.slice (.int .i64))) d1, .p β1 (.slice (.int .u32)) d2]), (1, .box [.nils, .nils]), (2, .mat 47 4 .bool v640 none)] 3))) hp204 (goal_le (gs := []) (f := [0, 1, 2]) (by kernel_rfl) (by kernel_rfl)) (fun y o ho => ?_)) (fun e σ' hq => ?_)
            · obtain ⟨v637, v638, v639⟩ := y
              replace h := ho
              clear ho hp204
              unfold stanzaref04_Least_L4 at h
              refine W_seq ?_
              refine W_seq ?_
              refine W_reg tbok ⟨[], []⟩ [] [0, 1, 2] [(1, .adr 0 0 2 0), (2, .adr 1 0 2 0), (3, .p false (.int .i64) (d1.length : Int)), (4, .sl 2), (7, .p false .bool v638), (8, .p false (.int .i64) v591), (9, .p false (.int .i64) v639), (66, .p false .bool (decide (v639 < (d1.length : Int))))] [(0, .box [.p β0 (.slice (.slice (.int .i64))) d1, .p β1 (.slice (.int .u32)) d2]), (1, .box [.nils, .nils]), (2, .mat 47 4 .bool v637 none)] 3 0 [True, True, True] (by kernel_rfl) (by kernel_rfl) ⟨trivial, trivial, trivial, trivial⟩ ?_
              refine to_then ?_
              refine W_cond (b := (decide (v639 < (d1.length : Int)))) (β := false) (by kernel_rfl) (fun hb519 => ?_) (fun hb519 => ?_)
              · replace h := h_if hb519 h
                refine W_skip_to ?_
                refine to_then ?_
                refine W_seq ?_
                refine W_block ?_
                refine W_seq ?_
                refine W_reg tbok ⟨[], []⟩ [] [0, 1, 2] [(1, .adr 0 0 2 0), (2, .adr 1 0 2 0), (3, .p false (.int .i64) (d1.length : Int)), (4, .sl 2), (7, .p false .bool v638), (8, .p false (.int .i64) v591), (9, .p false (.int .i64) v639), (10, .p false (.int .i64) (0 : Int))] [(0, .box [.p β0 (.slice (.slice (.int .i64))) d1, .p β1 (.slice (.int .u32)) d2]), (1, .box [.nils, .nils]), (2, .mat 47 4 .bool v637 none)] 3 0 [True] (by kernel_rfl) (by kernel_rfl) ⟨trivial, trivial⟩ ?_
                refine to_then ?_
                refine W_block ?_
                obtain ⟨r199, hp203, h⟩ := h_bind h
                refine W.mono (Q := (postX Try.f14.ntmps 10 (fun ((v656, v657) : (List (List Bool)) × Bool) => mkSt [(1, .adr 0 0 2 0), (2, .adr 1 0 2 0), (3, .p false (.int .i64) (d1.length : Int)), (4, .sl 2), (7, .p false .bool v657), (8, .p false (.int .i64) v591), (9, .p false (.int .i64) v639)] [(0, .box [.p β0 (.slice (.slice (.int .i64))) d1, .p β1 (.slice (.int .u32)) d2]), (1, .box [.nils, .nils]), (2, .mat 47 4 .bool v656 none)] 3)) r199) (W_iter (f := fun ((v653, v654, v655) : (List (List Bool)) × Bool × Int) => mkSt [(1, .adr 0 0 2 0), (2, .adr 1 0 2 0), (3, .p false (.int .i64) (d1.length : Int)), (4, .sl 2), (7, .p false .bool v654), (8, .p false (.int .i64) v591), (9, .p false (.int .i64) v639), (10, .p false (.int .i64) v655)] [(0, .box [.p β0 (.slice (.slice (.int .i64))) d1, .p β1 (.slice (.int .u32)) d2]), (1, .box [.nils, .nils]), (2, .mat 47 4 .bool v653 none)] 3) (Q := (postX Try.f14.ntmps 10 (fun ((v656, v657) : (List (List Bool)) × Bool) => mkSt [(1, .adr 0 0 2 0), (2, .adr 1 0 2 0), (3, .p false (.int .i64) (d1.length : Int)), (4, .sl 2), (7, .p false .bool v657), (8, .p false (.int .i64) v591), (9, .p false (.int .i64) v639)] [(0, .box [.p β0 (.slice (.slice (.int .i64))) d1, .p β1 (.slice (.int .u32)) d2]), (1, .box [.nils, .nils]), (2, .mat 47 4 .bool v656 none)] 3))) hp203 (goal_le (gs := []) (f := [0, 1, 2]) (by kernel_rfl) (by kernel_rfl)) (fun y o ho => ?_)) (fun e σ' hq => ?_)
                · obtain ⟨v653, v654, v655⟩ := y
                  replace h := ho
                  clear ho hp203
                  unfold stanzaref04_Least_L3 at h
                  refine W_seq ?_
                  refine W_seq ?_
                  obtain ⟨r197, hp201, h⟩ := h_bind h
                  refine W.mono (Q := (postN Try.f14.ntmps (fun ((v658, v659) : (List (List Bool)) × Bool) => mkSt [(1, .adr 0 0 2 0), (2, .adr 1 0 2 0), (3, .p false (.int .i64) (d1.length : Int)), (4, .sl 2), (7, .p false .bool v654), (8, .p false (.int .i64) v591), (9, .p false (.int .i64) v639), (10, .p false (.int .i64) v655), (86, .p false .bool v659)] [(0, .box [.p β0 (.slice (.slice (.int .i64))) d1, .p β1 (.slice (.int .u32)) d2]), (1, .box [.nils, .nils]), (2, .mat 47 4 .bool v658 none)] 3)) r197) ?_ (fun e σ' hq => ?_)
                  · replace h := hp201
                    clear hp201
                    obtain ⟨c3899, h⟩ := h_guard h
                    rcases Bool.eq_false_or_eq_true (decide (v655 < ((d1.getD v591.toNat ([] : List Int)).length : Int))) with hb534 | hb534
                    · replace h := h_if hb534 h
                      obtain ⟨c3900, h⟩ := h_guard h
                      obtain ⟨c3901, h⟩ := h_guard h
                      obtain ⟨c3902, h⟩ := h_guard h
                      obtain ⟨c3903, h⟩ := h_guard h
                      refine W_reg tbok ⟨[(8, true), (17, true)], []⟩ [.shut 2] [0, 1, 2] [(1, .adr 0 0 2 0), (2, .adr 1 0 2 0), (3, .p false (.int .i64) (d1.length : Int)), (4, .sl 2), (7, .p false .bool v654), (8, .p false (.int .i64) v591), (9, .p false (.int .i64) v639), (10, .p false (.int .i64) v655), (86, .p false .bool (!((v653.getD v591.toNat ([] : List Bool)).getD v639.toNat false)))] [(0, .box [.p β0 (.slice (.slice (.int .i64))) d1, .p β1 (.slice (.int .u32)) d2]), (1, .box [.nils, .nils]), (2, .mat 47 4 .bool (v653.set v591.toNat (v653.getD v591.toNat ([] : List Bool))) none)] 3 0 [True, True, True, True, 0 ≤ v591 ∧ v591 < (d1.length : Int), True, True, True, True, (decide (v655 < ((d1.getD v591.toNat ([] : List Int)).length : Int))) = true ∧ True, (decide (v655 < ((d1.getD v591.toNat ([] : List Int)).length : Int))) = true ∧ True, (decide (v655 < ((d1.getD v591.toNat ([] : List Int)).length : Int))) = true ∧ 0 ≤ v591 ∧ v591 < (v653.length : Int), (decide (v655 < ((d1.getD v591.toNat ([] : List Int)).length : Int))) = true ∧ v591.toNat < v653.length, (decide (v655 < ((d1.getD v591.toNat ([] : List Int)).length : Int))) = true ∧ True, (decide (v655 < ((d1.getD v591.toNat ([] : List Int)).length : Int))) = true ∧ 0 ≤ v639 ∧ v639 < ((v653.getD v591.toNat ([] : List Bool)).length : Int), (decide (v655 < ((d1.getD v591.toNat ([] : List Int)).length : Int))) = true ∧ v639.toNat < (v653.getD v591.toNat ([] : List Bool)).length, (decide (v655 < ((d1.getD v591.toNat ([] : List Int)).length : Int))) = true ∧ True, (decide (v655 < ((d1.getD v591.toNat ([] : List Int)).length : Int))) = true] (by kernel_rfl) (by kernel_rfl) ⟨trivial, trivial, trivial, trivial, c3899, trivial, trivial, trivial, trivial, ⟨hb534, trivial⟩, ⟨hb534, trivial⟩, ⟨hb534, c3900⟩, ⟨hb534, c3901⟩, ⟨hb534, trivial⟩, ⟨hb534, c3902⟩, ⟨hb534, c3903⟩, ⟨hb534, trivial⟩, hb534, trivial⟩ ?_
                      obtain rfl := Option.some.inj h
                      exact postN_to (goal_le (gs := []) (f := [0, 1, 2]) (by kernel_rfl) (by kernel_rfl))
                    · replace h := h_else hb534 h
                      refine W_reg tbok ⟨[(8, false), (17, false)], []⟩ [] [0, 1, 2] [(1, .adr 0 0 2 0), (2, .adr 1 0 2 0), (3, .p false (.int .i64) (d1.length : Int)), (4, .sl 2), (7, .p false .bool v654), (8, .p false (.int .i64) v591), (9, .p false (.int .i64) v639), (10, .p false (.int .i64) v655), (86, .p false .bool false)] [(0, .box [.p β0 (.slice (.slice (.int .i64))) d1, .p β1 (.slice (.int .u32)) d2]), (1, .box [.nils, .nils]), (2, .mat 47 4 .bool v653 none)] 3 0 [True, True, True, True, 0 ≤ v591 ∧ v591 < (d1.length : Int), True, True, True, True, (decide (v655 < ((d1.getD v591.toNat ([] : List Int)).length : Int))) = false, (decide (v655 < ((d1.getD v591.toNat ([] : List Int)).length : Int))) = false, (decide (v655 < ((d1.getD v591.toNat ([] : List Int)).length : Int))) = false, (decide (v655 < ((d1.getD v591.toNat ([] : List Int)).length : Int))) = false, (decide (v655 < ((d1.getD v591.toNat ([] : List Int)).length : Int))) = false, (decide (v655 < ((d1.getD v591.toNat ([] : List Int)).length : Int))) = false, (decide (v655 < ((d1.getD v591.toNat ([] : List Int)).length : Int))) = false, (decide (v655 < ((d1.getD v591.toNat ([] : List Int)).length : Int))) = false, (decide (v655 < ((d1.getD v591.toNat ([] : List Int)).length : Int))) = false] (by kernel_rfl) (by kernel_rfl) ⟨trivial, trivial, trivial, trivial, c3899, trivial, trivial, trivial, trivial, hb534, hb534, hb534, hb534, hb534, hb534, hb534, hb534, hb534, trivial⟩ ?_
                      obtain rfl := Option.some.inj h
                      exact postN_to (goal_le (gs := []) (f := [0, 1, 2]) (by kernel_rfl) (by kernel_rfl))
                  · clear hp201
                    obtain ⟨v658, v659⟩ := r197
                    obtain ⟨rfl, hle⟩ := hq
                    refine use_to ?_ hle
                    refine to_then ?_
                    refine W_cond (b := v659) (β := false) (by kernel_rfl) (fun hb535 => ?_) (fun hb535 => ?_)
                    · replace h := h_if hb535 h
                      refine W_skip_to ?_
                      refine to_then ?_
                      refine W_seq ?_
                      refine W_block ?_
                      refine W_seq ?_
                      obtain ⟨c3912, h⟩ := h_guard h
                      obtain ⟨c3913, h⟩ := h_guard h
                      obtain ⟨c3914, h⟩ := h_guard h
                      obtain ⟨c3915, h⟩ := h_guard h
                      obtain ⟨c3916, h⟩ := h_guard h
                      obtain ⟨c3917, h⟩ := h_guard h
                      obtain ⟨c3918, h⟩ := h_guard h
                      obtain ⟨c3919, h⟩ := h_guard h
                      refine W_regD tbok mixed ⟨[], []⟩ [.shut 2] [0, 1, 2] [(1, .adr 0 0 2 0), (2, .adr 1 0 2 0), (3, .p false (.int .i64) (d1.length : Int)), (4, .sl 2), (7, .p false .bool v654), (8, .p false (.int .i64) v591), (9, .p false (.int .i64) v639), (10, .p false (.int .i64) v655), (109, .p false .bool ((v658.getD (((d1.getD v591.toNat ([] : List Int)).getD v655.toNat (0 : Int)).toNat) ([] : List Bool)).getD (((d1.getD v639.toNat ([] : List Int)).getD v655.toNat (0 : Int)).toNat) false))] [(0, .box [.p β0 (.slice (.slice (.int .i64))) d1, .p β1 (.slice (.int .u32)) d2]), (1, .box [.nils, .nils]), (2, .mat 47 4 .bool (v658.set (((d1.getD v591.toNat ([] : List Int)).getD v655.toNat (0 : Int)).toNat) (v658.getD (((d1.getD v591.toNat ([] : List Int)).getD v655.toNat (0 : Int)).toNat) ([] : List Bool))) none)] 3 0 [True, True, True, True, 0 ≤ v591 ∧ v591 < (d1.length : Int), True, True, 0 ≤ v655 ∧ v655 < ((d1.getD v591.toNat ([] : List Int)).length : Int), True, 0 ≤ ((d1.getD v591.toNat ([] : List Int)).getD v655.toNat (0 : Int)) ∧ ((d1.getD v591.toNat ([] : List Int)).getD v655.toNat (0 : Int)) < (v658.length : Int), ((d1.getD v591.toNat ([] : List Int)).getD v655.toNat (0 : Int)).toNat < v658.length, True, True, True, 0 ≤ v639 ∧ v639 < (d1.length : Int), True, True, 0 ≤ v655 ∧ v655 < ((d1.getD v639.toNat ([] : List Int)).length : Int), True, 0 ≤ ((d1.getD v639.toNat ([] : List Int)).getD v655.toNat (0 : Int)) ∧ ((d1.getD v639.toNat ([] : List Int)).getD v655.toNat (0 : Int)) < ((v658.getD (((d1.getD v591.toNat ([] : List Int)).getD v655.toNat (0 : Int)).toNat) ([] : List Bool)).length : Int), ((d1.getD v639.toNat ([] : List Int)).getD v655.toNat (0 : Int)).toNat < (v658.getD (((d1.getD v591.toNat ([] : List Int)).getD v655.toNat (0 : Int)).toNat) ([] : List Bool)).length] (by kernel_rfl) (by kernel_rfl) ⟨trivial, trivial, trivial, trivial, c3912, trivial, trivial, c3913, trivial, c3914, c3915, trivial, trivial, trivial, c3916, trivial, trivial, c3917, trivial, c3918, c3919, trivial⟩ ?_
                      refine to_then ?_
                      obtain ⟨r198, hp202, h⟩ := h_bind h
                      refine W.mono (Q := (postN Try.f14.ntmps (fun ((v660, v661) : (List (List Bool)) × Bool) => mkSt [(1, .adr 0 0 2 0), (2, .adr 1 0 2 0), (3, .p false (.int .i64) (d1.length : Int)), (4, .sl 2), (7, .p false .bool v661), (8, .p false (.int .i64) v591), (9, .p false (.int .i64) v639), (10, .p false (.int .i64) v655)] [(0, .box [.p β0 (.slice (.slice (.int .i64))) d1, .p β1 (.slice (.int .u32)) d2]), (1, .box [.nils, .nils]), (2, .mat 47 4 .bool v660 none)] 3)) r198) ?_ (fun e σ' hq => ?_)
                      · replace h := hp202
                        clear hp202
                        refine W_cond (b := ((v658.getD (((d1.getD v591.toNat ([] : List Int)).getD v655.toNat (0 : Int)).toNat) ([] : List Bool)).getD (((d1.getD v639.toNat ([] : List Int)).getD v655.toNat (0 : Int)).toNat) false)) (β := false) (by kernel_rfl) (fun hb537 => ?_) (fun hb537 => ?_)
                        · replace h := h_if hb537 h
                          refine W_seq ?_
                          obtain ⟨c3932, h⟩ := h_guard h
                          obtain ⟨c3933, h⟩ := h_guard h
                          obtain ⟨c3934, h⟩ := h_guard h
                          obtain ⟨c3935, h⟩ := h_guard h
                          refine W_reg tbok ⟨[], []⟩ [.shut 2] [0, 1, 2] [(1, .adr 0 0 2 0), (2, .adr 1 0 2 0), (3, .p false (.int .i64) (d1.length : Int)), (4, .sl 2), (8, .p false (.int .i64) v591), (9, .p false (.int .i64) v639), (10, .p false (.int .i64) v655)] [(0, .box [.p β0 (.slice (.slice (.int .i64))) d1, .p β1 (.slice (.int .u32)) d2]), (1, .box [.nils, .nils]), (2, .mat 47 4 .bool ((v658.set (((d1.getD v591.toNat ([] : List Int)).getD v655.toNat (0 : Int)).toNat) (v658.getD (((d1.getD v591.toNat ([] : List Int)).getD v655.toNat (0 : Int)).toNat) ([] : List Bool))).set v591.toNat (((v658.set (((d1.getD v591.toNat ([] : List Int)).getD v655.toNat (0 : Int)).toNat) (v658.getD (((d1.getD v591.toNat ([] : List Int)).getD v655.toNat (0 : Int)).toNat) ([] : List Bool))).getD v591.toNat ([] : List Bool)).set v639.toNat true)) none)] 3 0 [True, True, 0 ≤ v591 ∧ v591 < ((v658.set (((d1.getD v591.toNat ([] : List Int)).getD v655.toNat (0 : Int)).toNat) (v658.getD (((d1.getD v591.toNat ([] : List Int)).getD v655.toNat (0 : Int)).toNat) ([] : List Bool))).length : Int), v591.toNat < (v658.set (((d1.getD v591.toNat ([] : List Int)).getD v655.toNat (0 : Int)).toNat) (v658.getD (((d1.getD v591.toNat ([] : List Int)).getD v655.toNat (0 : Int)).toNat) ([] : List Bool))).length, True, 0 ≤ v639 ∧ v639 < (((v658.set (((d1.getD v591.toNat ([] : List Int)).getD v655.toNat (0 : Int)).toNat) (v658.getD (((d1.getD v591.toNat ([] : List Int)).getD v655.toNat (0 : Int)).toNat) ([] : List Bool))).getD v591.toNat ([] : List Bool)).length : Int), v639.toNat < ((v658.set (((d1.getD v591.toNat ([] : List Int)).getD v655.toNat (0 : Int)).toNat) (v658.getD (((d1.getD v591.toNat ([] : List Int)).getD v655.toNat (0 : Int)).toNat) ([] : List Bool))).getD v591.toNat ([] : List Bool)).length] (by kernel_rfl) (by kernel_rfl) ⟨trivial, trivial, c3932, c3933, trivial, c3934, c3935, trivial⟩ ?_
                          refine to_then ?_
                          refine W_reg tbok ⟨[], []⟩ [] [0, 1, 2] [(1, .adr 0 0 2 0), (2, .adr 1 0 2 0), (3, .p false (.int .i64) (d1.length : Int)), (4, .sl 2), (7, .p false .bool true), (8, .p false (.int .i64) v591), (9, .p false (.int .i64) v639), (10, .p false (.int .i64) v655)] [(0, .box [.p β0 (.slice (.slice (.int .i64))) d1, .p β1 (.slice (.int .u32)) d2]), (1, .box [.nils, .nils]), (2, .mat 47 4 .bool ((v658.set (((d1.getD v591.toNat ([] : List Int)).getD v655.toNat (0 : Int)).toNat) (v658.getD (((d1.getD v591.toNat ([] : List Int)).getD v655.toNat (0 : Int)).toNat) ([] : List Bool))).set v591.toNat (((v658.set (((d1.getD v591.toNat ([] : List Int)).getD v655.toNat (0 : Int)).toNat) (v658.getD (((d1.getD v591.toNat ([] : List Int)).getD v655.toNat (0 : Int)).toNat) ([] : List Bool))).getD v591.toNat ([] : List Bool)).set v639.toNat true)) none)] 3 0 [True] (by kernel_rfl) (by kernel_rfl) ⟨trivial, trivial⟩ ?_
                          obtain rfl := Option.some.inj h
                          exact postN_to (goal_le (gs := []) (f := [0, 1, 2]) (by kernel_rfl) (by kernel_rfl))
                        · replace h := h_else hb537 h
                          refine W_skip_to ?_
                          obtain rfl := Option.some.inj h
                          exact postN_to (goal_le (gs := []) (f := [0, 1, 2]) (by kernel_rfl) (by kernel_rfl))
                      · clear hp202
                        obtain ⟨v660, v661⟩ := r198
                        obtain ⟨rfl, hle⟩ := hq
                        refine use_to ?_ hle
                        refine to_block ?_
                        refine to_then ?_
                        refine W_reg tbok ⟨[], []⟩ [] [0, 1, 2] [(1, .adr 0 0 2 0), (2, .adr 1 0 2 0), (3, .p false (.int .i64) (d1.length : Int)), (4, .sl 2), (7, .p false .bool v661), (8, .p false (.int .i64) v591), (9, .p false (.int .i64) v639), (10, .p false (.int .i64) (IntKind.i64.wrap (v655 + (1 : Int))))] [(0, .box [.p β0 (.slice (.slice (.int .i64))) d1, .p β1 (.slice (.int .u32)) d2]), (1, .box [.nils, .nils]), (2, .mat 47 4 .bool v660 none)] 3 0 [True, True, True] (by kernel_rfl) (by kernel_rfl) ⟨trivial, trivial, trivial, trivial⟩ ?_
                        obtain rfl := Option.some.inj h
                        exact roundB (goal_le (gs := []) (f := [0, 1, 2]) (by kernel_rfl) (by kernel_rfl))
                    · replace h := h_else hb535 h
                      refine W_exit_to ?_
                      refine thenE ?_
                      obtain rfl := Option.some.inj h
                      refine roundE ?_
                      exact postX_to (goal_le (gs := []) (f := [0, 1, 2]) (by kernel_rfl) (by kernel_rfl))
                · clear hp203
                  obtain ⟨v656, v657⟩ := r199
                  obtain ⟨rfl, hle⟩ := hq
                  refine use_to ?_ hle
                  refine blockE_eq ?_
                  refine to_block ?_
                  refine to_then ?_
                  refine W_reg tbok ⟨[], []⟩ [] [0, 1, 2] [(1, .adr 0 0 2 0), (2, .adr 1 0 2 0), (3, .p false (.int .i64) (d1.length : Int)), (4, .sl 2), (7, .p false .bool v657), (8, .p false (.int .i64) v591), (9, .p false (.int .i64) (IntKind.i64.wrap (v639 + (1 : Int))))] [(0, .box [.p β0 (.slice (.slice (.int .i64))) d1, .p β1 (.slice (.int .u32)) d2]), (1, .box [.nils, .nils]), (2, .mat 47 4 .bool v656 none)] 3 0 [True, True, True] (by kernel_rfl) (by kernel_rfl) ⟨trivial, trivial, trivial, trivial⟩ ?_
                  obtain rfl := Option.some.inj h
                  exact roundB (goal_le (gs := []) (f := [0, 1, 2]) (by kernel_rfl) (by kernel_rfl))
              · replace h := h_else hb519 h
                refine W_exit_to ?_
                refine thenE ?_
                obtain rfl := Option.some.inj h
                refine roundE ?_
                exact postX_to (goal_le (gs := []) (f := [0, 1, 2]) (by kernel_rfl) (by kernel_rfl))
            · clear hp204
              obtain ⟨v640, v641⟩ := r200
              obtain ⟨rfl, hle⟩ := hq
              refine use_to ?_ hle
              refine blockE_eq ?_
              refine to_block ?_
              refine to_then ?_
              refine W_reg tbok ⟨[], []⟩ [] [0, 1, 2] [(1, .adr 0 0 2 0), (2, .adr 1 0 2 0), (3, .p false (.int .i64) (d1.length : Int)), (4, .sl 2), (7, .p false .bool v641), (8, .p false (.int .i64) (IntKind.i64.wrap (v591 + (1 : Int))))] [(0, .box [.p β0 (.slice (.slice (.int .i64))) d1, .p β1 (.slice (.int .u32)) d2]), (1, .box [.nils, .nils]), (2, .mat 47 4 .bool v640 none)] 3 0 [True, True, True] (by kernel_rfl) (by kernel_rfl) ⟨trivial, trivial, trivial, trivial⟩ ?_
              obtain rfl := Option.some.inj h
              exact roundB (goal_le (gs := []) (f := [0, 1, 2]) (by kernel_rfl) (by kernel_rfl))
          · replace h := h_else hb480 h
            refine W_exit_to ?_
            refine thenE ?_
            obtain rfl := Option.some.inj h
            refine roundE ?_
            exact postX_to (goal_le (gs := []) (f := [0, 1, 2]) (by kernel_rfl) (by kernel_rfl))
        · clear hp205
          obtain ⟨v592, v593⟩ := r201
          obtain ⟨rfl, hle⟩ := hq
          refine use_to ?_ hle
          refine blockE_eq ?_
          refine to_block ?_
          obtain rfl := Option.some.inj h
          exact roundB (goal_le (gs := []) (f := [0, 1, 2]) (by kernel_rfl) (by kernel_rfl))
      · replace h := h_else hb363 h
        refine W_exit_to ?_
        refine thenE ?_
        obtain rfl := Option.some.inj h
        refine roundE ?_
        exact postX_to (goal_le (gs := []) (f := [0, 1, 2]) (by kernel_rfl) (by kernel_rfl))
    · clear hp206
      obtain ⟨rfl, hle⟩ := hq
      refine use_to ?_ hle
      refine blockE_eq ?_
      refine to_then ?_
      refine W_seq ?_
      obtain ⟨c3937, h⟩ := h_guard h
      refine W_reg tbok ⟨[], []⟩ [] [0, 1, 2, 11] [(1, .adr 0 0 2 0), (2, .adr 1 0 2 0), (3, .p false (.int .i64) (d1.length : Int)), (4, .sl 2), (11, .sl 3)] [(0, .box [.p β0 (.slice (.slice (.int .i64))) d1, .p β1 (.slice (.int .u32)) d2]), (1, .box [.nils, .nils]), (2, .mat 47 4 .bool v449 none), (3, .arr 3 (.int .i64) (List.replicate (d1.length : Int).toNat (0 : Int)))] 4 0 [True, 0 ≤ (d1.length : Int) ∧ (d1.length : Int) ≤ (d1.length : Int) ∧ (8 : Int) * (d1.length : Int) ≤ 281474976710656 ∧ (d1.length : Int) ≤ 9223372036854775807, True] (by kernel_rfl) (by kernel_rfl) ⟨trivial, c3937, trivial, trivial⟩ ?_
      refine to_then ?_
      refine W_seq ?_
      refine W_seq ?_
      refine W_reg tbok ⟨[], []⟩ [] [0, 1, 2, 3] [(1, .adr 0 0 2 0), (2, .adr 1 0 2 0), (3, .p false (.int .i64) (d1.length : Int)), (4, .sl 2), (11, .sl 3), (12, .p false (.int .i64) (0 : Int))] [(0, .box [.p β0 (.slice (.slice (.int .i64))) d1, .p β1 (.slice (.int .u32)) d2]), (1, .box [.nils, .nils]), (2, .mat 47 4 .bool v449 none), (3, .arr 3 (.int .i64) (List.replicate (d1.length : Int).toNat (0 : Int)))] 4 0 [True] (by kernel_rfl) (by kernel_rfl) ⟨trivial, trivial⟩ ?_
      refine to_then ?_
      refine W_block ?_
      obtain ⟨v690, hp219, h⟩ := h_bind h
      refine W.mono (Q := (postX Try.f14.ntmps 12 (fun (v690 : List Int) => mkSt [(1, .adr 0 0 2 0), (2, .adr 1 0 2 0), (11, .sl 2)] [(0, .box [.p β0 (.slice (.slice (.int .i64))) d1, .p β1 (.slice (.int .u32)) d2]), (1, .box [.nils, .nils]), (2, .arr 3 (.int .i64) v690)] 3)) v690) (W_iter (f := fun ((v687, v688, v689) : (List (List Bool)) × (List Int) × Int) => mkSt [(1, .adr 0 0 2 0), (2, .adr 1 0 2 0), (3, .p false (.int .i64) (d1.length : Int)), (4, .sl 2), (11, .sl 3), (12, .p false (.int .i64) v689)] [(0, .box [.p β0 (.slice (.slice (.int .i64))) d1, .p β1 (.slice (.int .u32)) d2]), (1, .box [.nils, .nils]), (2, .mat 47 4 .bool v687 none), (3, .arr 3 (.int .i64) v688)] 4) (Q := (postX Try.f14.ntmps 12 (fun (v690 : List Int) => mkSt [(1, .adr 0 0 2 0), (2, .adr 1 0 2 0), (11, .sl 2)] [(0, .box [.p β0 (.slice (.slice (.int .i64))) d1, .p β1 (.slice (.int .u32)) d2]), (1, .box [.nils, .nils]), (2, .arr 3 (.int .i64) v690)] 3))) hp219 (goal_le (gs := []) (f := [0, 1, 2, 3]) (by kernel_rfl) (by kernel_rfl)) (fun y o ho => ?_)) (fun e σ' hq => ?_)
      · obtain ⟨v687, v688, v689⟩ := y
        replace h := ho
        clear ho hp219
        unfold stanzaref04_Least_L8 at h
        refine W_seq ?_
        refine W_seq ?_
        refine W_reg tbok ⟨[], []⟩ [] [0, 1, 2, 3] [(1, .adr 0 0 2 0), (2, .adr 1 0 2 0), (3, .p false (.int .i64) (d1.length : Int)), (4, .sl 2), (11, .sl 3), (12, .p false (.int .i64) v689), (120, .p false .bool (decide (v689 < (d1.length : Int))))] [(0, .box [.p β0 (.slice (.slice (.int .i64))) d1, .p β1 (.slice (.int .u32)) d2]), (1, .box [.nils, .nils]), (2, .mat 47 4 .bool v687 none), (3, .arr 3 (.int .i64) v688)] 4 0 [True, True, True] (by kernel_rfl) (by kernel_rfl) ⟨trivial, trivial, trivial, trivial⟩ ?_
        refine to_then ?_
        refine W_cond (b := (decide (v689 < (d1.length : Int)))) (β := false) (by kernel_rfl) (fun hb558 => ?_) (fun hb558 => ?_)
        · replace h := h_if hb558 h
          refine W_skip_to ?_
          refine to_then ?_
          refine W_seq ?_
          refine W_block ?_
          refine W_seq ?_
          obtain ⟨c4044, h⟩ := h_guard h
          obtain ⟨c4045, h⟩ := h_guard h
          refine W_reg tbok ⟨[], []⟩ [] [0, 1, 2, 3] [(1, .adr 0 0 2 0), (2, .adr 1 0 2 0), (3, .p false (.int .i64) (d1.length : Int)), (4, .sl 2), (11, .sl 3), (12, .p false (.int .i64) v689)] [(0, .box [.p β0 (.slice (.slice (.int .i64))) d1, .p β1 (.slice (.int .u32)) d2]), (1, .box [.nils, .nils]), (2, .mat 47 4 .bool v687 none), (3, .arr 3 (.int .i64) (v688.set v689.toNat v689))] 4 0 [True, True, True, 0 ≤ v689 ∧ v689 < (v688.length : Int), v689.toNat < v688.length] (by kernel_rfl) (by kernel_rfl) ⟨trivial, trivial, trivial, c4044, c4045, trivial⟩ ?_
          refine to_then ?_
          refine W_seq ?_
          refine W_reg tbok ⟨[], []⟩ [] [0, 1, 2, 3] [(1, .adr 0 0 2 0), (2, .adr 1 0 2 0), (3, .p false (.int .i64) (d1.length : Int)), (4, .sl 2), (11, .sl 3), (12, .p false (.int .i64) v689), (13, .p false (.int .i64) v689)] [(0, .box [.p β0 (.slice (.slice (.int .i64))) d1, .p β1 (.slice (.int .u32)) d2]), (1, .box [.nils, .nils]), (2, .mat 47 4 .bool v687 none), (3, .arr 3 (.int .i64) (v688.set v689.toNat v689))] 4 0 [True, True] (by kernel_rfl) (by kernel_rfl) ⟨trivial, trivial, trivial⟩ ?_
          refine to_then ?_
          refine W_block ?_
          obtain ⟨r204, hp218, h⟩ := h_bind h
          refine W.mono (Q := (postX Try.f14.ntmps 14 (fun ((v699, v700) : (List (List Bool)) × List Int) => mkSt [(1, .adr 0 0 2 0), (2, .adr 1 0 2 0), (3, .p false (.int .i64) (d1.length : Int)), (4, .sl 2), (11, .sl 3), (12, .p false (.int .i64) v689)] [(0, .box [.p β0 (.slice (.slice (.int .i64))) d1, .p β1 (.slice (.int .u32)) d2]), (1, .box [.nils, .nils]), (2, .mat 47 4 .bool v699 none), (3, .arr 3 (.int .i64) v700)] 4)) r204) (W_iter (f := fun ((v696, v697, v698) : (List (List Bool)) × (List Int) × Int) => mkSt [(1, .adr 0 0 2 0), (2, .adr 1 0 2 0), (3, .p false (.int .i64) (d1.length : Int)), (4, .sl 2), (11, .sl 3), (12, .p false (.int .i64) v689), (13, .p false (.int .i64) v698)] [(0, .box [.p β0 (.slice (.slice (.int .i64))) d1, .p β1 (.slice (.int .u32)) d2]), (1, .box [.nils, .nils]), (2, .mat 47 4 .bool v696 none), (3, .arr 3 (.int .i64) v697)] 4) (Q := (postX Try.f14.ntmps 14 (fun ((v699, v700) : (List (List Bool)) × List Int) => mkSt [(1, .adr 0 0 2 0), (2, .adr 1 0 2 0), (3, .p false (.int .i64) (d1.length : Int)), (4, .sl 2), (11, .sl 3), (12, .p false (.int .i64) v689)] [(0, .box [.p β0 (.slice (.slice (.int .i64))) d1, .p β1 (.slice (.int .u32)) d2]), (1, .box [.nils, .nils]), (2, .mat 47 4 .bool v699 none), (3, .arr 3 (.int .i64) v700)] 4))) hp218 (goal_le (gs := []) (f := [0, 1, 2, 3]) (by kernel_rfl) (by kernel_rfl)) (fun y o ho => ?_)) (fun e σ' hq => ?_)
          · obtain ⟨v696, v697, v698⟩ := y
            replace h := ho
            clear ho hp218
            unfold stanzaref04_Least_L7 at h
            refine W_seq ?_
            refine W_seq ?_
            refine W_reg tbok ⟨[], []⟩ [] [0, 1, 2, 3] [(1, .adr 0 0 2 0), (2, .adr 1 0 2 0), (3, .p false (.int .i64) (d1.length : Int)), (4, .sl 2), (11, .sl 3), (12, .p false (.int .i64) v689), (13, .p false (.int .i64) v698), (129, .p false .bool (decide (v698 ≥ (0 : Int))))] [(0, .box [.p β0 (.slice (.slice (.int .i64))) d1, .p β1 (.slice (.int .u32)) d2]), (1, .box [.nils, .nils]), (2, .mat 47 4 .bool v696 none), (3, .arr 3 (.int .i64) v697)] 4 0 [True, True] (by kernel_rfl) (by kernel_rfl) ⟨trivial, trivial, trivial⟩ ?_
            refine to_then ?_
            refine W_cond (b := (decide (v698 ≥ (0 : Int)))) (β := false) (by kernel_rfl) (fun hb565 => ?_) (fun hb565 => ?_)
            · replace h := h_if hb565 h
              refine W_skip_to ?_
              refine to_then ?_
              refine W_seq ?_
              refine W_block ?_
              refine W_seq ?_
              obtain ⟨c4082, h⟩ := h_guard h
              obtain ⟨c4083, h⟩ := h_guard h
              obtain ⟨c4084, h⟩ := h_guard h
              obtain ⟨c4085, h⟩ := h_guard h
              refine W_reg tbok ⟨[], []⟩ [.shut 2] [0, 1, 2, 3] [(1, .adr 0 0 2 0), (2, .adr 1 0 2 0), (3, .p false (.int .i64) (d1.length : Int)), (4, .sl 2), (11, .sl 3), (12, .p false (.int .i64) v689), (13, .p false (.int .i64) v698), (139, .p false .bool (!((v696.getD v689.toNat ([] : List Bool)).getD v698.toNat false)))] [(0, .box [.p β0 (.slice (.slice (.int .i64))) d1, .p β1 (.slice (.int .u32)) d2]), (1, .box [.nils, .nils]), (2, .mat 47 4 .bool (v696.set v689.toNat (v696.getD v689.toNat ([] : List Bool))) none), (3, .arr 3 (.int .i64) v697)] 4 0 [True, True, 0 ≤ v689 ∧ v689 < (v696.length : Int), v689.toNat < v696.length, True, 0 ≤ v698 ∧ v698 < ((v696.getD v689.toNat ([] : List Bool)).length : Int), v698.toNat < (v696.getD v689.toNat ([] : List Bool)).length, True] (by kernel_rfl) (by kernel_rfl) ⟨trivial, trivial, c4082, c4083, trivial, c4084, c4085, trivial, trivial⟩ ?_
              refine to_then ?_
              obtain ⟨v701, hp217, h⟩ := h_bind h
              refine W.mono (Q := (postN Try.f14.ntmps (fun (v701 : List Int) => mkSt [(1, .adr 0 0 2 0), (2, .adr 1 0 2 0), (3, .p false (.int .i64) (d1.length : Int)), (4, .sl 2), (11, .sl 3), (12, .p false (.int .i64) v689), (13, .p false (.int .i64) v698)] [(0, .box [.p β0 (.slice (.slice (.int .i64))) d1, .p β1 (.slice (.int .u32)) d2]), (1, .box [.nils, .nils]), (2, .mat 47 4 .bool (v696.set v689.toNat (v696.getD v689.toNat ([] : List Bool))) none), (3, .arr 3 (.int .i64) v701)] 4)) v701) ?_ (fun e σ' hq => ?_)
              · replace h := hp217
                clear hp217
                refine W_cond (b := (!((v696.getD v689.toNat ([] : List Bool)).getD v698.toNat false))) (β := false) (by kernel_rfl) (fun hb567 => ?_) (fun hb567 => ?_)
                · replace h := h_if hb567 h
                  obtain ⟨c4092, h⟩ := h_guard h
                  obtain ⟨c4093, h⟩ := h_guard h
                  refine W_reg tbok ⟨[], []⟩ [] [0, 1, 2, 3] [(1, .adr 0 0 2 0), (2, .adr 1 0 2 0), (3, .p false (.int .i64) (d1.length : Int)), (4, .sl 2), (11, .sl 3), (12, .p false (.int .i64) v689), (13, .p false (.int .i64) v698)] [(0, .box [.p β0 (.slice (.slice (.int .i64))) d1, .p β1 (.slice (.int .u32)) d2]), (1, .box [.nils, .nils]), (2, .mat 47 4 .bool (v696.set v689.toNat (v696.getD v689.toNat ([] : List Bool))) none), (3, .arr 3 (.int .i64) (v697.set v689.toNat v698))] 4 0 [True, True, True, 0 ≤ v689 ∧ v689 < (v697.length : Int), v689.toNat < v697.length] (by kernel_rfl) (by kernel_rfl) ⟨trivial, trivial, trivial, c4092, c4093, trivial⟩ ?_
                  obtain rfl := Option.some.inj h
                  exact postN_to (goal_le (gs := []) (f := [0, 1, 2, 3]) (by kernel_rfl) (by kernel_rfl))
                · replace h := h_else hb567 h
                  refine W_skip_to ?_
                  obtain rfl := Option.some.inj h
                  exact postN_to (goal_le (gs := []) (f := [0, 1, 2, 3]) (by kernel_rfl) (by kernel_rfl))
              · clear hp217
                obtain ⟨rfl, hle⟩ := hq
                refine use_to ?_ hle
                refine to_block ?_
                refine to_then ?_
                refine W_reg tbok ⟨[], []⟩ [] [0, 1, 2, 3] [(1, .adr 0 0 2 0), (2, .adr 1 0 2 0), (3, .p false (.int .i64) (d1.length : Int)), (4, .sl 2), (11, .sl 3), (12, .p false (.int .i64) v689), (13, .p false (.int .i64) (IntKind.i64.wrap (v698 - (1 : Int))))] [(0, .box [.p β0 (.slice (.slice (.int .i64))) d1, .p β1 (.slice (.int .u32)) d2]), (1, .box [.nils, .nils]), (2, .mat 47 4 .bool (v696.set v689.toNat (v696.getD v689.toNat ([] : List Bool))) none), (3, .arr 3 (.int .i64) v701)] 4 0 [True, True, True] (by kernel_rfl) (by kernel_rfl) ⟨trivial, trivial, trivial, trivial⟩ ?_
                obtain rfl := Option.some.inj h
                exact roundB (goal_le (gs := []) (f := [0, 1, 2, 3]) (by kernel_rfl) (by kernel_rfl))
            · replace h := h_else hb565 h
              refine W_exit_to ?_
              refine thenE ?_
              obtain rfl := Option.some.inj h
              refine roundE ?_
              exact postX_to (goal_le (gs := []) (f := [0, 1, 2, 3]) (by kernel_rfl) (by kernel_rfl))
          · clear hp218
            obtain ⟨v699, v700⟩ := r204
            obtain ⟨rfl, hle⟩ := hq
            refine use_to ?_ hle
            refine blockE_eq ?_
            refine to_block ?_
            refine to_then ?_
            refine W_reg tbok ⟨[], []⟩ [] [0, 1, 2, 3] [(1, .adr 0 0 2 0), (2, .adr 1 0 2 0), (3, .p false (.int .i64) (d1.length : Int)), (4, .sl 2), (11, .sl 3), (12, .p false (.int .i64) (IntKind.i64.wrap (v689 + (1 : Int))))] [(0, .box [.p β0 (.slice (.slice (.int .i64))) d1, .p β1 (.slice (.int .u32)) d2]), (1, .box [.nils, .nils]), (2, .mat 47 4 .bool v699 none), (3, .arr 3 (.int .i64) v700)] 4 0 [True, True, True] (by kernel_rfl) (by kernel_rfl) ⟨trivial, trivial, trivial, trivial⟩ ?_
            obtain rfl := Option.some.inj h
            exact roundB (goal_le (gs := []) (f := [0, 1, 2, 3]) (by kernel_rfl) (by kernel_rfl))
        · replace h := h_else hb558 h
          refine W_exit_to ?_
          refine thenE ?_
          obtain rfl := Option.some.inj h
          refine roundE ?_
          exact postX_to (goal_le (gs := []) (f := [0, 1, 3]) (by kernel_rfl) (by kernel_rfl))
      · clear hp219
        obtain ⟨rfl, hle⟩ := hq
        refine use_to ?_ hle
        refine blockE_eq ?_
        refine to_then ?_
        refine W_seq ?_
        obtain ⟨c4096, h⟩ := h_guard h
        obtain ⟨c4097, h⟩ := h_guard h
        refine W_reg tbok ⟨[], []⟩ [] [0, 1, 2, 27] [(1, .adr 0 0 2 0), (2, .adr 1 0 2 0), (11, .sl 2), (14, .sl 3)] [(0, .box [.p β0 (.slice (.slice (.int .i64))) d1, .p β1 (.slice (.int .u32)) d2]), (1, .box [.nils, .nils]), (2, .arr 3 (.int .i64) v690), (3, .arr 3 (.int .i64) ([(v690.getD ((0 : Int).toNat) (0 : Int))] : List Int))] 4 0 [True, 0 ≤ (0 : Int) ∧ (0 : Int) < (v690.length : Int), (0 : Int).toNat < v690.length, True, True] (by kernel_rfl) (by kernel_rfl) ⟨trivial, c4096, c4097, trivial, trivial, trivial⟩ ?_
        refine to_then ?_
        refine W_seq ?_
        refine W_reg tbok ⟨[], []⟩ [] [0, 1, 2, 3, 12] [(1, .adr 0 0 2 0), (2, .adr 1 0 2 0), (11, .sl 2), (14, .sl 3), (15, .adr 4 0 2 0)] [(0, .box [.p β0 (.slice (.slice (.int .i64))) d1, .p β1 (.slice (.int .u32)) d2]), (1, .box [.nils, .nils]), (2, .arr 3 (.int .i64) v690), (3, .arr 3 (.int .i64) ([(v690.getD ((0 : Int).toNat) (0 : Int))] : List Int)), (4, .box [.nils, .nils])] 5 0 [True, True, True] (by kernel_rfl) (by kernel_rfl) ⟨trivial, trivial, trivial, trivial⟩ ?_
        refine to_then ?_
        refine W_seq ?_
        refine W_seq ?_
        refine W_reg tbok ⟨[], []⟩ [] [0, 1, 2, 3, 4] [(1, .adr 0 0 2 0), (2, .adr 1 0 2 0), (11, .sl 2), (14, .sl 3), (15, .adr 4 0 2 0), (16, .p false (.int .i64) (0 : Int))] [(0, .box [.p β0 (.slice (.slice (.int .i64))) d1, .p β1 (.slice (.int .u32)) d2]), (1, .box [.nils, .nils]), (2, .arr 3 (.int .i64) v690), (3, .arr 3 (.int .i64) ([(v690.getD ((0 : Int).toNat) (0 : Int))] : List Int)), (4, .box [.nils, .nils])] 5 0 [True] (by kernel_rfl) (by kernel_rfl) ⟨trivial, trivial⟩ ?_
        refine to_then ?_
        refine W_block ?_
        obtain ⟨r208, hp268, h⟩ := h_bind h
        refine W.mono (Q := (postX Try.f14.ntmps 16 (fun ((v768, v769) : (List (List Int)) × List Int) => mkSt [(2, .adr 0 0 2 0), (15, .adr 1 0 2 0)] [(0, .box [.nils, .nils]), (1, .box [.sl 2, .sl 3]), (2, .arr 23 (.slice (.int .i64)) v768), (3, .arr 37 (.int .u32) v769)] 4)) r208) (W_iter (f := fun ((v764, v765, v766, v767) : (List Int) × (List (List Int)) × (List Int) × Int) => mkSt [(1, .adr 0 0 2 0), (2, .adr 1 0 2 0), (11, .sl 2), (14, .sl 3), (15, .adr 4 0 2 0), (16, .p false (.int .i64) v767)] [(0, .box [.p β0 (.slice (.slice (.int .i64))) d1, .p β1 (.slice (.int .u32)) d2]), (1, .box [.nils, .nils]), (2, .arr 3 (.int .i64) v690), (3, .arr 3 (.int .i64) v764), (4, .box [.sl 5, .sl 6]), (5, .arr 23 (.slice (.int .i64)) v765), (6, .arr 37 (.int .u32) v766)] 7) (Q := (postX Try.f14.ntmps 16 (fun ((v768, v769) : (List (List Int)) × List Int) => mkSt [(2, .adr 0 0 2 0), (15, .adr 1 0 2 0)] [(0, .box [.nils, .nils]), (1, .box [.sl 2, .sl 3]), (2, .arr 23 (.slice (.int .i64)) v768), (3, .arr 37 (.int .u32) v769)] 4))) hp268 (goal_le (gs := [.nilC 4 0 5 23 (.slice (.int .i64)), .nilC 4 1 6 37 (.int .u32)]) (f := [0, 1, 2, 3, 4, 5, 6]) (by kernel_rfl) (by kernel_rfl)) (fun y o ho => ?_)) (fun e σ' hq => ?_)
        · obtain ⟨v764, v765, v766, v767⟩ := y
          replace h := ho
          clear ho hp268
          unfold stanzaref04_Least_L11 at h
          refine W_seq ?_
          refine W_seq ?_
          refine W_reg tbok ⟨[], []⟩ [] [0, 1, 2, 3, 4, 5, 6] [(1, .adr 0 0 2 0), (2, .adr 1 0 2 0), (11, .sl 2), (14, .sl 3), (15, .adr 4 0 2 0), (16, .p false (.int .i64) v767), (152, .p false .bool (decide (v767 < (v764.length : Int))))] [(0, .box [.p β0 (.slice (.slice (.int .i64))) d1, .p β1 (.slice (.int .u32)) d2]), (1, .box [.nils, .nils]), (2, .arr 3 (.int .i64) v690), (3, .arr 3 (.int .i64) v764), (4, .box [.sl 5, .sl 6]), (5, .arr 23 (.slice (.int .i64)) v765), (6, .arr 37 (.int .u32) v766)] 7 0 [True, True, True, True] (by kernel_rfl) (by kernel_rfl) ⟨trivial, trivial, trivial, trivial, trivial⟩ ?_
          refine to_then ?_
          refine W_cond (b := (decide (v767 < (v764.length : Int)))) (β := false) (by kernel_rfl) (fun hb660 => ?_) (fun hb660 => ?_)
          · replace h := h_if hb660 h
            refine W_skip_to ?_
            refine to_then ?_
            refine W_seq ?_
            refine W_block ?_
            refine W_seq ?_
            refine W_reg tbok ⟨[], []⟩ [] [0, 1, 2, 3, 4, 5, 6] [(1, .adr 0 0 2 0), (2, .adr 1 0 2 0), (11, .sl 2), (14, .sl 3), (15, .adr 4 0 2 0), (16, .p false (.int .i64) v767), (17, .nils)] [(0, .box [.p β0 (.slice (.slice (.int .i64))) d1, .p β1 (.slice (.int .u32)) d2]), (1, .box [.nils, .nils]), (2, .arr 3 (.int .i64) v690), (3, .arr 3 (.int .i64) v764), (4, .box [.sl 5, .sl 6]), (5, .arr 23 (.slice (.int .i64)) v765), (6, .arr 37 (.int .u32) v766)] 7 0 [True] (by kernel_rfl) (by kernel_rfl) ⟨trivial, trivial⟩ ?_
            refine to_then ?_
            refine W_seq ?_
            refine W_seq ?_
            refine W_reg tbok ⟨[], []⟩ [] [0, 1, 2, 3, 4, 5, 6] [(1, .adr 0 0 2 0), (2, .adr 1 0 2 0), (11, .sl 2), (14, .sl 3), (15, .adr 4 0 2 0), (16, .p false (.int .i64) v767), (17, .nils), (18, .p false (.int .i64) (0 : Int))] [(0, .box [.p β0 (.slice (.slice (.int .i64))) d1, .p β1 (.slice (.int .u32)) d2]), (1, .box [.nils, .nils]), (2, .arr 3 (.int .i64) v690), (3, .arr 3 (.int .i64) v764), (4, .box [.sl 5, .sl 6]), (5, .arr 23 (.slice (.int .i64)) v765), (6, .arr 37 (.int .u32) v766)] 7 0 [True] (by kernel_rfl) (by kernel_rfl) ⟨trivial, trivial⟩ ?_
            refine to_then ?_
            refine W_block ?_
            obtain ⟨r207, hp267, h⟩ := h_bind h
            refine W.mono (Q := (postX Try.f14.ntmps 18 (fun ((v790, v791) : (List Int) × List Int) => mkSt [(1, .adr 0 0 2 0), (2, .adr 1 0 2 0), (11, .sl 2), (14, .sl 3), (15, .adr 4 0 2 0), (16, .p false (.int .i64) v767), (17, .sl 7)] [(0, .box [.p β0 (.slice (.slice (.int .i64))) d1, .p β1 (.slice (.int .u32)) d2]), (1, .box [.nils, .nils]), (2, .arr 3 (.int .i64) v690), (3, .arr 3 (.int .i64) v790), (4, .box [.sl 5, .sl 6]), (5, .arr 23 (.slice (.int .i64)) v765), (6, .arr 37 (.int .u32) v766), (7, .arr 3 (.int .i64) v791)] 8)) r207) (W_iter (f := fun ((v787, v788, v789) : (List Int) × (List Int) × Int) => mkSt [(1, .adr 0 0 2 0), (2, .adr 1 0 2 0), (11, .sl 2), (14, .sl 3), (15, .adr 4 0 2 0), (16, .p false (.int .i64) v767), (17, .sl 7), (18, .p false (.int .i64) v789)] [(0, .box [.p β0 (.slice (.slice (.int .i64))) d1, .p β1 (.slice (.int .u32)) d2]), (1, .box [.nils, .nils]), (2, .arr 3 (.int .i64) v690), (3, .arr 3 (.int .i64) v787), (4, .box [.sl 5, .sl 6]), (5, .arr 23 (.slice (.int .i64)) v765), (6, .arr 37 (.int .u32) v766), (7, .arr 3 (.int .i64) v788)] 8) (Q := (postX Try.f14.ntmps 18 (fun ((v790, v791) : (List Int) × List Int) => mkSt [(1, .adr 0 0 2 0), (2, .adr 1 0 2 0), (11, .sl 2), (14, .sl 3), (15, .adr 4 0 2 0), (16, .p false (.int .i64) v767), (17, .sl 7)] [(0, .box [.p β0 (.slice (.slice (.int .i64))) d1, .p β1 (.slice (.int .u32)) d2]), (1, .box [.nils, .nils]), (2, .arr 3 (.int .i64) v690), (3, .arr 3 (.int .i64) v790), (4, .box [.sl 5, .sl 6]), (5, .arr 23 (.slice (.int .i64)) v765), (6, .arr 37 (.int .u32) v766), (7, .arr 3 (.int .i64) v791)] 8))) hp267 (goal_le (gs := [.nilS 17 7 3 (.int .i64)]) (f := [0, 1, 2, 3, 4, 5, 6, 7]) (by kernel_rfl) (by kernel_rfl)) (fun y o ho => ?_)) (fun e σ' hq => ?_)
            · obtain ⟨v787, v788, v789⟩ := y
              replace h := ho
              clear ho hp267
              unfold stanzaref04_Least_L10 at h
              refine W_seq ?_
              refine W_seq ?_
              obtain ⟨c4457, h⟩ := h_guard h
              obtain ⟨c4458, h⟩ := h_guard h
              obtain ⟨c4459, h⟩ := h_guard h
              refine W_regD tbok mixed ⟨[], []⟩ [] [0, 1, 2, 3, 4, 5, 6, 7] [(1, .adr 0 0 2 0), (2, .adr 1 0 2 0), (11, .sl 2), (14, .sl 3), (15, .adr 4 0 2 0), (16, .p false (.int .i64) v767), (17, .sl 7), (18, .p false (.int .i64) v789), (165, .p false .bool (decide (v789 < ((d1.getD ((v787.getD v767.toNat (0 : Int)).toNat) ([] : List Int)).length : Int))))] [(0, .box [.p β0 (.slice (.slice (.int .i64))) d1, .p β1 (.slice (.int .u32)) d2]), (1, .box [.nils, .nils]), (2, .arr 3 (.int .i64) v690), (3, .arr 3 (.int .i64) v787), (4, .box [.sl 5, .sl 6]), (5, .arr 23 (.slice (.int .i64)) v765), (6, .arr 37 (.int .u32) v766), (7, .arr 3 (.int .i64) v788)] 8 0 [True, True, True, True, True, 0 ≤ v767 ∧ v767 < (v787.length : Int), v767.toNat < v787.length, 0 ≤ (v787.getD v767.toNat (0 : Int)) ∧ (v787.getD v767.toNat (0 : Int)) < (d1.length : Int), True, True, True] (by kernel_rfl) (by kernel_rfl) ⟨trivial, trivial, trivial, trivial, trivial, c4457, c4458, c4459, trivial, trivial, trivial, trivial⟩ ?_
              refine to_then ?_
              refine W_cond (b := (decide (v789 < ((d1.getD ((v787.getD v767.toNat (0 : Int)).toNat) ([] : List Int)).length : Int)))) (β := false) (by kernel_rfl) (fun hb691 => ?_) (fun hb691 => ?_)
              · replace h := h_if hb691 h
                refine W_skip_to ?_
                refine to_then ?_
                refine W_seq ?_
                refine W_block ?_
                refine W_seq ?_
                obtain ⟨c4466, h⟩ := h_guard h
                obtain ⟨c4467, h⟩ := h_guard h
                obtain ⟨c4468, h⟩ := h_guard h
                obtain ⟨c4469, h⟩ := h_guard h
                obtain ⟨c4470, h⟩ := h_guard h
                obtain ⟨c4471, h⟩ := h_guard h
                refine W_regD tbok mixed ⟨[], []⟩ [] [0, 1, 2, 3, 4, 5, 6, 7] [(1, .adr 0 0 2 0), (2, .adr 1 0 2 0), (11, .sl 2), (14, .sl 3), (15, .adr 4 0 2 0), (16, .p false (.int .i64) v767), (17, .sl 7), (18, .p false (.int .i64) v789), (19, .p false (.int .i64) (v690.getD (((d1.getD ((v787.getD v767.toNat (0 : Int)).toNat) ([] : List Int)).getD v789.toNat (0 : Int)).toNat) (0 : Int)))] [(0, .box [.p β0 (.slice (.slice (.int .i64))) d1, .p β1 (.slice (.int .u32)) d2]), (1, .box [.nils, .nils]), (2, .arr 3 (.int .i64) v690), (3, .arr 3 (.int .i64) v787), (4, .box [.sl 5, .sl 6]), (5, .arr 23 (.slice (.int .i64)) v765), (6, .arr 37 (.int .u32) v766), (7, .arr 3 (.int .i64) v788)] 8 0 [True, True, True, True, True, 0 ≤ v767 ∧ v767 < (v787.length : Int), v767.toNat < v787.length, 0 ≤ (v787.getD v767.toNat (0 : Int)) ∧ (v787.getD v767.toNat (0 : Int)) < (d1.length : Int), True, True, 0 ≤ v789 ∧ v789 < ((d1.getD ((v787.getD v767.toNat (0 : Int)).toNat) ([] : List Int)).length : Int), True, 0 ≤ ((d1.getD ((v787.getD v767.toNat (0 : Int)).toNat) ([] : List Int)).getD v789.toNat (0 : Int)) ∧ ((d1.getD ((v787.getD v767.toNat (0 : Int)).toNat) ([] : List Int)).getD v789.toNat (0 : Int)) < (v690.length : Int), ((d1.getD ((v787.getD v767.toNat (0 : Int)).toNat) ([] : List Int)).getD v789.toNat (0 : Int)).toNat < v690.length, True] (by kernel_rfl) (by kernel_rfl) ⟨trivial, trivial, trivial, trivial, trivial, c4466, c4467, c4468, trivial, trivial, c4469, trivial, c4470, c4471, trivial, trivial⟩ ?_
                refine to_then ?_
                refine W_seq ?_
                refine W_reg tbok ⟨[], []⟩ [] [0, 1, 2, 3, 4, 5, 6, 7] [(1, .adr 0 0 2 0), (2, .adr 1 0 2 0), (11, .sl 2), (14, .sl 3), (15, .adr 4 0 2 0), (16, .p false (.int .i64) v767), (17, .sl 7), (18, .p false (.int .i64) v789), (19, .p false (.int .i64) (v690.getD (((d1.getD ((v787.getD v767.toNat (0 : Int)).toNat) ([] : List Int)).getD v789.toNat (0 : Int)).toNat) (0 : Int))), (20, .p false (.int .i64) (0 : Int))] [(0, .box [.p β0 (.slice (.slice (.int .i64))) d1, .p β1 (.slice (.int .u32)) d2]), (1, .box [.nils, .nils]), (2, .arr 3 (.int .i64) v690), (3, .arr 3 (.int .i64) v787), (4, .box [.sl 5, .sl 6]), (5, .arr 23 (.slice (.int .i64)) v765), (6, .arr 37 (.int .u32) v766), (7, .arr 3 (.int .i64) v788)] 8 0 [True] (by kernel_rfl) (by kernel_rfl) ⟨trivial, trivial⟩ ?_
                refine to_then ?_
                refine W_seq ?_
                refine W_block ?_
                obtain ⟨v796, hp265, h⟩ := h_bind h
                refine W.mono (Q := (postX Try.f14.ntmps 20 (fun (v796 : Int) => mkSt [(1, .adr 0 0 2 0), (2, .adr 1 0 2 0), (11, .sl 2), (14, .sl 3), (15, .adr 4 0 2 0), (16, .p false (.int .i64) v767), (17, .sl 7), (18, .p false (.int .i64) v789), (19, .p false (.int .i64) (v690.getD (((d1.getD ((v787.getD v767.toNat (0 : Int)).toNat) ([] : List Int)).getD v789.toNat (0 : Int)).toNat) (0 : Int))), (20, .p false (.int .i64) v796)] [(0, .box [.p β0 (.slice (.slice (.int .i64))) d1, .p β1 (.slice (.int .u32)) d2]), (1, .box [.nils, .nils]), (2, .arr 3 (.int .i64) v690), (3, .arr 3 (.int .i64) v787), (4, .box [.sl 5, .sl 6]), (5, .arr 23 (.slice (.int .i64)) v765), (6, .arr 37 (.int .u32) v766), (7, .arr 3 (.int .i64) v788)] 8)) v796) (W_iter (f := fun (v795 : Int) => mkSt [(1, .adr 0 0 2 0), (2, .adr 1 0 2 0), (11, .sl 2), (14, .sl 3), (15, .adr 4 0 2 0), (16, .p false (.int .i64) v767), (17, .sl 7), (18, .p false (.int .i64) v789), (19, .p false (.int .i64) (v690.getD (((d1.getD ((v787.getD v767.toNat (0 : Int)).toNat) ([] : List Int)).getD v789.toNat (0 : Int)).toNat) (0 : Int))), (20, .p false (.int .i64) v795)] [(0, .box [.p β0 (.slice (.slice (.int .i64))) d1, .p β1 (.slice (.int .u32)) d2]), (1, .box [.nils, .nils]), (2, .arr 3 (.int .i64) v690), (3, .arr 3 (.int .i64) v787), (4, .box [.sl 5, .sl 6]), (5, .arr 23 (.slice (.int .i64)) v765), (6, .arr 37 (.int .u32) v766), (7, .arr 3 (.int .i64) v788)] 8) (Q := (postX Try.f14.ntmps 20 (fun (v796 : Int) => mkSt [(1, .adr 0 0 2 0), (2, .adr 1 0 2 0), (11, .sl 2), (14, .sl 3), (15, .adr 4 0 2 0), (16, .p false (.int .i64) v767), (17, .sl 7), (18, .p false (.int .i64) v789), (19, .p false (.int .i64) (v690.getD (((d1.getD ((v787.getD v767.toNat (0 : Int)).toNat) ([] : List Int)).getD v789.toNat (0 : Int)).toNat) (0 : Int))), (20, .p false (.int .i64) v796)] [(0, .box [.p β0 (.slice (.slice (.int .i64))) d1, .p β1 (.slice (.int .u32)) d2]), (1, .box [.nils, .nils]), (2, .arr 3 (.int .i64) v690), (3, .arr 3 (.int .i64) v787), (4, .box [.sl 5, .sl 6]), (5, .arr 23 (.slice (.int .i64)) v765), (6, .arr 37 (.int .u32) v766), (7, .arr 3 (.int .i64) v788)] 8))) hp265 (goal_le (gs := []) (f := [0, 1, 2, 3, 4, 5, 6, 7]) (by kernel_rfl) (by kernel_rfl)) (fun v795 o ho => ?_)) (fun e σ' hq => ?_)
                · replace h := ho
                  clear ho hp265
                  unfold stanzaref04_Least_L9 at h
                  refine W_seq ?_
                  refine W_seq ?_
                  obtain ⟨v797, hp264, h⟩ := h_bind h
                  refine W.mono (Q := (postN Try.f14.ntmps (fun (v797 : Bool) => mkSt [(1, .adr 0 0 2 0), (2, .adr 1 0 2 0), (11, .sl 2), (14, .sl 3), (15, .adr 4 0 2 0), (16, .p false (.int .i64) v767), (17, .sl 7), (18, .p false (.int .i64) v789), (19, .p false (.int .i64) (v690.getD (((d1.getD ((v787.getD v767.toNat (0 : Int)).toNat) ([] : List Int)).getD v789.toNat (0 : Int)).toNat) (0 : Int))), (20, .p false (.int .i64) v795), (193, .p false .bool v797)] [(0, .box [.p β0 (.slice (.slice (.int .i64))) d1, .p β1 (.slice (.int .u32)) d2]), (1, .box [.nils, .nils]), (2, .arr 3 (.int .i64) v690), (3, .arr 3 (.int .i64) v787), (4, .box [.sl 5, .sl 6]), (5, .arr 23 (.slice (.int .i64)) v765), (6, .arr 37 (.int .u32) v766), (7, .arr 3 (.int .i64) v788)] 8)) v797) ?_ (fun e σ' hq => ?_)
                  · replace h := hp264
                    clear hp264
                    rcases Bool.eq_false_or_eq_true (decide (v795 < (v787.length : Int))) with hb702 | hb702
                    · replace h := h_if hb702 h
                      obtain ⟨c4488, h⟩ := h_guard h
                      obtain ⟨c4489, h⟩ := h_guard h
                      refine W_reg tbok ⟨[(4, true), (11, true)], []⟩ [] [0, 1, 2, 3, 4, 5, 6, 7] [(1, .adr 0 0 2 0), (2, .adr 1 0 2 0), (11, .sl 2), (14, .sl 3), (15, .adr 4 0 2 0), (16, .p false (.int .i64) v767), (17, .sl 7), (18, .p false (.int .i64) v789), (19, .p false (.int .i64) (v690.getD (((d1.getD ((v787.getD v767.toNat (0 : Int)).toNat) ([] : List Int)).getD v789.toNat (0 : Int)).toNat) (0 : Int))), (20, .p false (.int .i64) v795), (193, .p false .bool ((v787.getD v795.toNat (0 : Int)) != (v690.getD (((d1.getD ((v787.getD v767.toNat (0 : Int)).toNat) ([] : List Int)).getD v789.toNat (0 : Int)).toNat) (0 : Int))))] [(0, .box [.p β0 (.slice (.slice (.int .i64))) d1, .p β1 (.slice (.int .u32)) d2]), (1, .box [.nils, .nils]), (2, .arr 3 (.int .i64) v690), (3, .arr 3 (.int .i64) v787), (4, .box [.sl 5, .sl 6]), (5, .arr 23 (.slice (.int .i64)) v765), (6, .arr 37 (.int .u32) v766), (7, .arr 3 (.int .i64) v788)] 8 0 [True, True, True, True, True, (decide (v795 < (v787.length : Int))) = true ∧ True, (decide (v795 < (v787.length : Int))) = true ∧ True, (decide (v795 < (v787.length : Int))) = true ∧ 0 ≤ v795 ∧ v795 < (v787.length : Int), (decide (v795 < (v787.length : Int))) = true ∧ v795.toNat < v787.length, (decide (v795 < (v787.length : Int))) = true ∧ True, (decide (v795 < (v787.length : Int))) = true ∧ True, (decide (v795 < (v787.length : Int))) = true] (by kernel_rfl) (by kernel_rfl) ⟨trivial, trivial, trivial, trivial, trivial, ⟨hb702, trivial⟩, ⟨hb702, trivial⟩, ⟨hb702, c4488⟩, ⟨hb702, c4489⟩, ⟨hb702, trivial⟩, ⟨hb702, trivial⟩, hb702, trivial⟩ ?_
                      obtain rfl := Option.some.inj h
                      exact postN_to (goal_le (gs := []) (f := [0, 1, 2, 3, 4, 5, 6, 7]) (by kernel_rfl) (by kernel_rfl))
                    · replace h := h_else hb702 h
                      refine W_reg tbok ⟨[(4, false), (11, false)], []⟩ [] [0, 1, 2, 3, 4, 5, 6, 7] [(1, .adr 0 0 2 0), (2, .adr 1 0 2 0), (11, .sl 2), (14, .sl 3), (15, .adr 4 0 2 0), (16, .p false (.int .i64) v767), (17, .sl 7), (18, .p false (.int .i64) v789), (19, .p false (.int .i64) (v690.getD (((d1.getD ((v787.getD v767.toNat (0 : Int)).toNat) ([] : List Int)).getD v789.toNat (0 : Int)).toNat) (0 : Int))), (20, .p false (.int .i64) v795), (193, .p false .bool false)] [(0, .box [.p β0 (.slice (.slice (.int .i64))) d1, .p β1 (.slice (.int .u32)) d2]), (1, .box [.nils, .nils]), (2, .arr 3 (.int .i64) v690), (3, .arr 3 (.int .i64) v787), (4, .box [.sl 5, .sl 6]), (5, .arr 23 (.slice (.int .i64)) v765), (6, .arr 37 (.int .u32) v766), (7, .arr 3 (.int .i64) v788)] 8 0 [True, True, True, True, True, (decide (v795 < (v787.length : Int))) = false, (decide (v795 < (v787.length : Int))) = false, (decide (v795 < (v787.length : Int))) = false, (decide (v795 < (v787.length : Int))) = false, (decide (v795 < (v787.length : Int))) = false, (decide (v795 < (v787.length : Int))) = false, (decide (v795 < (v787.length : Int))) = false] (by kernel_rfl) (by kernel_rfl) ⟨trivial, trivial, trivial, trivial, trivial, hb702, hb702, hb702, hb702, hb702, hb702, hb702, trivial⟩ ?_
                      obtain rfl := Option.some.inj h
                      exact postN_to (goal_le (gs := []) (f := [0, 1, 2, 3, 4, 5, 6, 7]) (by kernel_rfl) (by kernel_rfl))
                  · clear hp264
                    obtain ⟨rfl, hle⟩ := hq
                    refine use_to ?_ hle
                    refine to_then ?_
                    refine W_cond (b := v797) (β := false) (by kernel_rfl) (fun hb703 => ?_) (fun hb703 => ?_)
                    · replace h := h_if hb703 h
                      refine W_skip_to ?_
                      refine to_then ?_
                      refine W_block ?_
                      refine W_reg tbok ⟨[], []⟩ [] [0, 1, 2, 3, 4, 5, 6, 7] [(1, .adr 0 0 2 0), (2, .adr 1 0 2 0), (11, .sl 2), (14, .sl 3), (15, .adr 4 0 2 0), (16, .p false (.int .i64) v767), (17, .sl 7), (18, .p false (.int .i64) v789), (19, .p false (.int .i64) (v690.getD (((d1.getD ((v787.getD v767.toNat (0 : Int)).toNat) ([] : List Int)).getD v789.toNat (0 : Int)).toNat) (0 : Int))), (20, .p false (.int .i64) (IntKind.i64.wrap (v795 + (1 : Int))))] [(0, .box [.p β0 (.slice (.slice (.int .i64))) d1, .p β1 (.slice (.int .u32)) d2]), (1, .box [.nils, .nils]), (2, .arr 3 (.int .i64) v690), (3, .arr 3 (.int .i64) v787), (4, .box [.sl 5, .sl 6]), (5, .arr 23 (.slice (.int .i64)) v765), (6, .arr 37 (.int .u32) v766), (7, .arr 3 (.int .i64) v788)] 8 0 [True, True, True] (by kernel_rfl) (by kernel_rfl) ⟨trivial, trivial, trivial, trivial⟩ ?_
                      refine to_block ?_
                      obtain rfl := Option.some.inj h
                      exact roundB (goal_le (gs := []) (f := [0, 1, 2, 3, 4, 5, 6, 7]) (by kernel_rfl) (by kernel_rfl))
                    · replace h := h_else hb703 h
                      refine W_exit_to ?_
                      refine thenE ?_
                      obtain rfl := Option.some.inj h
                      refine roundE ?_
                      exact postX_to (goal_le (gs := []) (f := [0, 1, 2, 3, 4, 5, 6, 7]) (by kernel_rfl) (by kernel_rfl))
                · clear hp265
                  obtain ⟨rfl, hle⟩ := hq
                  refine use_to ?_ hle
                  refine blockE_eq ?_
                  refine to_then ?_
                  refine W_seq ?_
                  refine W_seq ?_
                  refine W_reg tbok ⟨[], []⟩ [] [0, 1, 2, 3, 4, 5, 6, 7] [(1, .adr 0 0 2 0), (2, .adr 1 0 2 0), (11, .sl 2), (14, .sl 3), (15, .adr 4 0 2 0), (16, .p false (.int .i64) v767), (17, .sl 7), (18, .p false (.int .i64) v789), (19, .p false (.int .i64) (v690.getD (((d1.getD ((v787.getD v767.toNat (0 : Int)).toNat) ([] : List Int)).getD v789.toNat (0 : Int)).toNat) (0 : Int))), (20, .p false (.int .i64) v796), (199, .p false .bool (v796 == (v787.length : Int)))] [(0, .box [.p β0 (.slice (.slice (.int .i64))) d1, .p β1 (.slice (.int .u32)) d2]), (1, .box [.nils, .nils]), (2, .arr 3 (.int .i64) v690), (3, .arr 3 (.int .i64) v787), (4, .box [.sl 5, .sl 6]), (5, .arr 23 (.slice (.int .i64)) v765), (6, .arr 37 (.int .u32) v766), (7, .arr 3 (.int .i64) v788)] 8 0 [True, True, True, True] (by kernel_rfl) (by kernel_rfl) ⟨trivial, trivial, trivial, trivial, trivial⟩ ?_
                  refine to_then ?_
                  obtain ⟨v798, hp266, h⟩ := h_bind h
                  refine W.mono (Q := (postN Try.f14.ntmps (fun (v798 : List Int) => mkSt [(1, .adr 0 0 2 0), (2, .adr 1 0 2 0), (11, .sl 2), (14, .sl 3), (15, .adr 4 0 2 0), (16, .p false (.int .i64) v767), (17, .sl 7), (18, .p false (.int .i64) v789), (20, .p false (.int .i64) v796)] [(0, .box [.p β0 (.slice (.slice (.int .i64))) d1, .p β1 (.slice (.int .u32)) d2]), (1, .box [.nils, .nils]), (2, .arr 3 (.int .i64) v690), (3, .arr 3 (.int .i64) v798), (4, .box [.sl 5, .sl 6]), (5, .arr 23 (.slice (.int .i64)) v765), (6, .arr 37 (.int .u32) v766), (7, .arr 3 (.int .i64) v788)] 8)) v798) ?_ (fun e σ' hq => ?_)
                  · replace h := hp266
                    clear hp266
                    refine W_cond (b := (v796 == (v787.length : Int))) (β := false) (by kernel_rfl) (fun hb705 => ?_) (fun hb705 => ?_)
                    · replace h := h_if hb705 h
                      obtain ⟨c4493, h⟩ := h_guard h
                      refine W_reg tbok ⟨[], []⟩ [] [0, 1, 2, 32, 4, 5, 6, 7] [(1, .adr 0 0 2 0), (2, .adr 1 0 2 0), (11, .sl 2), (14, .sl 3), (15, .adr 4 0 2 0), (16, .p false (.int .i64) v767), (17, .sl 7), (18, .p false (.int .i64) v789), (20, .p false (.int .i64) v796)] [(0, .box [.p β0 (.slice (.slice (.int .i64))) d1, .p β1 (.slice (.int .u32)) d2]), (1, .box [.nils, .nils]), (2, .arr 3 (.int .i64) v690), (3, .arr 3 (.int .i64) (v787 ++ ([(v690.getD (((d1.getD ((v787.getD v767.toNat (0 : Int)).toNat) ([] : List Int)).getD v789.toNat (0 : Int)).toNat) (0 : Int))] : List Int))), (4, .box [.sl 5, .sl 6]), (5, .arr 23 (.slice (.int .i64)) v765), (6, .arr 37 (.int .u32) v766), (7, .arr 3 (.int .i64) v788)] 8 0 [True, True, True, (v787.length + ([(v690.getD (((d1.getD ((v787.getD v767.toNat (0 : Int)).toNat) ([] : List Int)).getD v789.toNat (0 : Int)).toNat) (0 : Int))] : List Int).length) * 8 ≤ 140737488355328 ∧ v787.length + ([(v690.getD (((d1.getD ((v787.getD v767.toNat (0 : Int)).toNat) ([] : List Int)).getD v789.toNat (0 : Int)).toNat) (0 : Int))] : List Int).length ≤ 9223372036854775807, True] (by kernel_rfl) (by kernel_rfl) ⟨trivial, trivial, trivial, c4493, trivial, trivial⟩ ?_
                      obtain rfl := Option.some.inj h
                      exact postN_to (goal_le (gs := []) (f := [0, 1, 2, 3, 4, 5, 6, 7]) (by kernel_rfl) (by kernel_rfl))
                    · replace h := h_else hb705 h
                      refine W_skip_to ?_
                      obtain rfl := Option.some.inj h
                      exact postN_to (goal_le (gs := []) (f := [0, 1, 2, 3, 4, 5, 6, 7]) (by kernel_rfl) (by kernel_rfl))
                  · clear hp266
                    obtain ⟨rfl, hle⟩ := hq
                    refine use_to ?_ hle
                    refine to_then ?_
                    obtain ⟨c4495, h⟩ := h_guard h
                    refine W_reg tbok ⟨[], []⟩ [] [0, 1, 2, 3, 4, 5, 6, 32] [(1, .adr 0 0 2 0), (2, .adr 1 0 2 0), (11, .sl 2), (14, .sl 3), (15, .adr 4 0 2 0), (16, .p false (.int .i64) v767), (17, .sl 7), (18, .p false (.int .i64) v789)] [(0, .box [.p β0 (.slice (.slice (.int .i64))) d1, .p β1 (.slice (.int .u32)) d2]), (1, .box [.nils, .nils]), (2, .arr 3 (.int .i64) v690), (3, .arr 3 (.int .i64) v798), (4, .box [.sl 5, .sl 6]), (5, .arr 23 (.slice (.int .i64)) v765), (6, .arr 37 (.int .u32) v766), (7, .arr 3 (.int .i64) (v788 ++ ([v796] : List Int)))] 8 0 [True, True, True, (v788.length + ([v796] : List Int).length) * 8 ≤ 140737488355328 ∧ v788.length + ([v796] : List Int).length ≤ 9223372036854775807, True] (by kernel_rfl) (by kernel_rfl) ⟨trivial, trivial, trivial, c4495, trivial, trivial⟩ ?_
                    refine to_block ?_
                    refine to_then ?_
                    refine W_reg tbok ⟨[], []⟩ [] [0, 1, 2, 3, 4, 5, 6, 7] [(1, .adr 0 0 2 0), (2, .adr 1 0 2 0), (11, .sl 2), (14, .sl 3), (15, .adr 4 0 2 0), (16, .p false (.int .i64) v767), (17, .sl 7), (18, .p false (.int .i64) (IntKind.i64.wrap (v789 + (1 : Int))))] [(0, .box [.p β0 (.slice (.slice (.int .i64))) d1, .p β1 (.slice (.int .u32)) d2]), (1, .box [.nils, .nils]), (2, .arr 3 (.int .i64) v690), (3, .arr 3 (.int .i64) v798), (4, .box [.sl 5, .sl 6]), (5, .arr 23 (.slice (.int .i64)) v765), (6, .arr 37 (.int .u32) v766), (7, .arr 3 (.int .i64) (v788 ++ ([v796] : List Int)))] 8 0 [True, True, True] (by kernel_rfl) (by kernel_rfl) ⟨trivial, trivial, trivial, trivial⟩ ?_
                    obtain rfl := Option.some.inj h
                    exact roundB (goal_le (gs := []) (f := [0, 1, 2, 3, 4, 5, 6, 7]) (by kernel_rfl) (by kernel_rfl))
              · replace h := h_else hb691 h
                refine W_exit_to ?_
                refine thenE ?_
                obtain rfl := Option.some.inj h
                refine roundE ?_
                exact postX_to (goal_le (gs := []) (f := [0, 1, 2, 3, 4, 5, 6, 7]) (by kernel_rfl) (by kernel_rfl))
            · clear hp267
              obtain ⟨v790, v791⟩ := r207
              obtain ⟨rfl, hle⟩ := hq
              refine use_to ?_ hle
              refine blockE_eq ?_
              refine to_then ?_
              refine W_seq ?_
              obtain ⟨c4497, h⟩ := h_guard h
              refine W_reg tbok ⟨[], []⟩ [] [0, 1, 2, 3, 4, 40, 6] [(1, .adr 0 0 2 0), (2, .adr 1 0 2 0), (11, .sl 2), (14, .sl 3), (15, .adr 4 0 2 0), (16, .p false (.int .i64) v767)] [(0, .box [.p β0 (.slice (.slice (.int .i64))) d1, .p β1 (.slice (.int .u32)) d2]), (1, .box [.nils, .nils]), (2, .arr 3 (.int .i64) v690), (3, .arr 3 (.int .i64) v790), (4, .box [.sl 5, .sl 6]), (5, .arr 23 (.slice (.int .i64)) (v765 ++ ([v791] : List (List Int)))), (6, .arr 37 (.int .u32) v766)] 7 0 [True, True, True, True, (v765.length + ([v791] : List (List Int)).length) * 24 ≤ 140737488355328 ∧ v765.length + ([v791] : List (List Int)).length ≤ 9223372036854775807, True, True] (by kernel_rfl) (by kernel_rfl) ⟨trivial, trivial, trivial, trivial, c4497, trivial, trivial, trivial⟩ ?_
              refine to_then ?_
              obtain ⟨c4502, h⟩ := h_guard h
              obtain ⟨c4503, h⟩ := h_guard h
              obtain ⟨c4504, h⟩ := h_guard h
              obtain ⟨c4505, h⟩ := h_guard h
              refine W_regD tbok mixed ⟨[], []⟩ [] [0, 1, 2, 3, 4, 5, 95] [(1, .adr 0 0 2 0), (2, .adr 1 0 2 0), (11, .sl 2), (14, .sl 3), (15, .adr 4 0 2 0), (16, .p false (.int .i64) v767)] [(0, .box [.p β0 (.slice (.slice (.int .i64))) d1, .p β1 (.slice (.int .u32)) d2]), (1, .box [.nils, .nils]), (2, .arr 3 (.int .i64) v690), (3, .arr 3 (.int .i64) v790), (4, .box [.sl 5, .sl 6]), (5, .arr 23 (.slice (.int .i64)) (v765 ++ ([v791] : List (List Int)))), (6, .arr 37 (.int .u32) (v766 ++ ([(d2.getD ((v790.getD v767.toNat (0 : Int)).toNat) (0 : Int))] : List Int)))] 7 0 [True, True, True, True, True, True, 0 ≤ v767 ∧ v767 < (v790.length : Int), v767.toNat < v790.length, 0 ≤ (v790.getD v767.toNat (0 : Int)) ∧ (v790.getD v767.toNat (0 : Int)) < (d2.length : Int), True, True, (v766.length + ([(d2.getD ((v790.getD v767.toNat (0 : Int)).toNat) (0 : Int))] : List Int).length) * 4 ≤ 140737488355328 ∧ v766.length + ([(d2.getD ((v790.getD v767.toNat (0 : Int)).toNat) (0 : Int))] : List Int).length ≤ 9223372036854775807, True, True] (by kernel_rfl) (by kernel_rfl) ⟨trivial, trivial, trivial, trivial, trivial, trivial, c4502, c4503, c4504, trivial, trivial, c4505, trivial, trivial, trivial⟩ ?_
              refine to_block ?_
              refine to_then ?_
              refine W_reg tbok ⟨[], []⟩ [] [0, 1, 2, 3, 4, 5, 6] [(1, .adr 0 0 2 0), (2, .adr 1 0 2 0), (11, .sl 2), (14, .sl 3), (15, .adr 4 0 2 0), (16, .p false (.int .i64) (IntKind.i64.wrap (v767 + (1 : Int))))] [(0, .box [.p β0 (.slice (.slice (.int .i64))) d1, .p β1 (.slice (.int .u32)) d2]), (1, .box [.nils, .nils]), (2, .arr 3 (.int .i64) v690), (3, .arr 3 (.int .i64) v790), (4, .box [.sl 5, .sl 6]), (5, .arr 23 (.slice (.int .i64)) (v765 ++ ([v791] : List (List Int)))), (6, .arr 37 (.int .u32) (v766 ++ ([(d2.getD ((v790.getD v767.toNat (0 : Int)).toNat) (0 : Int))] : List Int)))] 7 0 [True, True, True] (by kernel_rfl) (by kernel_rfl) ⟨trivial, trivial, trivial, trivial⟩ ?_
              obtain rfl := Option.some.inj h
              exact roundB (goal_le (gs := []) (f := [0, 1, 2, 3, 4, 5, 6]) (by kernel_rfl) (by kernel_rfl))
          · replace h := h_else hb660 h
            refine W_exit_to ?_
            refine thenE ?_
            obtain rfl := Option.some.inj h
            refine roundE ?_
            exact postX_to (goal_le (gs := []) (f := [1, 4, 5, 6]) (by kernel_rfl) (by kernel_rfl))
        · clear hp268
          obtain ⟨v768, v769⟩ := r208
          obtain ⟨rfl, hle⟩ := hq
          refine use_to ?_ hle
          refine blockE_eq ?_
          refine to_then ?_
          refine W_seq ?_
          refine W_reg tbok ⟨[], []⟩ [] [0, 2, 3] [(2, .adr 0 0 2 0)] [(0, .box [.sl 1, .sl 2]), (1, .arr 23 (.slice (.int .i64)) v768), (2, .arr 37 (.int .u32) v769)] 3 0 [True, True] (by kernel_rfl) (by kernel_rfl) ⟨trivial, trivial, trivial⟩ ?_
          refine to_then ?_
          refine W_ret ?_
          obtain rfl := Option.some.inj h
          exact Ret_intro [(.prod (.slice (.slice (.int .i64))) (.slice (.int .u32)))] (by kernel_rfl)

end
end Go.Proofs.Ytnnbofkcfooljaa.T
