/- Functions of the program as functions on data, and that the program's own come to them. -/
import Derived.Test.YtjfjigknkhgkdaaTvT03x0
import Derived.Test.YtjfjigknkhgkdaaTvT03xa
import Derived.Test.YtjfjigknkhgkdaaTvT03xd
namespace Go.Proofs.Ytjfjigknkhgkdaa.T
open Go Go.Tv Go.Proofs
noncomputable section
set_option maxRecDepth 100000
set_option maxHeartbeats 4000000
def lq_RulesMade_L1 (d4 : List Int) (r7 : (List (List UInt8)) × Int × Int × (List Int) × List (Int × Tree × Tree)) (r10 : Int) : (Int) → Option ((Int) ⊕ ((Unit) ⊕ (Bool))) := fun (v5 : Int) =>
  (if (decide (v5 < (r7.2.2.2.1.length : Int))) = true then (if 0 ≤ v5 ∧ v5 < (r7.2.2.2.1.length : Int) then (((if (decide (v5 < (d4.length : Int))) = true then (if 0 ≤ v5 ∧ v5 < (d4.length : Int) then (if ¬ r10 = 0 then some ((Int.tmod (IntKind.i64.wrap (d4.getD v5.toNat (0 : Int))) r10)) else none) else none)
  else some (v5))).bind fun (v6 : Int) => (if ((r7.2.2.2.1.getD v5.toNat (0 : Int)) != v6) = true then some (Sum.inr (Sum.inr false))
  else some (Sum.inl (IntKind.i64.wrap (v5 + (1 : Int)))))) else none)
  else some (Sum.inr (Sum.inl ())))
def lq_RulesMade_L2 (d5 : List (Int × (List Int) × List Int)) (r7 : (List (List UInt8)) × Int × Int × (List Int) × List (Int × Tree × Tree)) : (Int) → Option ((Int) ⊕ ((Unit) ⊕ (Bool))) := fun (v10 : Int) =>
  (if (decide (v10 < (r7.2.2.2.2.length : Int))) = true then (if 0 ≤ v10 ∧ v10 < (r7.2.2.2.2.length : Int) then (((if 0 ≤ v10 ∧ v10 < (d5.length : Int) then (if ¬ (3 : Int) = 0 then (if (((r7.2.2.2.2.getD v10.toNat ((0 : Int), ((Tree.node 0 0 []), (Tree.node 0 0 [])))).1) != (Int.tmod ((d5.getD v10.toNat ((0 : Int), (([] : List Int), ([] : List Int)))).1) (3 : Int))) = true then some (true)
  else (if 0 ≤ v10 ∧ v10 < (d5.length : Int) then (if (!(((((d5.getD v10.toNat ((0 : Int), (([] : List Int), ([] : List Int)))).2.1).length : Int) == (0 : Int)) == ((((r7.2.2.2.2.getD v10.toNat ((0 : Int), ((Tree.node 0 0 []), (Tree.node 0 0 [])))).2.1).op) == (0 : Int)))) = true then some (true)
  else (if 0 ≤ v10 ∧ v10 < (d5.length : Int) then some ((!(((((d5.getD v10.toNat ((0 : Int), (([] : List Int), ([] : List Int)))).2.2).length : Int) == (0 : Int)) == ((((r7.2.2.2.2.getD v10.toNat ((0 : Int), ((Tree.node 0 0 []), (Tree.node 0 0 [])))).2.2).op) == (0 : Int))))) else none)) else none)) else none) else none)).bind fun (v11 : Bool) => (if v11 = true then some (Sum.inr (Sum.inr false))
  else some (Sum.inl (IntKind.i64.wrap (v10 + (1 : Int)))))) else none)
  else some (Sum.inr (Sum.inl ())))
def lq_RulesMade (d1 d2 d3 : Int) (d4 : List Int) (d5 : List (Int × (List Int) × List Int)) : Option (Bool) :=
  ((lq_Awake).bind fun (r2 : Bool) =>
  (if (!r2) = true then some false
  else ((hq_Text d1 d2 d3 d4 d5).bind fun (r6 : List UInt8) =>
  ((rules_Parse r6).bind fun ((r7, r8) : ((List (List UInt8)) × Int × Int × (List Int) × List (Int × Tree × Tree)) × Int × Int) =>
  (if (r8.1 != (0 : Int)) = true then some false
  else ((hq_Plan_Count d1 d2 d3 d4 d5).bind fun (r10 : Int) =>
  (if 0 ≤ r10 then (((if ((r7.1.length : Int) != r10) = true then some (true)
  else (if ((r7.2.2.2.1.length : Int) != r10) = true then some (true)
  else (if ((r7.2.2.2.2.length : Int) != (min (d5.length : Int) (10 : Int))) = true then some (true)
  else (if (d2 != (0 : Int)) = true then (if (r7.2.1 != (bitsOf .and .u32 (IntKind.u32.wrap d2) (IntKind.u32.wrap ((IntKind.u32.wrap ((1 : Int) * 2 ^ (min r10.toNat IntKind.u32.bits))) - (1 : Int))))) = true then some (true)
  else some ((r7.2.2.1 != (bitsOf .and .u32 (IntKind.u32.wrap d3) (IntKind.u32.wrap ((IntKind.u32.wrap ((1 : Int) * 2 ^ (min r10.toNat IntKind.u32.bits))) - (1 : Int)))))))
  else some (false)))))).bind fun (v1 : Bool) => (if v1 = true then some false
  else ((iter (lq_RulesMade_L1 d4 r7 r10) (0 : Int)).bind fun (r12 : ((Unit) ⊕ (Bool))) => match r12 with
  | .inl _ => ((iter (lq_RulesMade_L2 d5 r7) (0 : Int)).bind fun (r14 : ((Unit) ⊕ (Bool))) => match r14 with
  | .inl _ => some true
  | .inr (r13) => some r13)
  | .inr (r11) => some r11))) else none)))))))
end
end Go.Proofs.Ytjfjigknkhgkdaa.T
