/- Functions of the program as functions on data, and that the program's own come to them. -/
import Derived.Test.YtjfjigknkhgkdaaTvT03x0
namespace Go.Proofs.Ytjfjigknkhgkdaa.T
open Go Go.Tv Go.Proofs
noncomputable section
set_option maxRecDepth 100000
set_option maxHeartbeats 4000000
def rr_letter (c1 : Int) : Option (Bool) :=
  (((if (c1 == (95 : Int)) = true then some (true)
  else (if (decide (c1 ≥ (48 : Int))) = true then (if (decide (c1 ≤ (57 : Int))) = true then some (true)
  else (if (decide (c1 ≥ (65 : Int))) = true then (if (decide (c1 ≤ (90 : Int))) = true then some (true)
  else (if (decide (c1 ≥ (97 : Int))) = true then some ((decide (c1 ≤ (122 : Int))))
  else some (false)))
  else (if (decide (c1 ≥ (97 : Int))) = true then some ((decide (c1 ≤ (122 : Int))))
  else some (false))))
  else (if (decide (c1 ≥ (65 : Int))) = true then (if (decide (c1 ≤ (90 : Int))) = true then some (true)
  else (if (decide (c1 ≥ (97 : Int))) = true then some ((decide (c1 ≤ (122 : Int))))
  else some (false)))
  else (if (decide (c1 ≥ (97 : Int))) = true then some ((decide (c1 ≤ (122 : Int))))
  else some (false)))))).bind fun (v1 : Bool) => some v1)
end
end Go.Proofs.Ytjfjigknkhgkdaa.T
