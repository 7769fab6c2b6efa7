/- RulesLimits, reckoned. -/
import Derived.Test.YtjfjigknkhgkdaaTvT03xRulesLimits
import Derived.Test.YtjfjigknkhgkdaaTvY
namespace Go.Proofs.Ytjfjigknkhgkdaa.T
open Go Go.Tv Go.Proofs
set_option maxRecDepth 1000000 in
theorem lim00 : stanzalaw03_RulesLimits 0 0 = some true := by kernel_rfl
set_option maxRecDepth 1000000 in
theorem lim01 : stanzalaw03_RulesLimits 0 1 = some true := by kernel_rfl
set_option maxRecDepth 1000000 in
theorem lim10 : stanzalaw03_RulesLimits 1 0 = some true := by kernel_rfl
set_option maxRecDepth 1000000 in
theorem lim11 : stanzalaw03_RulesLimits 1 1 = some true := by kernel_rfl
set_option maxRecDepth 1000000 in
theorem lim20 : stanzalaw03_RulesLimits 2 0 = some true := by kernel_rfl
set_option maxRecDepth 1000000 in
theorem lim21 : stanzalaw03_RulesLimits 2 1 = some true := by kernel_rfl
set_option maxRecDepth 1000000 in
theorem lim30 : stanzalaw03_RulesLimits 3 0 = some true := by kernel_rfl
set_option maxRecDepth 1000000 in
theorem lim31 : stanzalaw03_RulesLimits 3 1 = some true := by kernel_rfl
end Go.Proofs.Ytjfjigknkhgkdaa.T
