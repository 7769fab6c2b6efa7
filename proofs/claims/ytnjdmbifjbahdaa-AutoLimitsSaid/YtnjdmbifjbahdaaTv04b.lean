/- AutoLimits, reckoned: up to seven classes. -/
import Derived.Test.YtnjdmbifjbahdaaTvT04xAutoLimits
import Derived.Test.YtnjdmbifjbahdaaTvY
namespace Go.Proofs.Ytnjdmbifjbahdaa.T
open Go Go.Tv Go.Proofs
set_option maxRecDepth 1000000 in
theorem lim0 : stanzalaw04_AutoLimits 0 = some true := by kernel_rfl
set_option maxRecDepth 1000000 in
theorem lim1 : stanzalaw04_AutoLimits 1 = some true := by kernel_rfl
set_option maxRecDepth 1000000 in
theorem lim2 : stanzalaw04_AutoLimits 2 = some true := by kernel_rfl
set_option maxRecDepth 1000000 in
theorem lim3 : stanzalaw04_AutoLimits 3 = some true := by kernel_rfl
set_option maxRecDepth 1000000 in
theorem lim4 : stanzalaw04_AutoLimits 4 = some true := by kernel_rfl
set_option maxRecDepth 1000000 in
theorem lim5 : stanzalaw04_AutoLimits 5 = some true := by kernel_rfl
set_option maxRecDepth 1000000 in
theorem lim6 : stanzalaw04_AutoLimits 6 = some true := by kernel_rfl
set_option maxRecDepth 1000000 in
theorem lim7 : stanzalaw04_AutoLimits 7 = some true := by kernel_rfl
end Go.Proofs.Ytnjdmbifjbahdaa.T
