/- AutoLimits, reckoned: ten classes. -/
import Derived.Test.YtnjdmbifjbahdaaTvT04xAutoLimits
import Derived.Test.YtnjdmbifjbahdaaTvY
namespace Go.Proofs.Ytnjdmbifjbahdaa.T
open Go Go.Tv Go.Proofs
set_option maxRecDepth 1000000 in
theorem lim10 : stanzalaw04_AutoLimits 10 = some true := by kernel_rfl
end Go.Proofs.Ytnjdmbifjbahdaa.T
