/- The fixed facts of 04 hold. -/
import Derived.Test.YtnjdmbifjbahdaaTvT04x
import Derived.Test.YtnjdmbifjbahdaaTvY
namespace Go.Proofs.Ytnjdmbifjbahdaa.T
open Go Go.Tv Go.Proofs
set_option maxRecDepth 1000000 in
theorem awake04 : stanzalaw04_Awake = some true := by kernel_rfl
end Go.Proofs.Ytnjdmbifjbahdaa.T
