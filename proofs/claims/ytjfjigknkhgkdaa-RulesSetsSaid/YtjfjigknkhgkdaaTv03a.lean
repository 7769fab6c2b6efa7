/- The fixed facts of 03 hold. -/
import Derived.Test.YtjfjigknkhgkdaaTvT03xa
import Derived.Test.YtjfjigknkhgkdaaTvY
namespace Go.Proofs.Ytjfjigknkhgkdaa.T
open Go Go.Tv Go.Proofs
set_option maxRecDepth 1000000 in
theorem awake03 : lq_Awake = some true := by kernel_rfl
end Go.Proofs.Ytjfjigknkhgkdaa.T
