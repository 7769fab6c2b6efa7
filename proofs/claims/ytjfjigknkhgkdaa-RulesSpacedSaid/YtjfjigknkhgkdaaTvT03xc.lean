/- Functions of the program as functions on data, and that the program's own come to them. -/
import Derived.Test.YtjfjigknkhgkdaaTvT03x0
import Derived.Test.YtjfjigknkhgkdaaTvT03xa
import Derived.Test.YtjfjigknkhgkdaaTvT03xb
import Derived.Test.YtjfjigknkhgkdaaTvT03xc1
namespace Go.Proofs.Ytjfjigknkhgkdaa.T
open Go Go.Tv Go.Proofs
noncomputable section
set_option maxRecDepth 100000
set_option maxHeartbeats 4000000
end
end Go.Proofs.Ytjfjigknkhgkdaa.T
