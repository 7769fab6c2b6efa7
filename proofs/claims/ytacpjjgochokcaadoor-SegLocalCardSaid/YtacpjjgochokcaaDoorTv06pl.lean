/- The document's parser of rules says what the pieces say: expressions. -/
import Derived.Test.YtacpjjgochokcaaDoorTv06pjm
namespace Go.Proofs.YtacpjjgochokcaaDoor.T
open Go Go.Tv Go.Proofs
section
variable{t:List UInt8}(ht:t.length≤10000)
include ht
end
section
variable{c:Int}(hc:c≠0)
include hc
end
section
variable{t:List UInt8}(ht:t.length≤10000)
include ht
end
end Go.Proofs.YtacpjjgochokcaaDoor.T
