/- Loops in plain laws: what holds in each round. -/
import Derived.Test.YtjfjigknkhgkdaaTvY
namespace Go.Tv
open Go
end Go.Tv
