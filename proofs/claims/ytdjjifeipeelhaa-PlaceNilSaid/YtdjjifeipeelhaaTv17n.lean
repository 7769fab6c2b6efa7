/- PlaceNil. -/
import Derived.Test.YtdjjifeipeelhaaTvT17xPlaceNil
import Derived.Test.YtdjjifeipeelhaaTvV
import Derived.KernelRfl
namespace Go.Proofs.Ytdjjifeipeelhaa.T
open Go Go.Tv Go.Proofs

theorem awake : stanzalaw17_Awake = some true := by kernel_rfl
abbrev placeNil_Ts : List Ty := [.int .i64, .bool, .prod (.int .i64) (.int .i64)]
theorem placeNil_all (x : Tup placeNil_Ts) (hx : WfT placeNil_Ts x) : stanzalaw17_PlaceNil x.1 x.2.1 x.2.2.1.1 x.2.2.1.2 = some true := by
  unfold stanzalaw17_PlaceNil
  rw [awake]
  rfl
end Go.Proofs.Ytdjjifeipeelhaa.T
