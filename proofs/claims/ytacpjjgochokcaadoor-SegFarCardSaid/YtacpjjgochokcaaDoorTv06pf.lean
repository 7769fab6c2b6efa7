/- What rules as pieces say, or the first fault. -/
import Derived.Test.YtacpjjgochokcaaDoorTv06pdm
namespace Go.Proofs.YtacpjjgochokcaaDoor.T
open Go Go.Tv Go.Proofs
abbrev P1:=List (List UInt8×Int)
abbrev look(sets:P1)(w:List UInt8):Option Int:=bF .str sets w
def aCx(n:Nat):Int:=IntKind.u32.wrap ((1:Int)*2 ^ (min (n:Int).toNat IntKind.u32.bits))
def oU(cls:List (List UInt8))(w:List UInt8):Nat:=L1 (fun i=>cls.getD i [] == w) cls.length
abbrev RL:=List (Int×Tree×Tree)
structure PS where
 ts:Toks
 cls:List (List UInt8)
 join:Int
 after:Int
 treat:List Int
 list:RL
 sets:P1
 pl:Int
/-! Sizes: what is taken. -/
end Go.Proofs.YtacpjjgochokcaaDoor.T
