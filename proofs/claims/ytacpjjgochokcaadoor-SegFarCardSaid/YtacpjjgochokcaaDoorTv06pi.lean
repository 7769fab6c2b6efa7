/- The program's parser of rules says what the pieces say: lines, and all of them. -/
import Derived.Test.YtacpjjgochokcaaDoorTv06pgm
namespace Go.Proofs.YtacpjjgochokcaaDoor.T
open Go Go.Tv Go.Proofs
section
variable{t:List UInt8}(ht:t.length≤10000)
include ht
end
structure Inv(s:PS):Prop where
 hc:s.cls.length≤24
 htr:s.treat.length=s.cls.length
 hl:s.list.length≤24
 hp0:0≤s.pl
 hp1:s.pl≤200
abbrev St:=Int×List (List UInt8)×Int×Int×List Int×RL×P1×Int×Int
section
variable{t:List UInt8}(ht:t.length≤10000)
include ht
end
def aEq:((List (List UInt8)×Int×Int×List Int×RL)⊕Er)→(List (List UInt8)×Int×Int×List Int×RL)×Int×Int
 | .inr e=>(([],0,0,[],[]),e)
 | .inl x=>(x,0,0)
end Go.Proofs.YtacpjjgochokcaaDoor.T
