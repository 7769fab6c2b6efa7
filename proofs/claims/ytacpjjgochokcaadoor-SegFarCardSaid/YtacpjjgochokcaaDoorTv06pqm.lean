/- A plan's rules as a text. -/
import Derived.Test.YtacpjjgochokcaaDoorTvT06xb
import Derived.Test.YtacpjjgochokcaaDoorTvYm
import Derived.Test.YtacpjjgochokcaaDoorTv06lpm
namespace Go.Proofs.YtacpjjgochokcaaDoor.T
open Go Go.Tv Go.Proofs
def nmB(n i:Nat):UInt8:=(65+i % n).toUInt8
inductive Ex where
 | nm (k:Nat)
 | any
 | set (neg:Bool) (b:Nat)
 | star (a:Ex)
 | plus (a:Ex)
 | opt (a:Ex)
 | alt (a b:Ex)
 | seq (a b:Ex)
def nx(l:List Int)(i:Nat):Nat×Nat:=if l.length≤i then(0,i)else((l.getD i 0).toNat,i+1)
def Ex.D:Ex→Nat
 | .star a=>a.D+1
 | .plus a=>a.D+1
 | .opt a=>a.D+1
 | .alt a b=>max a.D b.D+1
 | .seq a b=>max a.D b.D+1
 | .set _ _=>1
 | .any=>1
 | .nm _=>0
def Sm(l:List Int):Prop:=∀x∈l,0≤x∧x<256
end Go.Proofs.YtacpjjgochokcaaDoor.T
namespace Go.Proofs.YtacpjjgochokcaaDoor.T
open Go Go.Tv Go.Proofs
abbrev PR:=Int×List Int×List Int
structure Pl(c j a:Int)(tr:List Int)(l:List PR):Prop where
 hc:0≤c∧c<256
 hj:0≤j∧j<256
 ha:0≤a∧a<256
 ht:Sm tr
 hl:∀x∈l,(0≤x.1∧x.1<256)∧Sm x.2.1∧Sm x.2.2
end Go.Proofs.YtacpjjgochokcaaDoor.T
