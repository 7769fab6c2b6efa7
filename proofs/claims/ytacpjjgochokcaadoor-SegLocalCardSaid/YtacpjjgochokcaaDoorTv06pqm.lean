/- A plan's rules as a text. -/
import Derived.Test.YtacpjjgochokcaaDoorTvT06xb
import Derived.Test.YtacpjjgochokcaaDoorTvYm
import Derived.Test.YtacpjjgochokcaaDoorTv06lpm
namespace Go.Proofs.YtacpjjgochokcaaDoor.T
open Go Go.Tv Go.Proofs
def qR(n i:Nat):UInt8:=(65+i % n).toUInt8
def sH(n b:Nat):Nat→List UInt8
 | 0=>[]
 | k+1=>sH n b k++(if b / 2 ^ k % 2=1 then[32,qR n k]else[])
inductive Ex where
 | nm (k:Nat)
 | any
 | set (neg:Bool) (b:Nat)
 | star (a:Ex)
 | plus (a:Ex)
 | opt (a:Ex)
 | alt (a b:Ex)
 | seq (a b:Ex)
def nx(l:List Int)(i:Nat):Nat×Nat:=if l.length≤i then(0,i)else((l.getD i 0).toNat,i+1)
def E5:Nat→List Int→Nat→Ex×Nat
 | 0,l,i=>(.nm (nx l i).1,(nx l i).2)
 | d+1,l,i =>
  if(nx l i).1 % 12=4 then(.any,(nx l i).2)
  else if(nx l i).1 % 12=5 then(.set false (nx l (nx l i).2).1,(nx l (nx l i).2).2)
  else if(nx l i).1 % 12=6 then(.set true (nx l (nx l i).2).1,(nx l (nx l i).2).2)
  else if(nx l i).1 % 12=7 then(.star (E5 d l (nx l i).2).1,(E5 d l (nx l i).2).2)
  else if(nx l i).1 % 12=8 then(.plus (E5 d l (nx l i).2).1,(E5 d l (nx l i).2).2)
  else if(nx l i).1 % 12=9 then(.opt (E5 d l (nx l i).2).1,(E5 d l (nx l i).2).2)
  else if(nx l i).1 % 12=10 then(.alt (E5 d l (nx l i).2).1 (E5 d l (E5 d l (nx l i).2).2).1,(E5 d l (E5 d l (nx l i).2).2).2)
  else if(nx l i).1 % 12=11 then(.seq (E5 d l (nx l i).2).1 (E5 d l (E5 d l (nx l i).2).2).1,(E5 d l (E5 d l (nx l i).2).2).2)
  else(.nm (nx l i).1,(nx l i).2)
def Ex.D:Ex→Nat
 | .star a=>a.D+1
 | .plus a=>a.D+1
 | .opt a=>a.D+1
 | .alt a b=>max a.D b.D+1
 | .seq a b=>max a.D b.D+1
 | .set _ _=>1
 | .any=>1
 | .nm _=>0
theorem N7:∀(d:Nat) (l:List Int) (i:Nat),(E5 d l i).1.D≤d
 | 0,_,_=>Nat.le_refl _
 | d+1,l,i=>by
  have h1:=N7 d l (nx l i).2
  have h2:=N7 d l (E5 d l (nx l i).2).2
  simp only[E5]
  repeat (split;· simp only[Ex.D];omega)
  simp only[Ex.D];omega
def Sm(l:List Int):Prop:=∀x∈l,0≤x∧x<256
def wM(l:List Int):Option Ex:=if l.length=0 then none else some (E5 3 (l.take 30) 0).1
end Go.Proofs.YtacpjjgochokcaaDoor.T
namespace Go.Proofs.YtacpjjgochokcaaDoor.T
open Go Go.Tv Go.Proofs
abbrev PR:=Int×List Int×List Int
abbrev L5:PR:=((0:Int),(([]:List Int),([]:List Int)))
def iZ(c:Int):Nat:=1+c.toNat % 6
structure Pl(c j a:Int)(tr:List Int)(l:List PR):Prop where
 hc:0≤c∧c<256
 hj:0≤j∧j<256
 ha:0≤a∧a<256
 ht:Sm tr
 hl:∀x∈l,(0≤x.1∧x.1<256)∧Sm x.2.1∧Sm x.2.2
theorem yU(c:Int):1≤iZ c:=by unfold iZ;omega
theorem M7(c:Int):iZ c≤6:=by unfold iZ;omega
end Go.Proofs.YtacpjjgochokcaaDoor.T
