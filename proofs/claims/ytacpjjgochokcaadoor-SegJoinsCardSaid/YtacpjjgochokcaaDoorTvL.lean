/- What an operation comes to, by a function. -/
import Derived.Test.YtacpjjgochokcaaDoorTvKhm
namespace Go.Tv
open Go Go.RowKit
def xO(s:Nat→AVal):Option Operand→Option (Option Int)
 | none=>some none
 | some x=>match ev s x with
  | .p _ (.int _) n=>some (some n)
  | _=>none
def nG(tb:Tab)(t:TypeId):Option (TypeId×TI×Ty) :=
 match tb.find t with
 | some ti=>match ti.k with
  | .sl e=>match tb.find e with
   | some te=>match te.T with
    | some A=>if 0<A.size then some (e,te,A)else none
    | none=>none
   | none=>none
  | _=>none
 | none=>none
def aBo(tb:Tab)(new:Nat)(t:TypeId):Option pX :=
 match tb.find t with
 | some ti=>some (.adr new 0 ti.size 0,[(new,some (.box ti.z))],True)
 | none=>none
def aGd(new:Nat)(x:AVal):Option pX :=
 if(cellsOf x).all AVal.cell then some (.adr new 0 (cellsOf x).length 0,[(new,some (.box (cellsOf x)))],True)else none
def aA9(tb:Tab)(t:TypeId)(is:List Nat)(xs:List AVal):Option pX :=
 match tb.find t with
 | some ti=>match ti.k with
  | .st fs=>match lR tb fs (is.zip xs) ti.z with
   | some ds=>some (.agg ds,[],True)
   | none=>none
  | .ar n e=>match tb.find e with
   | some te=>match lR tb ((List.range n).map fun i=>(i*te.size,e)) (is.zip xs) ti.z with
    | some ds=>some (.agg ds,[],True)
    | none=>none
   | none=>none
  | _=>none
 | none=>none
def pR(tb:Tab)(new:Nat)(t:TypeId)(len:Nat)(is:List Nat)(xs:List AVal)(h:Nat→Option Obj):Option pX :=
 match nG tb t with
 | some (e,te,A) =>
  if is=List.range len∧xs.all (fun x=>(cellsOf x).all AVal.cell)=true∧len*te.size≤16777216 then
   match aAR A h xs with
   | some (ys,us)=>some (.sl new,us++[(new,some (.arr e A ys))],True)
   | none=>none
  else none
 | none=>none
def qG(ti:TI)(x:AVal)(h:Nat→Option Obj):Option pX :=
 match x,ti.k with
 | .ada id b n i,.int k=>match h id with
  | some (.box cs)=>if b+n≤cs.length then(match xX k ((cs.drop b).take n)with
   | some l=>some (.p false (.int k) (l.getD i 0),[],True)
   | none=>none)else none
  | _=>none
 | _,_=>none
def n8(ti:TI)(x y:AVal)(h:Nat→Option Obj):Option pX :=
 match x,y with
 | .ada id b n i,.p _ (.int k) v=>match h id with
  | some (.box cs)=>if b+n≤cs.length∧ti.size=1 then(match xX k ((cs.drop b).take n)with
   | some l=>some (.unk,[(id,some (.box (cs.take b++N4 k i v 0 l++cs.drop (b+n))))],True)
   | none=>none)else none
  | _=>none
 | _,_=>none
def oB(tb:Tab)(t:TypeId)(x i:AVal)(h:Nat→Option Obj):Option pX :=
 match tb.find t with
 | some ti=>match ti.k with
  | .ar n e=>match tb.find e with
   | some te=>if te.size=1 then(match x,i with
    | .adr id j sz off,.p _ (.int _) m=>match h id with
     | some (.box _)=>some (.ada id (j*sz+off) n (show Int from m).toNat,[],0≤(show Int from m)∧(show Int from m)<(n:Int))
     | _=>none
    | .ada id b N p,.p _ (.int _) m=>some (.ada id b N (p+(show Int from m).toNat),[],(0≤(show Int from m)∧(show Int from m)<(n:Int))∧p+(show Int from m).toNat<N)
    | _,_=>none)else if 0<te.size then(match x,i with
    | .adr id j sz off,.p _ (.int _) m=>match h id with
     | some (.box _)=>some (.ada id (j*sz+off) (n*te.size) ((show Int from m).toNat*te.size),[],0≤(show Int from m)∧(show Int from m)<(n:Int))
     | _=>none
    | _,_=>none)else none
   | none=>none
  | _=>none
 | none=>none
def pG(new:Nat)(ti:TI)(x:AVal)(h:Nat→Option Obj):Option pX :=
 match x with
 | .adr id i sz off=>if sz=1∧off=0∧ti.k.agg=false then
   match h id with
   | some (.mat e e2 A xss none)=>some (.sl new,[(id,some (.mat e e2 A xss (some (i,new)))),(new,some (.arr e2 A (xss.getD i [])))],i<xss.length)
   | some (.mat e e2 A xss (some (k,j)))=>match h j with
    | some (.arr e3 B ys)=>if q:B=A then(if e3=e2 then
      some (.sl new,[(j,none),(id,some (.mat e e2 A (xss.set k (q ▸ ys:List A.den)) none))]++[(id,some (.mat e e2 A (xss.set k (q ▸ ys:List A.den)) (some (i,new)))),(new,some (.arr e2 A ((xss.set k (q ▸ ys:List A.den)).getD i [])))],i<xss.length)else none)else none
    | _=>none
   | _=>none
  else none
 | _=>none
def Z9(tb:Tab)(new:Nat)(t:TypeId)(x:AVal)(h:Nat→Option Obj):Option pX :=
 match tb.find t with
 | some ti=>match o8 h x with
  | some (cs,off,c)=>match xM ti cs off with
   | some y=>some (y,[],c)
   | none=>none
  | none=>match qG ti x h with
   | some r=>some r
   | none=>pG new ti x h
 | none=>none
def yP(id i:Nat)(e e2:TypeId)(A:Ty)(xss:List (List A.den))(hole:Option (Nat×Nat))(y:AVal)(h:Nat→Option Obj):Option pX :=
 match y with
 | .sl r=>match h r with
  | some (.arr e3 B _)=>if B=A∧e3=e2 then
    match hole with
    | none=>some (.unk,[(id,some (.mat e e2 A xss (some (i,r))))],i<xss.length)
    | some (k,j)=>match h j with
     | none=>some (.unk,[(id,some (.mat e e2 A xss (some (i,r))))],k=i∧i<xss.length)
     | some (.arr e4 C ys)=>if q:C=A then(if e4=e2∧j≠r then
       some (.unk,[(j,none),(id,some (.mat e e2 A (xss.set k (q ▸ ys:List A.den)) none))]++[(id,some (.mat e e2 A (xss.set k (q ▸ ys:List A.den)) (some (i,r))))],i<xss.length)else none)else none
     | _=>none
   else none
  | _=>none
 | _=>none
def sE(tb:Tab)(t:TypeId)(x y:AVal)(h:Nat→Option Obj):Option pX :=
 match tb.find t with
 | some ti =>
  if(cellsOf y).all AVal.cell=true∧(cellsOf y).length=ti.size then
   match x with
   | .adr id i sz off=>match h id with
    | some (.box cs)=>if i*sz+off+ti.size≤cs.length then some (.unk,[(id,some (.box (wr cs (i*sz+off) (cellsOf y))))],True)else none
    | some (.arr e A xs) =>
     if sz=A.size∧off+ti.size≤A.size then
      match aAy A h xs i off y with
      | some (z,us)=>if us.all (fun p=>p.1 != id)then some (.unk,us++[(id,some (.arr e A (xs.set i z)))],i<xs.length)else none
      | none=>none
     else none
    | some (.mat e e2 A xss hole)=>if sz=1∧off=0 then yP id i e e2 A xss hole y h else none
    | _=>none
   | _=>n8 ti x y h
  else none
 | none=>none
def aFH(x:AVal):Option pX :=
 match x with
 | .adr id i sz off=>some (.adr id i sz off,[],True)
 | .fad β cs off=>some (.fad β cs off,[],True)
 | .p β (.ptr A) q=>some (.fad β (kV β A (q.getD A.zero)) 0,[],q.isSome=true)
 | _=>none
def V9:AVal→Option Bool
 | .nilp=>some true
 | .adr _ _ _ _=>some false
 | .fad _ _ _=>some false
 | _=>none
def eqR(op:BinOp)(b:Bool):Option AVal :=
 match op with
 | .eql=>some (.p false .bool b)
 | .neq=>some (.p false .bool (!b))
 | _=>none
def aGs(P:Program)(ti:TI)(op:BinOp)(t:TypeId)(x y:AVal):Option pX :=
 match x,y with
 | .agg cs,.agg ds=>match ti.T with
  | some T=>match mW T cs,mW T ds with
   | some (a,[]),some (b,[])=>match eqR op (eqE T a b)with
    | some r=>some (r,[],aLm P t T)
    | none=>none
   | _,_=>none
  | none=>none
 | .p _ (.ptr _) q,.nilp=>match eqR op q.isNone with
  | some r=>some (r,[],∃e,P.underlying t=some (.pointer e))
  | none=>none
 | x,y=>match V9 x,V9 y with
  | some true,some b=>match eqR op b with
   | some r=>some (r,[],∃e,P.underlying t=some (.pointer e))
   | none=>none
  | some false,some true=>match eqR op false with
   | some r=>some (r,[],∃e,P.underlying t=some (.pointer e))
   | none=>none
  | _,_=>match x,y with
   | .lit (.iface _ _),.lit .nilIface=>match eqR op false with
    | some r=>some (r,[],∃ms,P.underlying t=some (.interface ms))
    | none=>none
   | _,_=>none
def zE(P:Program)(x:AVal)(at':TypeId)(ok:Bool):Option pX :=
 match x with
 | .lit (.iface t v)=>if t=at'∧ok=true then some (.tup [X9 v,.p false .bool true],[],∃d,P.underlying at'=some d∧(match d with | .interface _=>false | _=>true)=true)else none
 | _=>none
def aFE(P:Program)(tb:Tab)(op:BinOp)(t:TypeId)(x y:AVal):Option pX :=
 match tb.find t with
 | some ti=>match bin ti.k op x y with
  | some (r,c)=>some (r,[],c)
  | none=>aGs P ti op t x y
 | none=>none
def aHK(op:UnOp)(x:AVal):Option pX :=
 match un op x with
 | some r=>some (r,[],True)
 | none=>none
def aGy(tb:Tab)(k:TK):Bool :=
 match k with
 | .sl e=>match tb.find e with
  | some te=>match te.k with
   | .int .u8=>true
   | _=>false
  | none=>false
 | _=>true
def aE4(tb:Tab)(dk:TK)(x:AVal):Option AVal :=
 match x with
 | .p _ .str l=>match dk with
  | .sl e=>if aGy tb (.sl e)then some (.p false (.slice (.int .u8)) (J2 l))else none
  | _=>none
 | .p _ (.int _) n=>match dk with
  | .str=>some (.p false .str (aFD n))
  | _=>none
 | _=>none
def aAj(tb:Tab)(st dt:TypeId)(x:AVal)(h:Nat→Option Obj):Option pX :=
 match tb.find st with
 | some si=>match tb.find dt with
  | some di=>match aE4 tb di.k x with
   | some r=>some (r,[],True)
   | none=>if aGy tb si.k then(match conv si.k di.k h x with
    | some r=>some (r,[],True)
    | none=>none)else none
  | none=>none
 | none=>none
def sJ(tb:Tab)(new:Nat)(t:TypeId)(x:AVal)(lo hi:Option (Option Int))(h:Nat→Option Obj):Option pX :=
 match tb.find t with
 | some ti=>match lo,hi with
  | some l,some r=>match x with
   | .p _ .str s=>match ti.k with
    | .str=>some (.p false .str ((s.take (r.getD s.length).toNat).drop (l.getD 0).toNat),[],0≤l.getD 0∧l.getD 0≤r.getD s.length∧r.getD s.length≤s.length)
    | _=>none
   | .p β (.slice A) xs=>match nG tb t with
    | some (_,_,B)=>if A=B then some (.p β (.slice A) ((xs.take (r.getD xs.length).toNat).drop (l.getD 0).toNat),[],0≤l.getD 0∧l.getD 0≤r.getD xs.length∧r.getD xs.length≤xs.length)else none
    | none=>none
   | .sl id=>match h id with
    | some (.arr e A xs)=>match nG tb t with
     | some (_,_,_)=>match l,r with
      | none,some k=>some (.sl new,[(id,none),(new,some (.arr e A (xs.take k.toNat)))],0≤k∧k≤xs.length)
      | _,_=>none
     | none=>none
    | some (.fz A xs)=>match nG tb t with
     | some (_,_,B)=>if A=B then some (.p false (.slice A) ((xs.take (r.getD xs.length).toNat).drop (l.getD 0).toNat),[],0≤l.getD 0∧l.getD 0≤r.getD xs.length∧r.getD xs.length≤xs.length)else none
     | none=>none
    | _=>none
   | .nils=>match nG tb t with
    | some (_,_,_)=>some (.nils,[],0≤l.getD 0∧l.getD 0≤r.getD 0∧r.getD 0≤0)
    | none=>none
   | _=>none
  | _,_=>none
 | none=>none
def aDc:AVal→Option Int
 | .p _ (.int _) n=>some n
 | _=>none
def zI(tb:Tab)(t:TypeId)(x:AVal)(lo:Option (Option Int))(hi mx:AVal)(h:Nat→Option Obj):Option pX :=
 match nG tb t,lo,aDc hi,aDc mx with
 | some (_,_,B),some l,some r,some q=>match x with
  | .p β (.slice A) xs=>if A=B then some (.p β (.slice A) ((xs.take r.toNat).drop (l.getD 0).toNat),[],0≤l.getD 0∧l.getD 0≤r∧r≤q∧q≤xs.length)else none
  | .sl id=>match h id with
   | some (.fz A xs)=>if A=B then some (.p false (.slice A) ((xs.take r.toNat).drop (l.getD 0).toNat),[],0≤l.getD 0∧l.getD 0≤r∧r≤q∧q≤xs.length)else none
   | _=>none
  | _=>none
 | _,_,_,_=>none
def aA3(tb:Tab)(t:TypeId)(x:AVal)(f:Nat):Option pX :=
 match tb.find t with
 | some ti=>match ti.k with
  | .st fs=>match fs[f]? with
   | some (off,_)=>match x with
    | .adr id i sz k=>some (.adr id i sz (k+off),[],True)
    | .fad β cs k=>some (.fad β cs (k+off),[],True)
    | _=>none
   | none=>none
  | _=>none
 | none=>none
def lA(tb:Tab)(t:TypeId)(x i:AVal)(h:Nat→Option Obj):Option pX :=
 match nG tb t with
 | some (_,te,_)=>match i with
  | .p _ (.int _) n=>match S8 h x n with
   | some (y,sz,c)=>if sz=te.size then some (y,[],c)else none
   | none=>none
  | _=>none
 | none=>none
def aBd(tb:Tab)(t:TypeId)(x i:AVal):Option pX :=
 match tb.find t with
 | some ti=>match ti.k with
  | .str=>match x,i with
   | .p _ .str s,.p _ (.int _) n=>some (.p false (.int .u8) ((s.getD n.toNat 0).toNat:Int),[],0≤n∧n<s.length)
   | _,_=>none
  | .ar n e=>match tb.find e with
   | some te=>match te.k with
    | .int k=>match x,i with
     | .agg cs,.p _ (.int _) m=>if cs.length=n then(match xX k cs with
      | some l=>some (.p false (.int k) (l.getD (show Int from m).toNat 0),[],0≤(show Int from m)∧(show Int from m)<(n:Int))
      | none=>none)else none
     | _,_=>none
    | _=>none
   | none=>none
  | _=>none
 | none=>none
def P5(x:AVal)(i:Nat):Option pX :=
 match x with
 | .tup cs=>match cs[i]? with
  | some y=>some (y,[],True)
  | none=>none
 | _=>none
def aCY(e:TypeId)(te:TI)(A:Ty)(n:Nat):Obj :=
 match A with
 | .slice B=>match te.k,te.z with
  | .sl e2,[.nils]=>if 0<B.size then .mat e e2 B (List.replicate n []) none else .arr e (.slice B) (List.replicate n [])
  | _,_=> .arr e (.slice B) (List.replicate n [])
 | A=> .arr e A (List.replicate n A.zero)
def aDb(tb:Tab)(new:Nat)(t:TypeId)(l c:AVal):Option pX :=
 match nG tb t with
 | some (e,te,A)=>match l,c with
  | .p _ (.int _) n,.p _ (.int _) k=>some (.sl new,[(new,some (aCY e te A n.toNat))],0≤n∧n≤k∧(te.bytes:Int)*k≤281474976710656∧k≤9223372036854775807)
  | _,_=>none
 | none=>none
def aF6:AVal→Bool
 | .p _ .str _=>true
 | _=>false
def aBS(tb:Tab)(t:TypeId)(x:AVal)(h:Nat→Option Obj):Option pX :=
 match tb.find t with
 | some ti=>match lenOf h x with
  | some n=>match ti.k with
   | .sl _=>if aF6 x then none else some (.p false (.int .i64) n,[],True)
   | .str=>if aF6 x then some (.p false (.int .i64) n,[],True)else none
   | _=>none
  | none=>none
 | none=>none
def qH(tb:Tab)(new:Nat)(t:TypeId)(x y:AVal)(h:Nat→Option Obj):Option pX :=
 match nG tb t with
 | some (e,te,A)=>match lN h A y with
  | some ys=>match x with
   | .nils=>some (.sl new,[(new,some (.arr e A ys))],(([]:List A.den).length+ys.length)*te.bytes≤140737488355328∧([]:List A.den).length+ys.length≤9223372036854775807)
   | .sl id=>match h id with
    | some (.arr e' B xs)=>if q:B=A then(if e'=e then some (.sl new,[(id,none),(new,some (.arr e A ((q ▸ xs:List A.den)++ys)))],((q ▸ xs:List A.den).length+ys.length)*te.bytes≤140737488355328∧(q ▸ xs:List A.den).length+ys.length≤9223372036854775807)else none)else none
    | _=>none
   | _=>none
  | none=>none
 | none=>none
def xA(tb:Tab)(t:TypeId)(x y:AVal)(h:Nat→Option Obj):Option pX :=
 match nG tb t with
 | some (_,_,A)=>match lN h A y with
  | some ys=>match x with
   | .sl id=>match h id with
    | some (.arr e' B xs)=>if q:B=A then some (.p false (.int .i64) ((min ys.length (q ▸ xs:List A.den).length:Nat):Int),[(id,some (.arr e' A (ys.take (q ▸ xs:List A.den).length++(q ▸ xs:List A.den).drop ys.length)))],True)else none
    | _=>none
   | _=>none
  | none=>none
 | none=>none
def aHc(P:Program)(kt:TypeId)(ki:TI):Option (Ty×Prop) :=
 match aGR ki.k with
 | some K=>some (K,True)
 | none=>match ki.T with
  | some K=>if K.scalar=false then some (K,KeyOk P kt K)else none
  | none=>none
def aEX(P:Program)(tb:Tab)(t:TypeId):Option (Ty×Ty×Prop) :=
 match tb.find t with
 | some ti=>match ti.k with
  | .mp kt et=>match tb.find kt,tb.find et with
   | some ki,some te=>match aHc P kt ki,te.T with
    | some (K,c),some A=>some (K,A,c)
    | _,_=>none
   | _,_=>none
  | _=>none
 | none=>none
def y7(K:Ty)(x:AVal):Option K.den :=
 match x with
 | .p _ K2 i=>if q:K2=K then(if K.scalar=true then some (q ▸ i)else none)else none
 | .agg cs=>if K.scalar=false∧cs.length=K.size then match mW K cs with
  | some (k,_)=>some k
  | none=>none
  else none
 | _=>none
def I6(P:Program)(tb:Tab)(new:Nat)(t:TypeId):Option pX :=
 match aEX P tb t with
 | some (K,A,c)=>some (.mp new,[(new,some (.mpo K A []))],c)
 | none=>none
def qE(P:Program)(tb:Tab)(t:TypeId)(x k:AVal)(ok:Bool)(h:Nat→Option Obj):Option pX :=
 match aEX P tb t with
 | some (K,A,c)=>match x with
  | .mp id=>match h id with
   | some (.mpo K1 A1 kv)=>match y7 K1 k with
    | some i=>if K1=K∧A1=A then
     some (if ok then .tup [enc false A1 ((bL K1 kv i).getD A1.zero),.p false .bool (bL K1 kv i).isSome]else enc false A1 ((bL K1 kv i).getD A1.zero),[],c)else none
    | none=>none
   | _=>none
  | _=>none
 | none=>none
def g9(P:Program)(tb:Tab)(t:TypeId)(x k y:AVal)(h:Nat→Option Obj):Option pX :=
 match aEX P tb t with
 | some (K,A,c)=>match x with
  | .mp id=>match h id with
   | some (.mpo K1 A1 kv)=>match y7 K1 k with
    | some i=>if K1=K∧A1=A∧(cellsOf y).all AVal.cell=true∧nR A1 y=true then
     match toT A1 h y with
     | some (z,us)=>if us.all (fun p=>p.1 != id)then some (.unk,us++[(id,some (.mpo K1 A1 (fB K1 kv i z)))],c)else none
     | none=>none
     else none
    | none=>none
   | _=>none
  | _=>none
 | none=>none
def aED(P:Program)(tb:Tab)(t:TypeId):Option (Ty×Prop) :=
 match tb.find t with
 | some ti=>match ti.k with
  | .mp kt et=>match tb.find kt,tb.find et with
   | some ki,some te=>match te.T with
    | none=>aHc P kt ki
    | some _=>none
   | _,_=>none
  | _=>none
 | none=>none
def B5(P:Program)(tb:Tab)(new:Nat)(t:TypeId):Option pX :=
 match aED P tb t with
 | some (K,c)=>some (.mp new,[(new,some (.mpl K []))],c)
 | none=>none
def aGr:AVal→Option Value
 | .lit v=>some v
 | .fn f []=>some (.func (.func f) #[] #[])
 | _=>none
def gD(P:Program)(tb:Tab)(t:TypeId)(x k y:AVal)(h:Nat→Option Obj):Option pX :=
 match aED P tb t with
 | some (K,c)=>match x with
  | .mp id=>match h id with
   | some (.mpl K1 kv)=>match y7 K1 k,aGr y with
    | some i,some v=>if K1=K∧kv.all (fun p=> !lO K1 p.1 i)=true then some (.unk,[(id,some (.mpl K1 (kv++[(i,v)])))],c)else none
    | _,_=>none
   | _=>none
  | _=>none
 | none=>none
def oI(P:Program)(tb:Tab)(t:TypeId)(g:List Nat)(x k:AVal)(ok:Bool)(h:Nat→Option Obj):Option pX :=
 match aED P tb t with
 | some (K,c)=>match x with
  | .mp id=>match h id with
   | some (.mpl K1 kv)=>match y7 K1 k,g with
    | some i,[j]=>if K1=K∧ok=true then some (aC2 ((kv[j]?).map (·.2)),[],c∧xH K1 kv i j)else none
    | _,_=>none
   | _=>none
  | _=>none
 | none=>none
def y5(tb:Tab)(t:TypeId)(x:AVal)(h:Nat→Option Obj):Option pX :=
 match tb.find t with
 | some ti=>match ti.k,x with
  | .mp _ _,.mp id=>match h id with
   | some (.mpo _ _ kv)=>some (.p false (.int .i64) (kv.length:Int),[],True)
   | _=>none
  | _,_=>none
 | none=>none
def aDn(b:Bool)(x y:AVal):Option pX :=
 match x,y with
 | .p _ (.int k) i,.p _ (.int k') j=>if k'=k then some (.p false (.int k) (if b then max (show Int from i) j else min (show Int from i) j),[],True)else none
 | _,_=>none
def aKH:AVal→Bool
 | .mp _=>true
 | _=>false
def W1:Ty→List Ty
 | .unit=>[]
 | .prod a b=>W1 a++W1 b
 | .tree k1 k2=>[.int k1,.int k2,.slice (.tree k1 k2)]
 | T=>[T]
def yQ:Ty→AVal→AVal
 | .slice A,.nils=> .p false (.slice A) []
 | .ptr A,.nilp=> .p false (.ptr A) none
 | _,x=>x
def pC:List Ty→List AVal→List AVal
 | T::Ts,c::cs=>yQ T c::pC Ts cs
 | _,cs=>cs
def aCm(T:Ty):AVal→AVal
 | .agg cs=> .agg (pC (W1 T) cs)
 | x=>yQ T x
def I1(tb:Tab)(t:TypeId)(x:AVal):AVal :=
 match tb.find t with
 | some ti=>match ti.T with
  | some T=>aCm T x
  | none=>x
 | none=>x
def kZ(tb:Tab):List Bool→List TypeId→List AVal→List AVal
 | true::bs,t::ts,x::xs=>I1 tb t x::kZ tb bs ts xs
 | false::bs,_::ts,x::xs=>x::kZ tb bs ts xs
 | _,_,xs=>xs
section
variable{P:Program}{Bw:Nat→Prop}{w0:Base P}{ρ:Nat→Option Value}{φ:Nat→Nat→Prop}{h:Nat→Option Obj}{w:World}{new:Nat}
theorem aFn(m:Mem Bw w0 ρ φ h w){o:Oper}{a:Act}{t:TypeId}{ti:TI}(ht:TIok P t ti){xo:Operand}{x:AVal}(hx:V (Fr (own φ h) Bw w) ρ x (a.eval xo))(ho:o.op = .load t xo)
  {r:AVal} {u:mB} {c:Prop} (hd:qG ti x h=some (r,u,c)):Good P o a w (Post Bw w0 ρ φ h w new r u):=by
 unfold qG at hd
 split at hd
 ·rename_i id b n i k hk
  split at hd
  ·rename_i cs hb
   split at hd
   ·rename_i hn
    split at hd
    ·rename_i l hl
     cases hd
     exact aAb m ht hk hx ho hb hl hn
    ·cases hd
   ·cases hd
  ·cases hd
 ·cases hd
theorem aFQ(m:Mem Bw w0 ρ φ h w){o:Oper}{a:Act}{t:TypeId}{ti:TI}(ht:TIok P t ti){xo yo:Operand}{x y:AVal}(hx:V (Fr (own φ h) Bw w) ρ x (a.eval xo))(hy:V (Fr (own φ h) Bw w) ρ y (a.eval yo))(ho:o.op = .store t xo yo)
  {r:AVal} {u:mB} {c:Prop} (hd:n8 ti x y h=some (r,u,c)):Good P o a w (Post Bw w0 ρ φ h w new r u):=by
 unfold n8 at hd
 split at hd
 ·rename_i id b n i β k v
  split at hd
  ·rename_i cs hb
   split at hd
   ·rename_i hn
    split at hd
    ·rename_i l hl
     cases hd
     exact Q4 m ht hn.2 hx hy ho hb hl hn.1
    ·cases hd
   ·cases hd
  ·cases hd
 ·cases hd
theorem aDH{tb:Tab}(m:Mem Bw w0 ρ φ h w)(htb:TabOK P tb){o:Oper}{a:Act}{t:TypeId}{xo io:Operand}{x i:AVal}(hx:V (Fr (own φ h) Bw w) ρ x (a.eval xo))(hi:V (Fr (own φ h) Bw w) ρ i (a.eval io))(ho:o.op = .indexAddr t xo io)
  {r:AVal} {u:mB} {c:Prop} (hd:oB tb t x i h=some (r,u,c)) (hc:c):Good P o a w (Post Bw w0 ρ φ h w new r u):=by
 unfold oB at hd
 split at hd
 ·rename_i ti ht
  split at hd
  ·rename_i n e hk
   split at hd
   ·rename_i te hte
    split at hd
    ·rename_i hsz
     split at hd
     ·rename_i id j sz off β k mm
      split at hd
      ·rename_i cs hb
       cases hd
       exact Q1 m (htb.find ht) hk (htb.find hte) hsz hx hb hi ho hc
      ·cases hd
     ·rename_i id b N p β k mm
      cases hd
      exact M2 m (htb.find ht) hk (htb.find hte) hsz hx hi ho hc
     ·cases hd
    ·split at hd
     ·rename_i hsz
      split at hd
      ·rename_i id j sz off β k mm
       split at hd
       ·rename_i cs hb
        cases hd
        exact P2 m (htb.find ht) hk (htb.find hte) hsz hx hb hi ho hc
       ·cases hd
      ·cases hd
     ·cases hd
   ·cases hd
  ·cases hd
 ·cases hd
theorem aDU(m:Mem Bw w0 ρ φ h w)(hn:ρ new=none){o:Oper}{a:Act}{t:TypeId}{ti:TI}(ht:TIok P t ti){xo:Operand}{x:AVal}(hx:V (Fr (own φ h) Bw w) ρ x (a.eval xo))(ho:o.op = .load t xo)
  {r:AVal} {u:mB} {c:Prop} (hd:pG new ti x h=some (r,u,c)) (hc:c):Good P o a w (Post Bw w0 ρ φ h w new r u):=by
 unfold pG at hd
 split at hd
 ·rename_i id i sz off
  split at hd
  ·rename_i hcond
   obtain⟨rfl,rfl,hk⟩:=hcond
   split at hd
   ·rename_i e e2 A xss hi
    cases hd
    exact xQ m hn ht hk hx ho hi hc
   ·rename_i e e2 A xss k j hi
    split at hd
    ·rename_i e3 B ys hj
     split at hd
     ·rename_i q
      subst q
      split at hd
      ·rename_i he
       subst he
       simp only[Option.some.injEq,Prod.mk.injEq]at hd
       obtain⟨rfl,rfl,rfl⟩:=hd
       obtain⟨m',hF⟩:=m.closeRow hi hj
       have hg:=xQ (new:=new) m' hn ht hk (V.mono hF (fun _ _ h=>h) hx) ho (aV _ _ _) (i:=i) (by rw[List.length_set];exact hc)
       exact fun K Q hk'=>hg K Q fun v w' hp=>hk' v w' (Post.after' rfl hF hp)
      ·cases hd
     ·cases hd
    ·cases hd
   ·cases hd
  ·cases hd
 ·cases hd
theorem aFt(m:Mem Bw w0 ρ φ h w){o:Oper}{a:Act}{t:TypeId}{ti:TI}(ht:TIok P t ti){xo yo:Operand}{id i:Nat}(hx:V (Fr (own φ h) Bw w) ρ (.adr id i 1 0) (a.eval xo)){y:AVal}(hy:V (Fr (own φ h) Bw w) ρ y (a.eval yo))(hsz:(cellsOf y).length=ti.size)
  (ho:o.op = .store t xo yo) {e e2:TypeId} {A:Ty} {xss:List (List A.den)} {hole:Option (Nat×Nat)} (hi:h id=some (.mat e e2 A xss hole)) {r:AVal} {u:mB} {c:Prop} (hd:yP id i e e2 A xss hole y h=some (r,u,c)) (hc:c) :
  Good P o a w (Post Bw w0 ρ φ h w new r u):=by
 unfold yP at hd
 split at hd
 ·rename_i rr
  have hs1:ti.size=1:=hsz.symm
  split at hd
  ·split at hd
   ·split at hd
    ·cases hd
     exact tP m ht hs1 hx hy ho hi hc (fun k j e=>by cases e)
    ·rename_i k j
     split at hd
     ·cases hd
      exact tP m ht hs1 hx hy ho hi hc.2 (fun k' j' e=>by cases e;exact hc.1)
     ·rename_i e4 C ys hj
      split at hd
      ·rename_i q
       subst q
       split at hd
       ·rename_i he
        obtain⟨rfl,_⟩:=he
        simp only[Option.some.injEq,Prod.mk.injEq]at hd
        obtain⟨rfl,rfl,rfl⟩:=hd
        obtain⟨m',hF⟩:=m.closeRow hi hj
        have hg:=tP (new:=new) m' ht hs1 (V.mono hF (fun _ _ h=>h) hx) (V.mono hF (fun _ _ h=>h) hy) ho (aV _ _ _) (i:=i) (by rw[List.length_set];exact hc) (fun k j e=>by cases e)
        exact fun K Q hk'=>hg K Q fun v w' hp=>hk' v w' (Post.after' rfl hF hp)
       ·cases hd
      ·cases hd
     ·cases hd
   ·cases hd
  ·cases hd
 ·cases hd
theorem aEa(m:Mem Bw w0 ρ φ h w)(hn:ρ new=none){o:Oper}{a:Act}{t e:TypeId}{ti te:TI}(ht:TIok P t ti)(hk:ti.k = .sl e)(hte:TIok P e te){A:Ty}(hT:te.T=some A)(h0:0<A.size)
  {lo co:Operand} (ho:o.op = .makeSlice t lo co) {β β':Bool} {kl kc:IntKind} {l c:Int} (hl:V (Fr (own φ h) Bw w) ρ (.p β (.int kl) l) (a.eval lo)) (hc:V (Fr (own φ h) Bw w) ρ (.p β' (.int kc) c) (a.eval co))
  (h1:0≤l) (h2:l≤c) (h3:(te.bytes:Int)*c≤281474976710656) (h4:c≤9223372036854775807) :
  Good P o a w (Post Bw w0 ρ φ h w new (.sl new) [(new,some (aCY e te A l.toNat))]):=by
 have key:=I2 (new:=new) m hn ht hk hte hT h0 ho hl hc h1 h2 h3 h4
 unfold aCY
 split
 ·rename_i B
  split
  ·rename_i e2 hk2 hz
   split
   ·rename_i hB
    exact Z4 m hn ht hk hte hT hz hB ho hl hc h1 h2 h3 h4
   ·exact key
  ·exact key
 ·exact key
end
theorem aA0{F:Bool→Addr→Value→Prop}{ρ:Nat→Option Value}{T:Ty}{x:AVal}{v:Value}(h:V F ρ x v):V F ρ (yQ T x) v:=by
 unfold yQ
 split
 ·simp only[V]at h ⊢
  exact⟨rfl,none,0,0,h.symm,⟨rfl,Nat.le_refl _⟩,fun i hi=>absurd hi (by simp)⟩
 ·simp only[V]at h ⊢
  exact⟨rfl,h.symm⟩
 ·exact h
theorem H5{T:Ty}{x:AVal}:dP (yQ T x)=dP x:=by
 unfold yQ
 split <;> simp[dP]
theorem L4{F:Bool→Addr→Value→Prop}{ρ:Nat→Option Value}:∀ {Ts:List Ty} {cs:List AVal} {g:Nat→Value→Prop},VL F ρ cs g→VL F ρ (pC Ts cs) g
 | [],cs,g,h=>by cases cs <;> exact h
 | T::Ts,[],g,h=>h
 | T::Ts,c::cs,g,h=>by
  simp only[pC,VL]at h ⊢
  obtain⟨⟨u,q1,q2⟩,q3⟩:=h
  exact⟨⟨u,q1,aA0 q2⟩,L4 q3⟩
theorem tM:∀ {Ts:List Ty} {cs:List AVal},(pC Ts cs).length=cs.length
 | [],cs=>by cases cs <;> rfl
 | T::Ts,[]=>rfl
 | T::Ts,c::cs=>by simp[pC,tM (Ts:=Ts) (cs:=cs)]
theorem z7:∀ {Ts:List Ty} {cs:List AVal},bN (pC Ts cs)=bN cs
 | [],cs=>by cases cs <;> rfl
 | T::Ts,[]=>rfl
 | T::Ts,c::cs=>by simp[pC,bN,H5,z7 (Ts:=Ts) (cs:=cs)]
theorem aFg{tb:Tab}{t:TypeId}{F:Bool→Addr→Value→Prop}{ρ:Nat→Option Value}{x:AVal}{v:Value}(h:V F ρ x v):V F ρ (I1 tb t x) v:=by
 unfold I1
 split
 ·split
  ·unfold aCm
   split
   ·simp only[V]at h ⊢
    obtain⟨vs,e,hs,hl⟩:=h
    exact⟨vs,e,by rw[tM];exact hs,L4 hl⟩
   ·exact aA0 h
  ·exact h
 ·exact h
theorem aB6{tb:Tab}{t:TypeId}{x:AVal}:dP (I1 tb t x)=dP x:=by
 unfold I1
 split
 ·split
  ·unfold aCm
   split
   ·simp only[dP,z7]
   ·exact H5
  ·rfl
 ·rfl
theorem oS{tb:Tab}{F:Bool→Addr→Value→Prop}{ρ:Nat→Option Value}:∀ {bs:List Bool} {ts:List TypeId} {xs:List AVal} {vs:List Value},VVs F ρ xs vs→VVs F ρ (kZ tb bs ts xs) vs
 | true::bs,t::ts,x::xs,vs,h=>by
  cases vs with
  | nil=>exact h.elim
  | cons v vs=>exact⟨aFg h.1,oS h.2⟩
 | false::bs,t::ts,x::xs,vs,h=>by
  cases vs with
  | nil=>exact h.elim
  | cons v vs=>exact⟨h.1,oS h.2⟩
 | [],ts,xs,vs,h=>by simpa only [kZ]using h
 | b::bs,[],xs,vs,h=>by cases b <;> simpa only [kZ]using h
 | b::bs,t::ts,[],vs,h=>by cases b <;> simpa only [kZ]using h
theorem wJ{tb:Tab}:∀ {bs:List Bool} {ts:List TypeId} {xs:List AVal},bN (kZ tb bs ts xs)=bN xs
 | true::bs,t::ts,x::xs=>by simp only[kZ,bN,aB6,wJ (bs:=bs) (ts:=ts) (xs:=xs)]
 | false::bs,t::ts,x::xs=>by simp only[kZ,bN,wJ (bs:=bs) (ts:=ts) (xs:=xs)]
 | [],ts,xs=>by simp only[kZ]
 | b::bs,[],xs=>by cases b <;> simp only[kZ]
 | b::bs,t::ts,[]=>by cases b <;> simp only[kZ]
def R1(h:Nat→Option Obj)(x:AVal):Option (AVal×mB) :=
 match x with
 | .agg cs=>match u9 h cs with
  | some (ds,u)=>some (.agg ds,u)
  | none=>none
 | x=>lL h x
def rT(h:Nat→Option Obj):List Bool→List AVal→Option (List AVal×mB)
 | _,[]=>some ([],[])
 | [],xs=>some (xs,[])
 | false::bs,x::xs=>match rT h bs xs with
  | some (ys,u)=>some (x::ys,u)
  | none=>none
 | true::bs,x::xs=>match R1 h x with
  | some (y,u)=>match rT (apply u h) bs xs with
   | some (ys,us)=>some (y::ys,u++us)
   | none=>none
  | none=>none
structure Orc where
 r:AVal
 fl:List Bool
 own:Bool
 cn:List Bool
 g:List Nat
 hout:List (Nat×Obj)
 die:Option Value
def aHP:Option Orc→Option Value
 | some q=>q.die
 | none=>none
def L6(P:Program)(f:FuncId)(args:List AVal)(hin:List (Nat×Obj))(q:Orc):Prop :=
 match q.die with
 | none=>Owns P f args hin q.r q.hout
 | some x=>Dies P f args hin x
def gOf:Option Orc→List Nat
 | some q=>q.g
 | none=>[]
def aAU:AVal→AVal
 | .lit (.func (.func f) fs cs)=>if fs.isEmpty && cs.isEmpty then .fn f []else .unk
 | x=>x
def aJW:Option Orc→List Bool
 | some q=>q.cn
 | none=>[]
def E1(P:Program)(new:Nat)(orc:Option Orc)(f:AVal)(xs:List AVal)(h:Nat→Option Obj):Option pX :=
 match f,orc with
 | .fn fid caps,some q=>match rT h q.fl xs with
  | some (ys,u) =>
   if q.own then
    if q.g.all (fun i=>(K7 h (f::xs)).contains i)then
     match x6 q.g (less q.g (apply u h)) (ys++caps),mP q.g (apply u h) 0 q.g with
     | some args,some hin=>if zT q.g q.hout q.r then some (sD (yB q.g new) q.r,u++D6 q.g new q.hout,L6 P fid args hin q)else none
     | _,_=>none
    else none
   else match zQ (apply u h) (ys++caps)with
   | some args=>some (q.r,u,Pure P fid args q.r)
   | none=>none
  | none=>none
 | _,_=>none
def Z6(asm:Option Bool)(c:AVal)(s:Nat→AVal)(x y:Operand):Option pX :=
 match asm,c with
 | some b,.p _ .bool b'=>some (ev s (if b then x else y),[],b'=b)
 | none,.p _ .bool b'=>match b' with
  | true=>some (ev s x,[],True)
  | false=>some (ev s y,[],True)
 | _,_=>none
def aCE(fn:Fn)(first:List Operand)(caps:List AVal):Option pX :=
 match fn,first with
 | .func f,[]=>some (.fn f caps,[],True)
 | _,_=>none
def vG(tb:Tab)(new:Nat)(b:Builtin)(xs:List AVal)(ts:List TypeId)(h:Nat→Option Obj):Option pX :=
 match b,xs,ts with
 | .len,[x],[t]=>if aKH x then y5 tb t x h else aBS tb t x h
 | .min,[x,y],_=>aDn false x y
 | .max,[x,y],_=>aDn true x y
 | .append,[x,y],[t,t']=>if t=t' then qH tb new t x y h else none
 | .copy,[x,y],[t,_]=>xA tb t x y h
 | _,_,_=>none
def uH(P:Program)(tb:Tab)(new:Nat)(orc:Option Orc)(c:Call)(s:Nat→AVal)(h:Nat→Option Obj):Option pX :=
 match c.callee with
 | .builtin b=>vG tb new b (c.args.toList.map (ev s)) c.argTypes.toList h
 | .value f=>E1 P new orc (aAU (ev s f)) (kZ tb (aJW orc) c.argTypes.toList (c.args.toList.map (ev s))) h
 | _=>none
def rV(P:Program)(tb:Tab)(new:Nat)(asm:Option Bool)(orc:Option Orc)(op:Op)(s:Nat→AVal)(h:Nat→Option Obj):Option pX :=
 match op with
 | .move x=>some (ev s x,[],True)
 | .assign x=>some (ev s x,[],True)
 | .pick c x y=>Z6 asm (ev s c) s x y
 | .alloc t=>aBo tb new t
 | .box _ x=>aGd new (ev s x)
 | .build t ps=>aA9 tb t (ps.toList.map (·.1)) (ps.toList.map fun p=>ev s p.2)
 | .buildSlice t len ps=>pR tb new t len (ps.toList.map (·.1)) (ps.toList.map fun p=>ev s p.2) h
 | .load t x=>Z9 tb new t (ev s x) h
 | .store t x y=>sE tb t (ev s x) (ev s y) h
 | .binOp op t x y _=>aFE P tb op t (ev s x) (ev s y)
 | .nilCheck x=>aFH (ev s x)
 | .unOp op _ x=>aHK op (ev s x)
 | .convert st dt x=>aAj tb st dt (ev s x) h
 | .slice t x lo hi none=>sJ tb new t (ev s x) (xO s lo) (xO s hi) h
 | .slice t x lo (some hi) (some mx)=>zI tb t (ev s x) (xO s lo) (ev s hi) (ev s mx) h
 | .fieldAddr t x f=>aA3 tb t (ev s x) f
 | .indexAddr t x i=>match lA tb t (ev s x) (ev s i) h with
  | some r=>some r
  | none=>oB tb t (ev s x) (ev s i) h
 | .index t x i=>aBd tb t (ev s x) (ev s i)
 | .extract x i=>P5 (ev s x) i
 | .typeAssert x _ t ok=>zE P (ev s x) t ok
 | .makeFunc fn first caps=>aCE fn first.toList (caps.toList.map (ev s))
 | .makeSlice t l c=>aDb tb new t (ev s l) (ev s c)
 | .makeMap t none=>match I6 P tb new t with
  | some r=>some r
  | none=>B5 P tb new t
 | .lookup t x k ok=>match qE P tb t (ev s x) (ev s k) ok h with
  | some r=>some r
  | none=>oI P tb t (gOf orc) (ev s x) (ev s k) ok h
 | .mapUpdate t x k y=>match g9 P tb t (ev s x) (ev s k) (ev s y) h with
  | some r=>some r
  | none=>gD P tb t (ev s x) (ev s k) (ev s y) h
 | .insert t x k y=>match g9 P tb t (ev s x) (ev s k) (ev s y) h with
  | some r=>some r
  | none=>gD P tb t (ev s x) (ev s k) (ev s y) h
 | .call c=>uH P tb new orc c s h
 | _=>none
section
variable{P:Program}{tb:Tab}{Bw:Nat→Prop}{w0:Base P}{ρ:Nat→Option Value}{φ:Nat→Nat→Prop}{h:Nat→Option Obj}{w:World}{new:Nat}{n:NS}{s:Nat→AVal}{a:Act}
theorem fH(htb:TabOK P tb){t e:TypeId}{te:TI}{A:Ty}(h:nG tb t=some (e,te,A)):∃ti,TIok P t ti∧tb.find t=some ti∧ti.k = .sl e∧TIok P e te∧te.T=some A∧0<A.size:=by
 unfold nG at h
 split at h
 ·rename_i ti h1
  split at h
  ·rename_i e' h2
   split at h
   ·rename_i te' h3
    split at h
    ·rename_i A' h4
     split at h
     ·rename_i h5
      cases h
      exact⟨ti,htb.find h1,h1,h2,htb.find h3,h4,h5⟩
     ·cases h
    ·cases h
   ·cases h
  ·cases h
 ·cases h
theorem rP(htb:TabOK P tb){t:TypeId}{K A:Ty}{c:Prop}(h:aEX P tb t=some (K,A,c))(hc:c):∃ti kt et te,TIok P t ti∧ti.k = .mp kt et∧KeyOk P kt K∧TIok P et te∧te.T=some A:=by
 unfold aEX at h
 split at h
 ·rename_i ti h1
  split at h
  ·rename_i kt et h2
   split at h
   ·rename_i ki te h3 h4
    split at h
    ·rename_i K' c' A' h5 h6
     cases h
     refine⟨ti,kt,et,te,htb.find h1,h2,?_,htb.find h4,h6⟩
     unfold aHc at h5
     split at h5
     ·rename_i K2 h7
      cases h5
      exact KeyOk.of_kk (htb.find h3) h7
     ·split at h5
      ·split at h5
       ·cases h5
        exact hc
       ·cases h5
      ·cases h5
    ·cases h
   ·cases h
  ·cases h
 ·cases h
theorem rI(htb:TabOK P tb){t:TypeId}{K:Ty}{c:Prop}(h:aED P tb t=some (K,c))(hc:c):∃ti kt et te,TIok P t ti∧ti.k = .mp kt et∧KeyOk P kt K∧TIok P et te:=by
 unfold aED at h
 split at h
 ·rename_i ti h1
  split at h
  ·rename_i kt et h2
   split at h
   ·rename_i ki te h3 h4
    split at h
    ·refine⟨ti,kt,et,te,htb.find h1,h2,?_,htb.find h4⟩
     unfold aHc at h
     split at h
     ·rename_i K2 h7
      cases h
      exact KeyOk.of_kk (htb.find h3) h7
     ·split at h
      ·split at h
       ·cases h
        exact hc
       ·cases h
      ·cases h
    ·cases h
   ·cases h
  ·cases h
 ·cases h
theorem A7{F:Bool→Addr→Value→Prop}{ρ:Nat→Option Value}{x:AVal}{v u:Value}(h:aGr x=some v)(hv:V F ρ x u):u=v:=by
 unfold aGr at h
 split at h
 ·cases h
  simpa only [V]using hv
 ·cases h
  simp only[V]at hv
  obtain⟨vs,e,hs,_⟩:=hv
  have:vs = #[]:=Array.eq_empty_of_size_eq_zero (by simpa using hs)
  subst this
  exact e
 ·cases h
theorem J3{F:Bool→Addr→Value→Prop}{ρ:Nat→Option Value}{x:AVal}{u:Value}(hv:V F ρ x u):V F ρ (aAU x) u:=by
 unfold aAU
 split
 ·rename_i f fs cs
  split
  ·rename_i hc
   simp only[Bool.and_eq_true,Array.isEmpty_iff]at hc
   obtain⟨rfl,rfl⟩:=hc
   simp only[V]at hv ⊢
   exact⟨#[],hv,rfl,by simp only[VL]⟩
  ·trivial
 ·exact hv
theorem aBz{x:AVal}:∀i∈dP (aAU x),i∈dP x:=by
 unfold aAU
 split
 ·split
  ·intro i hi
   simp[dP,bN]at hi
  ·intro i hi
   simp[dP]at hi
 ·exact fun i hi=>hi
theorem jM{F:Bool→Addr→Value→Prop}{ρ:Nat→Option Value}{K:Ty}{x:AVal}{k:K.den}{v:Value}(h:y7 K x=some k)(hK:K.isKey=true)(hv:V F ρ x v):v=bA K k:=by
 unfold y7 at h
 split at h
 ·rename_i β K2 i
  split at h
  ·rename_i q
   subst q
   split at h
   ·rename_i hs
    cases h
    exact aF7 hK hs hv
   ·cases h
  ·cases h
 ·rename_i cs
  split at h
  ·rename_i hs
   split at h
   ·rename_i k' r hu
    cases h
    simp only[V]at hv
    obtain⟨vs,rfl,hsz,hvl⟩:=hv
    obtain⟨h1,h2,h3⟩:=fA hu hvl
    rw[oE hK hs.1]
    congr 1
    refine Array.ext_getElem? fun i=> ?_
    rw[List.getElem?_toArray,←Array.getElem?_toList]
    rcases Nat.lt_or_ge i K.size with hi | hi
    ·have:=mZ (l:=vs.toList) (o:=0) hK (Vcells.mono (fun _ _ h=>h) (fun j u hj=>by rw[Nat.zero_add,Array.getElem?_toList];exact hj) h1) i hi
     rw[Nat.zero_add]at this
     exact this
    ·rw[List.getElem?_eq_none (by rw[Array.length_toList,hsz,hs.2];exact hi)]
     rw[List.getElem?_eq_none (by rw[dS hK];exact hi)]
   ·cases h
  ·cases h
 ·cases h
theorem vT{F:Bool→Addr→Value→Prop}(hs:Slots n F ρ s a){lo:Option Operand}{l:Option Int}(h:xO s lo=some l):yM F ρ a lo l:=by
 unfold xO at h
 cases lo with
 | none=>cases h;trivial
 | some x =>
  simp only at h
  split at h
  ·rename_i β k m e
   cases h
   have:=bT hs x
   rw[e]at this
   exact⟨_,_,this⟩
  ·cases h
theorem A5{F:Bool→Addr→Value→Prop}{x:AVal}{n:Int}(h:aDc x=some n){v:Value}(hv:V F ρ x v):∃β k,V F ρ (.p β (.int k) n) v:=by
 unfold aDc at h
 split at h
 ·cases h;exact⟨_,_,hv⟩
 ·cases h
theorem aBW(m:Mem Bw w0 ρ φ h w){x y:AVal}{u:mB}(hd:R1 h x=some (y,u)):
  Mem Bw w0 ρ φ (apply u h) w∧(∀β a v,Fr (own φ h) Bw w β a v→Fr (own φ (apply u h)) Bw w β a v)∧∀v,V (Fr (own φ h) Bw w) ρ x v→V (Fr (own φ (apply u h)) Bw w) ρ y v:=by
 unfold R1 at hd
 split at hd
 ·split at hd
  ·rename_i ds u' h1
   cases hd
   obtain⟨q1,q2,q3,q4⟩:=sO m h1
   refine⟨q1,q2,fun v hv=> ?_⟩
   simp only[V]at hv ⊢
   obtain⟨vs,e,hs,hl⟩:=hv
   exact⟨vs,e,by rw[q3];exact hs,q4 _ hl⟩
  ·cases hd
 ·exact nU m hd
theorem rD:∀ {bs:List Bool} {xs ys:List AVal} {h:Nat→Option Obj} {u:mB},Mem Bw w0 ρ φ h w→rT h bs xs=some (ys,u) →
  Mem Bw w0 ρ φ (apply u h) w∧(∀β a v,Fr (own φ h) Bw w β a v→Fr (own φ (apply u h)) Bw w β a v)∧∀vs,VVs (Fr (own φ h) Bw w) ρ xs vs→VVs (Fr (own φ (apply u h)) Bw w) ρ ys vs
 | _,[],ys,h,u,m,hd=>by
  simp only[rT]at hd
  cases hd
  exact⟨m,fun _ _ _ h=>h,fun _ h=>h⟩
 | [],x::xs,ys,h,u,m,hd=>by
  simp only[rT]at hd
  cases hd
  exact⟨m,fun _ _ _ h=>h,fun _ h=>h⟩
 | false::bs,x::xs,ys,h,u,m,hd=>by
  simp only[rT]at hd
  split at hd
  ·rename_i ys' u' h1
   cases hd
   obtain⟨q1,q2,q3⟩:=rD m h1
   refine⟨q1,q2,fun vs hv=> ?_⟩
   cases vs with
   | nil=>exact hv.elim
   | cons v vs=>exact⟨V.mono q2 (fun _ _ h=>h) hv.1,q3 vs hv.2⟩
  ·cases hd
 | true::bs,x::xs,ys,h,u,m,hd=>by
  simp only[rT]at hd
  split at hd
  ·rename_i y u1 h1
   split at hd
   ·rename_i ys' us h2
    cases hd
    obtain⟨q1,q2,q3⟩:=aBW m h1
    obtain⟨r1,r2,r3⟩:=rD q1 h2
    rw[jW]
    refine⟨r1,fun β a v hh=>r2 _ _ _ (q2 _ _ _ hh),fun vs hv=> ?_⟩
    cases vs with
    | nil=>exact hv.elim
    | cons v vs=>exact⟨V.mono r2 (fun _ _ h=>h) (q3 v hv.1),r3 vs (VVs.mono q2 (fun _ _ h=>h) hv.2)⟩
   ·cases hd
  ·cases hd
theorem J8{us:mB}{i:Nat}(hu:us.all (fun p=>p.1 != i)=true):∀ {h:Nat→Option Obj},apply us h i=h i:=by
 induction us with
 | nil=>intro h;rfl
 | cons p us ih =>
  intro h
  obtain⟨j,o⟩:=p
  simp only[List.all_cons,Bool.and_eq_true,bne_iff_ne,ne_eq]at hu
  simp only[apply]
  rw[ih hu.2,bM _ _ (Ne.symm hu.1)]
theorem nI{F:Bool→Addr→Value→Prop}{x:AVal}{b:Bool}(h:V9 x=some b){u:Value}(hu:V F ρ x u):∃q,u = .pointer q∧q.isNone=b:=by
 cases x <;> simp only[V9]at h <;> first | (cases h;done) | skip
 ·cases h
  simp only[V]at hu
  exact⟨none,hu,rfl⟩
 ·cases h
  simp only[V]at hu
  obtain⟨g,_,e⟩:=hu
  exact⟨_,e,rfl⟩
 ·cases h
  simp only[V]at hu
  obtain⟨ad,e,_⟩:=hu
  exact⟨_,e,rfl⟩
theorem aAm(d:Nat){t e:TypeId}(h:P.underlying t=some (.pointer e))(q:Option Addr):(Op.equalIn (d+1) t (.pointer none) (.pointer q)).run P w = .ok q.isNone w:=by
 simp[Op.equalIn,run_underlying h]
theorem Q7(d:Nat){t e:TypeId}(h:P.underlying t=some (.pointer e))(a:Addr):(Op.equalIn (d+1) t (.pointer (some a)) (.pointer none)).run P w = .ok false w:=by
 simp[Op.equalIn,run_underlying h]
theorem X8(d:Nat){t:TypeId}{ms:Array (String×TypeId)}(h:P.underlying t=some (.interface ms))(a:TypeId)(v:Value):(Op.equalIn (d+1) t (.iface a v) .nilIface).run P w = .ok false w:=by
 simp[Op.equalIn,run_underlying h]
theorem X2{F:Bool→Addr→Value→Prop}{op:BinOp}{b:Bool}{r:AVal}(h:eqR op b=some r){t:TypeId}{u v:Value}{xo yo:Operand}(hg:(eqGuard op t xo yo u v).run P w = .ok () w)
  (he:(Op.equal t u v).run P w = .ok b w) (hne:binOp .eql t u v=(do pure (.bool (←Op.equal t u v)))∧binOp .neq t u v=(do pure (.bool (!(←Op.equal t u v))))) :
  ∃z,(do eqGuard op t xo yo u v;binOp op t u v:Sem Value).run P w = .ok z w∧V F ρ r z:=by
 unfold eqR at h
 split at h <;> cases h
 ·exact⟨_,by rw[Sem.run_bind,hg,Result.andThen_ok,hne.1,Sem.run_bind,he];rfl,nO _ _⟩
 ·exact⟨_,by rw[Sem.run_bind,hg,Result.andThen_ok,hne.2,Sem.run_bind,he];rfl,nO _ _⟩
theorem aAH{F:Bool→Addr→Value→Prop}{ti:TI}{op:BinOp}{t:TypeId}{x y r:AVal}{us:mB}{c:Prop}(h:aGs P ti op t x y=some (r,us,c))(hc:c){u v:Value}(hu:V F ρ x u)(hv:V F ρ y v)(xo yo:Operand):
  us=[]∧∃z,(do eqGuard op t xo yo u v;binOp op t u v:Sem Value).run P w = .ok z w∧V F ρ r z:=by
 have ptr:∀ {b:Bool} {q q':Option Addr},u = .pointer q→v = .pointer q'→(∃e,P.underlying t=some (.pointer e))→(q.isNone=true∧q'.isNone=b∨q.isNone=false∧q'.isNone=true∧b=false)→eqR op b=some r →
   ∃z,(do eqGuard op t xo yo u v;binOp op t u v:Sem Value).run P w = .ok z w∧V F ρ r z:=fun {b q q'} e1 e2 hE hq hr=>by
  subst e1 e2
  obtain⟨e,hE⟩:=hE
  refine X2 hr (eQ (by intro cs e;cases e) (by intro e;cases e)) ?_ ⟨by cases q <;> cases q' <;> rfl,by cases q <;> cases q' <;> rfl⟩
  unfold Op.equal Op.maxDepth
  cases q with
  | none =>
   rcases hq with⟨_,q2⟩ | ⟨q1,_⟩
   ·subst q2
    exact aAm 9999 hE q'
   ·cases q1
  | some a =>
   rcases hq with⟨q1,_⟩ | ⟨_,q2,q3⟩
   ·cases q1
   ·cases q' with
    | none=>subst q3;exact Q7 9999 hE a
    | some _=>cases q2
 unfold aGs at h
 split at h
 ·rename_i cs ds
  split at h
  ·rename_i T hT
   split at h
   ·rename_i a b ha hb
    split at h
    ·rename_i r' hr
     cases h
     refine⟨rfl,?_⟩
     simp only[V]at hu hv
     obtain⟨xs,rfl,sx,lx⟩:=hu
     obtain⟨ys,rfl,sy,ly⟩:=hv
     obtain⟨a1,a2,a3⟩:=fA ha lx
     obtain⟨b1,b2,b3⟩:=fA hb ly
     have hl:∀l:List AVal,([]:List AVal)=l.drop T.size→T.size≤l.length→l.length=T.size:=fun l h1 h2=>by
      have:=congrArg List.length h1
      simp only[List.length_nil,List.length_drop]at this
      omega
     have hE:=hc.2 w
     have hsc:T.scalar=false:=hc.1.2
     refine X2 hr (run_eqGuard_agg w op t xo yo xs ys hc.1.1) ?_ ⟨rfl,rfl⟩
     refine hE.2.2 (F false) a b _ _ ?_ ?_
     ·unfold aCK;rw[hsc];simp only[Bool.false_eq_true,if_false];exact⟨xs,rfl,by rw[sx,hl cs a2 a3],a1⟩
     ·unfold aCK;rw[hsc];simp only[Bool.false_eq_true,if_false];exact⟨ys,rfl,by rw[sy,hl ds b2 b3],b1⟩
    ·cases h
   ·cases h
  ·cases h
 ·rename_i A q
  split at h
  ·rename_i r' hr
   cases h
   simp only[V]at hu hv
   cases q with
   | none =>
    have e:u = .pointer none:=hu.2.symm
    exact⟨rfl,ptr e hv hc (.inl ⟨rfl,rfl⟩) hr⟩
   | some y =>
    obtain⟨_,b,e,_⟩:=hu
    exact⟨rfl,ptr e.symm hv hc (.inr ⟨rfl,rfl,rfl⟩) hr⟩
  ·cases h
 ·split at h
  ·rename_i b h1 h2
   split at h
   ·rename_i r' hr
    cases h
    obtain⟨q,e1,e2⟩:=nI h1 hu
    obtain⟨q',e3,e4⟩:=nI h2 hv
    exact⟨rfl,ptr e1 e3 hc (.inl ⟨e2,e4⟩) hr⟩
   ·cases h
  ·rename_i h1 h2
   split at h
   ·rename_i r' hr
    cases h
    obtain⟨q,e1,e2⟩:=nI h1 hu
    obtain⟨q',e3,e4⟩:=nI h2 hv
    exact⟨rfl,ptr e1 e3 hc (.inr ⟨e2,e4,rfl⟩) hr⟩
   ·cases h
  ·split at h
   ·split at h
    ·rename_i r' hr
     cases h
     simp only[V]at hu hv
     subst hu hv
     obtain⟨ms,hms⟩:=hc
     refine⟨rfl,X2 hr (eQ (by intro cs e;cases e) (by intro e;cases e)) ?_ ⟨rfl,rfl⟩⟩
     unfold Op.equal Op.maxDepth
     exact X8 9999 hms _ _
    ·cases h
   ·cases h
theorem aAM(m:Mem Bw w0 ρ φ h w){o:Oper}{xo:Operand}{xt at':TypeId}{ok:Bool}(ho:o.op = .typeAssert xo xt at' ok){x:AVal}(hx:V (Fr (own φ h) Bw w) ρ x (a.eval xo)){y:AVal}{u:mB}{c:Prop}
  (hd:zE P x at' ok=some (y,u,c)) (hc:c):Good P o a w (Post Bw w0 ρ φ h w new y u):=by
 unfold zE at hd
 split at hd
 ·rename_i t v
  split at hd
  ·rename_i q
   obtain⟨rfl,rfl⟩:=q
   cases hd
   obtain⟨d,hd,hi⟩:=hc
   simp only[V]at hx
   refine Good.of_run (v:= .tuple #[v,.bool true]) (w':=w) ?_ (Post.pure m ?_)
   ·simp only[execOp,ho,hx]
    simp only[Instr.typeAssert,Sem.run_bind,run_underlying hd,Result.andThen_ok]
    cases d <;> first | (simp at hi;done) | (simp;done)
   ·simp only[V,VL]
    exact⟨_,rfl,rfl,⟨v,by simp,aBA v⟩,⟨.bool true,by simp,by simp only[V,Vcells];exact⟨rfl,trivial⟩⟩,trivial⟩
  ·cases hd
 ·cases hd
theorem aER(htb:TabOK P tb)(m:Mem Bw w0 ρ φ h w)(hs:Slots n (Fr (own φ h) Bw w) ρ s a)(hn8:∀j,j<8→ρ (new+j)=none){o:Oper}{asm:Option Bool}{orc:Option Orc}(hdie:aHP orc=none){x:AVal}{u:mB}{c:Prop}
  (hd:rV P tb new asm orc o.op s h=some (x,u,c)) (hc:c):Good P o a w (Post Bw w0 ρ φ h w new x u):=by
 have hn:ρ new=none:=hn8 0 (by omega)
 unfold rV at hd
 split at hd
 ·rename_i x' ho;cases hd;exact R5 m (bT hs _) (.inl ho)
 ·rename_i x' ho;cases hd;exact R5 m (bT hs _) (.inr ho)
 ·rename_i co xo yo ho
  unfold Z6 at hd
  split at hd
  ·rename_i b β b' e
   cases hd
   subst hc
   have:=bT hs co
   rw[e]at this
   exact yH m this (bT hs _) ho
  ·rename_i β b' e
   have:=bT hs co
   rw[e]at this
   split at hd
   ·cases hd
    exact yH (b:=true) m this (bT hs _) ho
   ·cases hd
    exact yH (b:=false) m this (bT hs _) ho
  ·cases hd
 ·rename_i t ho
  unfold aBo at hd
  split at hd
  ·rename_i ti ht
   cases hd
   exact aCi m hn (htb.find ht) ho
  ·cases hd
 ·rename_i t xo ho
  unfold aGd at hd
  split at hd
  ·rename_i hcell
   cases hd
   exact aGv m hn (bT hs xo) hcell ho _
  ·cases hd
 ·rename_i t ps ho
  unfold aA9 at hd
  split at hd
  ·rename_i ti ht
   split at hd
   ·rename_i fs hk
    split at hd
    ·rename_i ds hds
     cases hd
     have:=sX hs (ps.toList.map (·.2))
     simp only[List.map_map]at this
     exact aCs m htb (htb.find ht) hk ho this hds
    ·cases hd
   ·rename_i n e hk
    split at hd
    ·rename_i te hte
     split at hd
     ·rename_i ds hds
      cases hd
      have:=sX hs (ps.toList.map (·.2))
      simp only[List.map_map]at this
      exact aAs m htb (htb.find ht) hk (htb.find hte) ho this hds
     ·cases hd
    ·cases hd
   ·cases hd
  ·cases hd
 ·rename_i t len ps ho
  unfold pR at hd
  split at hd
  ·rename_i e te A het
   obtain⟨ti,h1,_,h2,h3,h4,h5⟩:=fH htb het
   split at hd
   ·rename_i hcond
    split at hd
    ·rename_i ys us hys
     cases hd
     have:=sX hs (ps.toList.map (·.2))
     simp only[List.map_map]at this
     exact C7 m hn h1 h2 h3 h4 h5 ho hcond.1 this (fun x hx=>(List.all_eq_true.1 hcond.2.1) x hx) hys hcond.2.2
    ·cases hd
   ·cases hd
  ·cases hd
 ·rename_i t xo ho
  unfold Z9 at hd
  split at hd
  ·rename_i ti ht
   split at hd
   ·rename_i cs off c' hcs
    split at hd
    ·rename_i y hy
     cases hd
     exact aEc m (htb.find ht) (bT hs xo) ho hcs hc hy
    ·cases hd
   ·split at hd
    ·rename_i r0 hd0
     cases hd
     exact aFn m (htb.find ht) (bT hs xo) ho hd0
    ·exact aDU m hn (htb.find ht) (bT hs xo) ho hd hc
  ·cases hd
 ·rename_i t xo yo ho
  unfold sE at hd
  split at hd
  ·rename_i ti ht
   split at hd
   ·rename_i hcond
    split at hd
    ·rename_i id i sz off ex
     have hx:=bT hs xo
     rw[ex]at hx
     split at hd
     ·rename_i cs hi
      split at hd
      ·rename_i hfit
       cases hd
       exact J9 m (htb.find ht) hx (bT hs yo) hcond.1 ho hi hcond.2 hfit
      ·cases hd
     ·rename_i e A xs hi
      split at hd
      ·rename_i hsz
       split at hd
       ·rename_i z us hz
        split at hd
        ·rename_i hus
         cases hd
         rw[hsz.1]at hx
         exact F0 m (htb.find ht) hx (bT hs yo) hcond.1 ho hz hi (by rw[J8 hus];exact hi) hcond.2 hsz.2 hc
        ·cases hd
       ·cases hd
      ·cases hd
     ·rename_i e e2 A xss hole hi
      split at hd
      ·rename_i hsz
       obtain⟨rfl,rfl⟩:=hsz
       exact aFt m (htb.find ht) hx (bT hs yo) hcond.2 ho hi hd hc
      ·cases hd
     ·cases hd
    ·exact aFQ m (htb.find ht) (bT hs xo) (bT hs yo) ho hd
   ·cases hd
  ·cases hd
 ·rename_i op t xo yo t' ho
  unfold aFE at hd
  split at hd
  ·rename_i ti ht
   split at hd
   ·rename_i r c' hr
    cases hd
    obtain⟨z,h1,h2⟩:=aDD (P:=P) (w:=w) (htb.find ht) hr hc (bT hs xo) (bT hs yo) xo yo
    exact Good.of_run (v:=z) (w':=w) (by simp only[execOp,ho];rw[Sem.run_bind,h1];rfl) (Post.pure m h2)
   ·obtain⟨hu,z,h1,h2⟩:=aAH (P:=P) (w:=w) hd hc (bT hs xo) (bT hs yo) xo yo
    subst hu
    exact Good.of_run (v:=z) (w':=w) (by simp only[execOp,ho];rw[Sem.run_bind,h1];rfl) (Post.pure m h2)
  ·cases hd
 ·rename_i xo ho
  have hx:=bT hs xo
  unfold aFH at hd
  split at hd
  ·rename_i id i sz off ex
   cases hd
   rw[ex]at hx
   obtain⟨g,h1,h2⟩:∃g,_∧a.eval xo = .pointer (some ⟨g,i*sz+off,none⟩):=by simpa only [V]using hx
   exact Good.of_run (v:=a.eval xo) (w':=w) (by simp only[execOp,ho,h2];rfl) (Post.pure m hx)
  ·rename_i β cs off ex
   cases hd
   rw[ex]at hx
   obtain⟨ad,h1,h2⟩:∃ad:Addr,a.eval xo = .pointer (some (ad.add off))∧_:=by simpa only [V]using hx
   exact Good.of_run (v:=a.eval xo) (w':=w) (by simp only[execOp,ho,h1];rfl) (Post.pure m hx)
  ·rename_i β A q ex
   cases hd
   rw[ex]at hx
   cases q with
   | none=>cases hc
   | some y =>
    obtain⟨_,b,e,hv⟩:_∧∃b:Addr,Value.pointer (some b)=a.eval xo∧Vcells (Fr (own φ h) Bw w β) A y (fun k v=>Fr (own φ h) Bw w β (b.add k) v):=by simpa only [V,Vcells]using hx
    refine Good.of_run (v:=a.eval xo) (w':=w) (by simp only[execOp,ho,←e];rfl) (Post.pure m ?_)
    simp only[V,Option.getD_some]
    exact⟨b,by rw[←e];unfold Addr.add;simp,nQ β A y _ hv⟩
  ·cases hd
 ·rename_i op t xo ho
  unfold aHK at hd
  split at hd
  ·rename_i r hr
   cases hd
   obtain⟨z,h1,h2⟩:=aE0 (P:=P) (w:=w) hr (bT hs xo)
   exact Good.of_run (v:=z) (w':=w) (by simp only[execOp,ho];rw[Sem.run_bind,h1];rfl) (Post.pure m h2)
  ·cases hd
 ·rename_i st dt xo ho
  unfold aAj at hd
  split at hd
  ·rename_i si hsi
   split at hd
   ·rename_i di hdi
    split at hd
    ·rename_i r hr
     cases hd
     obtain⟨dd,hd1,hd2⟩:=(htb.find hdi).hu
     unfold aE4 at hr
     split at hr
     ·rename_i β l ex
      have hx:=bT hs xo
      rw[ex]at hx
      split at hr
      ·rename_i e hk
       split at hr
       ·rename_i hu8
        cases hr
        rw[hk]at hd2
        simp only[UK]at hd2
        subst hd2
        simp only[aGy]at hu8
        split at hu8
        ·rename_i te hte
         obtain⟨d,q1,q2⟩:=(htb.find hte).hu
         split at hu8
         ·rename_i hk2
          rw[hk2]at q2
          simp only[UK]at q2
          exact aBQ m (htb.find hsi) hd1 (by rw[q1,q2]) ho hx
         ·cases hu8
        ·cases hu8
       ·cases hr
      ·cases hr
     ·rename_i β k n ex
      have hx:=bT hs xo
      rw[ex]at hx
      split at hr
      ·rename_i hk
       cases hr
       rw[hk]at hd2
       simp only[UK]at hd2
       subst hd2
       exact aDQ m (htb.find hsi) hd1 ho hx
      ·cases hr
     ·cases hr
    split at hd
    ·rename_i hu8
     split at hd
     ·rename_i r hr
      cases hd
      obtain⟨z,h1,h2⟩:=aCa (P:=P) m (htb.find hsi) (htb.find hdi) (fun e he=>by
       rw[he]at hu8
       simp only[aGy]at hu8
       split at hu8
       ·rename_i te hte
        obtain⟨d,q1,q2⟩:=(htb.find hte).hu
        split at hu8
        ·rename_i hk
         rw[hk]at q2
         simp only[UK]at q2
         rw[q1,q2]
        ·cases hu8
       ·cases hu8) hr (bT hs xo)
      exact Good.of_run (v:=z) (w':=w) (by simp only[execOp,ho];rw[Sem.run_bind,h1];rfl) (Post.pure m h2)
     ·cases hd
    ·cases hd
   ·cases hd
  ·cases hd
 ·rename_i t xo lo hi ho
  unfold sJ at hd
  split at hd
  ·rename_i ti ht
   split at hd
   ·rename_i l r hl hr
    have hl':=vT hs hl
    have hr':=vT hs hr
    have hx:=bT hs xo
    split at hd
    ·rename_i β str ex
     rw[ex]at hx
     split at hd
     ·rename_i hk
      cases hd
      exact J7 m (htb.find ht) hk ho hx hl' hr' hc.1 hc.2.1 hc.2.2
     ·cases hd
    ·rename_i β A xs ex
     rw[ex]at hx
     split at hd
     ·rename_i _ _ B het
      obtain⟨ti',h1,h1',h2,h3,h4,h5⟩:=fH htb het
      split at hd
      ·rename_i hAB
       subst hAB
       cases hd
       exact rX m h1 h2 h3 h4 ho hx hl' hr' hc.1 hc.2.1 hc.2.2
      ·cases hd
     ·cases hd
    ·rename_i id ex
     rw[ex]at hx
     split at hd
     ·rename_i e A xs hid
      split at hd
      ·rename_i _ _ _ het
       obtain⟨ti',h1,h1',h2,h3,h4,h5⟩:=fH htb het
       split at hd
       ·rename_i k
        cases hd
        cases lo with
        | some _=>exact hl'.elim
        | none =>
         cases hi with
         | none=>exact hr'.elim
         | some hio =>
          obtain⟨β,kk,hv⟩:=hr'
          exact K8 m hn h1 h2 h3 (A:=A) ho hid hx hv hc.1 hc.2
       ·cases hd
      ·cases hd
     ·rename_i A xs hid
      split at hd
      ·rename_i _ _ B het
       obtain⟨ti',h1,h1',h2,h3,h4,h5⟩:=fH htb het
       split at hd
       ·rename_i hAB
        subst hAB
        cases hd
        obtain⟨u,q1,q2⟩:=m.ob id _ hid
        simp only[V]at hx
        rw[hx.1]at q1
        cases q1
        exact rX m h1 h2 h3 h4 ho q2 hl' hr' hc.1 hc.2.1 hc.2.2
       ·cases hd
      ·cases hd
     ·cases hd
    ·rename_i ex
     rw[ex]at hx
     split at hd
     ·rename_i _ _ A het
      obtain⟨ti',h1,h1',h2,h3,h4,h5⟩:=fH htb het
      cases hd
      exact G0 m h1 h2 h3 ho hx hl' hr' hc.1 hc.2.1 hc.2.2
     ·cases hd
    ·cases hd
   ·cases hd
  ·cases hd
 ·rename_i t xo lo hi mx ho
  unfold zI at hd
  split at hd
  ·rename_i _ _ B l r q het hl hr hq
   obtain⟨ti',h1,h1',h2,h3,h4,h5⟩:=fH htb het
   have hl':=vT hs hl
   obtain⟨β1,k1,hr'⟩:=A5 hr (bT hs hi)
   obtain⟨β2,k2,hq'⟩:=A5 hq (bT hs mx)
   have hx:=bT hs xo
   split at hd
   ·rename_i β A xs ex
    rw[ex]at hx
    split at hd
    ·rename_i hAB
     subst hAB
     cases hd
     exact z0 m h1 h2 h3 h4 ho hx hl' hr' hq' hc.1 hc.2.1 hc.2.2.1 hc.2.2.2
    ·cases hd
   ·rename_i id ex
    rw[ex]at hx
    split at hd
    ·rename_i A xs hid
     split at hd
     ·rename_i hAB
      subst hAB
      cases hd
      obtain⟨u,q1,q2⟩:=m.ob id _ hid
      simp only[V]at hx
      rw[hx.1]at q1
      cases q1
      exact z0 m h1 h2 h3 h4 ho q2 hl' hr' hq' hc.1 hc.2.1 hc.2.2.1 hc.2.2.2
     ·cases hd
    ·cases hd
   ·cases hd
  ·cases hd
 ·rename_i t xo f ho
  unfold aA3 at hd
  split at hd
  ·rename_i ti ht
   split at hd
   ·rename_i fs hk
    split at hd
    ·rename_i off ft hf
     split at hd
     ·rename_i id i sz k ex
      cases hd
      exact tG m (htb.find ht) (bT hs xo) ho hk hf (.inl ⟨_,_,_,_,ex,rfl⟩)
     ·rename_i β cs k ex
      cases hd
      exact tG m (htb.find ht) (bT hs xo) ho hk hf (.inr ⟨_,_,_,ex,rfl⟩)
     ·cases hd
    ·cases hd
   ·cases hd
  ·cases hd
 ·rename_i t xo io ho
  split at hd
  case h_2=>exact aDH m htb (bT hs xo) (bT hs io) ho hd hc
  rename_i r0 hd0
  cases hd
  revert hd0
  intro hd
  unfold lA at hd
  split at hd
  ·rename_i e te A het
   obtain⟨ti',h1,h1',h2,h3,h4,h5⟩:=fH htb het
   split at hd
   ·rename_i β k i ei
    split at hd
    ·rename_i y sz c' hy
     split at hd
     ·rename_i hsz
      subst hsz
      cases hd
      have hi:=bT hs io
      rw[ei]at hi
      exact K5 m h1 h2 h3 (bT hs xo) hi ho hy hc
     ·cases hd
    ·cases hd
   ·cases hd
  ·cases hd
 ·rename_i t xo io ho
  unfold aBd at hd
  split at hd
  ·rename_i ti ht
   split at hd
   ·rename_i hk
    split at hd
    ·rename_i β str β' k i ex ei
     cases hd
     have hx:=bT hs xo
     have hi:=bT hs io
     rw[ex]at hx
     rw[ei]at hi
     exact N0 m (htb.find ht) hk hx hi ho hc.1 hc.2
    ·cases hd
   ·rename_i n e hk
    split at hd
    ·rename_i te hte
     split at hd
     ·rename_i k hek
      split at hd
      ·rename_i cs β k' j ex ei
       split at hd
       ·rename_i hn
        split at hd
        ·rename_i l hl
         cases hd
         have hx:=bT hs xo
         have hi:=bT hs io
         rw[ex]at hx
         rw[ei]at hi
         exact Q5 m (htb.find ht) hk (htb.find hte) hek hx hl hn hi ho hc
        ·cases hd
       ·cases hd
      ·cases hd
     ·cases hd
    ·cases hd
   ·cases hd
  ·cases hd
 ·rename_i xo i ho
  unfold P5 at hd
  split at hd
  ·rename_i cs ex
   split at hd
   ·rename_i y hy
    cases hd
    have hx:=bT hs xo
    rw[ex]at hx
    exact aAe m hx ho hy
   ·cases hd
  ·cases hd
 ·rename_i xo xt t ok ho
  exact aAM m ho (bT hs xo) hd hc
 ·rename_i fn first caps ho
  unfold aCE at hd
  split at hd
  ·rename_i f e
   cases hd
   have e':first = #[]:=Array.ext' e
   subst e'
   exact Q9 m ho (sX hs _)
  ·cases hd
 ·rename_i t lo co ho
  unfold aDb at hd
  split at hd
  ·rename_i e te A het
   obtain⟨ti',h1,h1',h2,h3,h4,h5⟩:=fH htb het
   split at hd
   ·rename_i β k l β' k' c' el ec
    cases hd
    have hl:=bT hs lo
    have hcc:=bT hs co
    rw[el]at hl
    rw[ec]at hcc
    exact aEa m hn h1 h2 h3 h4 h5 ho hl hcc hc.1 hc.2.1 hc.2.2.1 hc.2.2.2
   ·cases hd
  ·cases hd
 ·rename_i t ho
  split at hd
  ·rename_i r hs0
   cases hd
   have hd:=hs0
   unfold I6 at hd
   split at hd
   ·rename_i K A c' hm
    cases hd
    obtain⟨ti,kt,et,te,h1,h2,h3,h5,h6⟩:=rP htb hm hc
    exact W9 m hn h3.isKey ho
   ·cases hd
  ·unfold B5 at hd
   split at hd
   ·rename_i K c' hm
    cases hd
    obtain⟨ti,kt,et,te,h1,h2,h3,h5⟩:=rI htb hm hc
    exact Q3 m hn h3.isKey ho
   ·cases hd
 ·rename_i t xo ko ok ho
  split at hd
  ·rename_i r hs0
   cases hd
   have hd:=hs0
   unfold qE at hd
   split at hd
   ·rename_i K A c' hm
    split at hd
    ·rename_i id ex
     split at hd
     ·rename_i K1 A1 kv hi
      split at hd
      ·rename_i i hk1
       split at hd
       ·rename_i q
        obtain⟨rfl,rfl⟩:=q
        cases hd
        obtain⟨ti,kt,et,te,h1,h2,h3,h5,h6⟩:=rP htb hm hc
        have hx:=bT hs xo
        have hk:=bT hs ko
        rw[ex]at hx
        exact aBf m h1 h2 h3 h5 h6 ho hi hx (jM hk1 h3.isKey hk)
       ·cases hd
      ·cases hd
     ·cases hd
    ·cases hd
   ·cases hd
  ·unfold oI at hd
   split at hd
   ·rename_i K c' hm
    split at hd
    ·rename_i id ex
     split at hd
     ·rename_i K1 kv hi
      split at hd
      ·rename_i i j hk1 _
       split at hd
       ·rename_i q
        obtain⟨rfl,rfl⟩:=q
        cases hd
        obtain⟨ti,kt,et,te,h1,h2,h3,h5⟩:=rI htb hm hc.1
        have hx:=bT hs xo
        have hk:=bT hs ko
        rw[ex]at hx
        rw[←O6 hc.2]
        exact W0 m h1 h2 h3 h5 ho hi hx (jM hk1 h3.isKey hk)
       ·cases hd
      ·cases hd
     ·cases hd
    ·cases hd
   ·cases hd
 ·rename_i t xo ko yo ho
  split at hd
  ·rename_i r hs0
   cases hd
   have hd:=hs0
   unfold g9 at hd
   split at hd
   ·rename_i K A c' hm
    split at hd
    ·rename_i id ex
     split at hd
     ·rename_i K1 A1 kv hi
      split at hd
      ·rename_i i hk1
       split at hd
       ·rename_i q
        obtain⟨rfl,rfl,hc1,hc2⟩:=q
        split at hd
        ·rename_i z us hz
         split at hd
         ·rename_i hus
          cases hd
          obtain⟨ti,kt,et,te,h1,h2,h3,h5,h6⟩:=rP htb hm hc
          have hx:=bT hs xo
          have hk:=bT hs ko
          rw[ex]at hx
          exact tC m h1 h2 h3 (.inl ho) hi (by rw[J8 hus];exact hi) hx (jM hk1 h3.isKey hk) (bT hs yo) hc1 hc2 hz
         ·cases hd
        ·cases hd
       ·cases hd
      ·cases hd
     ·cases hd
    ·cases hd
   ·cases hd
  ·unfold gD at hd
   split at hd
   ·rename_i K c' hm
    split at hd
    ·rename_i id ex
     split at hd
     ·rename_i K1 kv hi
      split at hd
      ·rename_i i v hk1 hv1
       split at hd
       ·rename_i q
        obtain⟨rfl,q2⟩:=q
        cases hd
        obtain⟨ti,kt,et,te,h1,h2,h3,h5⟩:=rI htb hm hc
        have hx:=bT hs xo
        have hk:=bT hs ko
        rw[ex]at hx
        refine rW m h1 h2 h3 (.inl ho) hi hx (jM hk1 h3.isKey hk) (A7 hv1 (bT hs yo)) (fun p hp e=> ?_)
        have:=List.all_eq_true.1 q2 p hp
        rw[(cL h3.isKey).2 e]at this
        cases this
       ·cases hd
      ·cases hd
     ·cases hd
    ·cases hd
   ·cases hd
 ·rename_i t xo ko yo ho
  split at hd
  ·rename_i r hs0
   cases hd
   have hd:=hs0
   unfold g9 at hd
   split at hd
   ·rename_i K A c' hm
    split at hd
    ·rename_i id ex
     split at hd
     ·rename_i K1 A1 kv hi
      split at hd
      ·rename_i i hk1
       split at hd
       ·rename_i q
        obtain⟨rfl,rfl,hc1,hc2⟩:=q
        split at hd
        ·rename_i z us hz
         split at hd
         ·rename_i hus
          cases hd
          obtain⟨ti,kt,et,te,h1,h2,h3,h5,h6⟩:=rP htb hm hc
          have hx:=bT hs xo
          have hk:=bT hs ko
          rw[ex]at hx
          exact tC m h1 h2 h3 (.inr ho) hi (by rw[J8 hus];exact hi) hx (jM hk1 h3.isKey hk) (bT hs yo) hc1 hc2 hz
         ·cases hd
        ·cases hd
       ·cases hd
      ·cases hd
     ·cases hd
    ·cases hd
   ·cases hd
  ·unfold gD at hd
   split at hd
   ·rename_i K c' hm
    split at hd
    ·rename_i id ex
     split at hd
     ·rename_i K1 kv hi
      split at hd
      ·rename_i i v hk1 hv1
       split at hd
       ·rename_i q
        obtain⟨rfl,q2⟩:=q
        cases hd
        obtain⟨ti,kt,et,te,h1,h2,h3,h5⟩:=rI htb hm hc
        have hx:=bT hs xo
        have hk:=bT hs ko
        rw[ex]at hx
        refine rW m h1 h2 h3 (.inr ho) hi hx (jM hk1 h3.isKey hk) (A7 hv1 (bT hs yo)) (fun p hp e=> ?_)
        have:=List.all_eq_true.1 q2 p hp
        rw[(cL h3.isKey).2 e]at this
        cases this
       ·cases hd
      ·cases hd
     ·cases hd
    ·cases hd
   ·cases hd
 ·rename_i c ho
  obtain⟨callee,args,tys⟩:=c
  unfold uH at hd
  simp only at hd
  split at hd
  ·rename_i b
   unfold vG at hd
   split at hd
   ·rename_i x0 t ex et
    obtain⟨xo,eargs,rfl⟩:∃xo,args = #[xo]∧ev s xo=x0:=by
     match hargs:args.toList,ex with
     | [xo],ex=>exact⟨xo,Array.ext' hargs,by simpa using ex⟩
    have etys:tys = #[t]:=Array.ext' et
    subst eargs etys
    split at hd
    ·unfold y5 at hd
     split at hd
     ·rename_i ti ht
      split at hd
      ·rename_i kt et id hk ex
       split at hd
       ·rename_i K A kv hi
        cases hd
        have hx:=bT hs xo
        rw[ex]at hx
        exact X7 m (htb.find ht) hk hi hx ho
       ·cases hd
      ·cases hd
     ·cases hd
    unfold aBS at hd
    split at hd
    ·rename_i ti ht
     split at hd
     ·rename_i k hk
      split at hd
      ·rename_i e he
       split at hd
       ·cases hd
       ·rename_i hstr
        cases hd
        refine aBi m (htb.find ht) (.inl ⟨e,he⟩) (bT hs xo) ho hk ⟨fun h=>(by rw[he]at h;cases h),fun⟨β,str,ex⟩=> ?_⟩
        rw[ex]at hstr
        exact absurd rfl hstr
      ·rename_i he
       split at hd
       ·rename_i hstr
        cases hd
        refine aBi m (htb.find ht) (.inr he) (bT hs xo) ho hk ⟨fun _=> ?_,fun _=>he⟩
        unfold aF6 at hstr
        split at hstr
        ·rename_i β str ex;exact⟨β,str,ex⟩
        ·cases hstr
       ·cases hd
      ·cases hd
     ·cases hd
    ·cases hd
   ·rename_i x0 y0 ex
    obtain⟨xo,yo,eargs,rfl,rfl⟩:∃xo yo,args = #[xo,yo]∧ev s xo=x0∧ev s yo=y0:=by
     match hargs:args.toList,ex with
     | [xo,yo],ex=>exact⟨xo,yo,Array.ext' hargs,by simp at ex;exact ex.1,by simp at ex;exact ex.2⟩
    subst eargs
    unfold aDn at hd
    split at hd
    ·rename_i β k i β' k' j ex ey
     split at hd
     ·rename_i hkk
      subst hkk
      cases hd
      have hx:=bT hs xo
      have hy:=bT hs yo
      rw[ex]at hx
      rw[ey]at hy
      exact aF8 m hx hy ho
     ·cases hd
    ·cases hd
   ·rename_i x0 y0 ex
    obtain⟨xo,yo,eargs,rfl,rfl⟩:∃xo yo,args = #[xo,yo]∧ev s xo=x0∧ev s yo=y0:=by
     match hargs:args.toList,ex with
     | [xo,yo],ex=>exact⟨xo,yo,Array.ext' hargs,by simp at ex;exact ex.1,by simp at ex;exact ex.2⟩
    subst eargs
    unfold aDn at hd
    split at hd
    ·rename_i β k i β' k' j ex ey
     split at hd
     ·rename_i hkk
      subst hkk
      cases hd
      have hx:=bT hs xo
      have hy:=bT hs yo
      rw[ex]at hx
      rw[ey]at hy
      exact aF2 m hx hy ho
     ·cases hd
    ·cases hd
   ·rename_i x0 y0 t t' ex et
    obtain⟨xo,yo,eargs,rfl,rfl⟩:∃xo yo,args = #[xo,yo]∧ev s xo=x0∧ev s yo=y0:=by
     match hargs:args.toList,ex with
     | [xo,yo],ex=>exact⟨xo,yo,Array.ext' hargs,by simp at ex;exact ex.1,by simp at ex;exact ex.2⟩
    have etys:tys = #[t,t']:=Array.ext' et
    subst eargs etys
    split at hd
    ·rename_i htt
     subst htt
     unfold qH at hd
     split at hd
     ·rename_i e te A het
      obtain⟨ti',h1,h1',h2,h3,h4,h5⟩:=fH htb het
      split at hd
      ·rename_i ys hys
       split at hd
       ·rename_i ex
        cases hd
        exact zK m hn h1 h2 h3 h4 h5 (bT hs xo) (bT hs yo) ho (xs:=[]) (.inl ⟨ex,rfl,rfl,rfl⟩) hys hc.1 hc.2
       ·rename_i id ex
        split at hd
        ·rename_i e' B xs hid
         split at hd
         ·rename_i hBA
          subst hBA
          split at hd
          ·rename_i hee
           subst hee
           simp only[Option.some.injEq,Prod.mk.injEq]at hd
           obtain⟨rfl,rfl,rfl⟩:=hd
           exact zK m hn h1 h2 h3 h4 h5 (bT hs xo) (bT hs yo) ho (xs:=xs) (.inr ⟨id,ex,hid,rfl,rfl⟩) hys hc.1 hc.2
          ·cases hd
         ·cases hd
        ·cases hd
       ·cases hd
      ·cases hd
     ·cases hd
    ·cases hd
   ·rename_i x0 y0 t t' ex et
    obtain⟨xo,yo,eargs,rfl,rfl⟩:∃xo yo,args = #[xo,yo]∧ev s xo=x0∧ev s yo=y0:=by
     match hargs:args.toList,ex with
     | [xo,yo],ex=>exact⟨xo,yo,Array.ext' hargs,by simp at ex;exact ex.1,by simp at ex;exact ex.2⟩
    have etys:tys = #[t,t']:=Array.ext' et
    subst eargs etys
    unfold xA at hd
    split at hd
    ·rename_i e te A het
     obtain⟨ti',h1,h1',h2,h3,h4,h5⟩:=fH htb het
     split at hd
     ·rename_i ys hys
      split at hd
      ·rename_i id ex
       split at hd
       ·rename_i e' B xs hid
        split at hd
        ·rename_i hBA
         subst hBA
         simp only[Option.some.injEq,Prod.mk.injEq]at hd
         obtain⟨rfl,rfl,rfl⟩:=hd
         have hx:=bT hs xo
         rw[ex]at hx
         exact aDC m h1 h2 h3 h4 hx (bT hs yo) ho hid hys
        ·cases hd
       ·cases hd
      ·cases hd
     ·cases hd
    ·cases hd
   ·cases hd
  ·rename_i fo
   unfold E1 at hd
   split at hd
   ·rename_i fid caps q ef
    split at hd
    ·rename_i ys u' hfz
     have hf:=J3 (bT hs fo)
     rw[ef]at hf
     obtain⟨q1,q2,q3⟩:=rD m hfz
     split at hd
     ·split at hd
      ·split at hd
       ·rename_i args' hin hl hi
        split at hd
        ·rename_i hok
         cases hd
         have hc:Owns P fid args' hin q.r q.hout:=by
          unfold L6 at hc
          rw[show q.die=none from hdie]at hc
          exact hc
         have hg:=aFA (new:=new) q1 hn8 ho (V.mono q2 (fun _ _ h=>h) hf) (q3 _ (oS (sX hs args.toList))) hl hi hok hc
         refine fun K Q hk=>hg K Q fun v w' hp=>hk v w' ?_
         exact Post.after (h:=h) (u1:=u') rfl q2 hp
        ·cases hd
       ·cases hd
      ·cases hd
     ·split at hd
      ·rename_i args' hl
       cases hd
       have hg:=aDW (new:=new) q1 ho (V.mono q2 (fun _ _ h=>h) hf) (q3 _ (oS (sX hs args.toList))) hl hc
       refine fun K Q hk=>hg K Q fun v w' hp=>hk v w' ?_
       have:=Post.after (h:=h) (u1:=u) rfl q2 hp
       simpa using this
      ·cases hd
    ·cases hd
   ·cases hd
  ·cases hd
 ·cases hd
def aHX:AVal→Bool
 | .unk=>true
 | _=>false
def aFc(op:Op)(orc:Option Orc):Option Value :=
 match op,orc with
 | .call c,some q=>match c.callee with
  | .value _=>if q.own && aHX q.r && q.hout.isEmpty then q.die else none
  | _=>none
 | _,_=>none
theorem aG1(m:Mem Bw w0 ρ φ h w)(hs:Slots n (Fr (own φ h) Bw w) ρ s a)(hn8:∀j,j<8→ρ (new+j)=none){o:Oper}{asm:Option Bool}{orc:Option Orc}{y:Value}(hdy:aFc o.op orc=some y){x:AVal}{u:mB}{c:Prop}
  (hd:rV P tb new asm orc o.op s h=some (x,u,c)) (hc:c):Bad P o a w y (fun w'=>∃v,Post Bw w0 ρ φ h w new .unk u v w'):=by
 unfold aFc at hdy
 split at hdy
 ·rename_i c0 q ho
  split at hdy
  ·rename_i fo hfo
   split at hdy
   ·rename_i hcond
    simp only[Bool.and_eq_true,List.isEmpty_iff]at hcond
    obtain⟨⟨hown,hunk⟩,hout⟩:=hcond
    obtain⟨callee,args,tys⟩:=c0
    simp only at hfo
    subst hfo
    have hr:q.r = .unk:=by
     unfold aHX at hunk
     split at hunk
     ·assumption
     ·cases hunk
    rw[ho]at hd
    simp only[rV,uH]at hd
    unfold E1 at hd
    split at hd
    ·rename_i fid caps q' ef eq
     cases eq
     split at hd
     ·rename_i ys u' hfz
      have hf:=J3 (bT hs fo)
      rw[ef]at hf
      obtain⟨q1,q2,q3⟩:=rD m hfz
      rw[if_pos hown]at hd
      split at hd
      ·split at hd
       ·rename_i args' hin hl hi
        split at hd
        ·rename_i hok
         cases hd
         rw[hr,hout]at hok
         have hc:Dies P fid args' hin y:=by
          unfold L6 at hc
          rw[hdy]at hc
          exact hc
         have hg:=aGI (new:=new) q1 hn8 ho (V.mono q2 (fun _ _ h=>h) hf) (q3 _ (oS (sX hs args.toList))) hl hi hok hc
         refine fun K Q hk=>hg K Q fun w' ⟨v,hp⟩=>hk w' ⟨v,?_⟩
         rw[hout]
         exact Post.after (h:=h) (u1:=u') rfl q2 hp
        ·cases hd
       ·cases hd
      ·cases hd
     ·cases hd
    ·cases hd
   ·cases hdy
  ·cases hdy
 ·cases hdy
end
end Go.Tv
