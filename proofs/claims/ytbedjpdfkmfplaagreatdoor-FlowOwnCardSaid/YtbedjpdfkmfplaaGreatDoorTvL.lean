/- What an operation comes to, by a function. -/
import Derived.Test.YtbedjpdfkmfplaaGreatDoorTvKhm
namespace Go.Tv
open Go Go.RowKit
def wP(s:Nat→AVal):Option Operand→Option (Option Int)
 | none=>some none
 | some x=>match ev s x with
  | .p _ (.int _) n=>some (some n)
  | _=>none
def jA(tb:Tab)(t:TypeId):Option (TypeId×TI×Ty) :=
 match tb.find t with
 | some ti=>match ti.k with
  | .sl e=>match tb.find e with
   | some te=>match te.T with
    | some A=>if 0<A.size then some (e,te,A)else none
    | none=>none
   | none=>none
  | _=>none
 | none=>none
def aCn(tb:Tab)(new:Nat)(t:TypeId):Option iL :=
 match tb.find t with
 | some ti=>some (.adr new 0 ti.size 0,[(new,some (.box ti.z))],True)
 | none=>none
def aHQ(new:Nat)(x:AVal):Option iL :=
 if(cellsOf x).all AVal.cell then some (.adr new 0 (cellsOf x).length 0,[(new,some (.box (cellsOf x)))],True)else none
def tX(tb:Tab)(t:TypeId)(is:List Nat)(xs:List AVal):Option iL :=
 match tb.find t with
 | some ti=>match ti.k with
  | .st fs=>match fS tb fs (is.zip xs) ti.z with
   | some ds=>some (.agg ds,[],True)
   | none=>none
  | .ar n e=>match tb.find e with
   | some te=>match fS tb ((List.range n).map fun i=>(i*te.size,e)) (is.zip xs) ti.z with
    | some ds=>some (.agg ds,[],True)
    | none=>none
   | none=>none
  | _=>none
 | none=>none
def pB(tb:Tab)(new:Nat)(t:TypeId)(len:Nat)(is:List Nat)(xs:List AVal)(h:Nat→Option Obj):Option iL :=
 match jA tb t with
 | some (e,te,A) =>
  if is=List.range len∧xs.all AVal.cellOk=true∧len*te.size≤16777216 then
   match aCs A h xs with
   | some (ys,us)=>some (.sl new,us++[(new,some (.arr e A ys))],True)
   | none=>none
  else none
 | none=>none
def qM(ti:TI)(x:AVal)(h:Nat→Option Obj):Option iL :=
 match x,ti.k with
 | .ada id b n i,.int k=>match h id with
  | some (.box cs)=>if b+n≤cs.length then(match A9 k ((cs.drop b).take n)with
   | some l=>some (.p false (.int k) (l.getD i 0),[],True)
   | none=>none)else none
  | _=>none
 | _,_=>none
def mT(ti:TI)(x y:AVal)(h:Nat→Option Obj):Option iL :=
 match x,y with
 | .ada id b n i,.p _ (.int k) v=>match h id with
  | some (.box cs)=>if b+n≤cs.length∧ti.size=1 then(match A9 k ((cs.drop b).take n)with
   | some l=>some (.unk,[(id,some (.box (cs.take b++T1 k i v 0 l++cs.drop (b+n))))],True)
   | none=>none)else none
  | _=>none
 | _,_=>none
def mW(tb:Tab)(t:TypeId)(x i:AVal)(h:Nat→Option Obj):Option iL :=
 match tb.find t with
 | some ti=>match ti.k with
  | .ar n e=>match tb.find e with
   | some te=>if te.size=1 then(match x,i with
    | .adr id j sz off,.p _ (.int _) m=>match h id with
     | some (.box _)=>some (.ada id (j*sz+off) n (show Int from m).toNat,[],0≤(show Int from m)∧(show Int from m)<(n:Int))
     | _=>none
    | .ada id b N p,.p _ (.int _) m=>some (.ada id b N (p+(show Int from m).toNat),[],(0≤(show Int from m)∧(show Int from m)<(n:Int))∧p+(show Int from m).toNat<N)
    | _,_=>none)else if 0<te.size then(match x,i with
    | .adr id j sz off,.p _ (.int _) m=>match h id with
     | some (.box _)=>some (.ada id (j*sz+off) (n*te.size) ((show Int from m).toNat*te.size),[],0≤(show Int from m)∧(show Int from m)<(n:Int))
     | _=>none
    | _,_=>none)else none
   | none=>none
  | _=>none
 | none=>none
def oQ(new:Nat)(ti:TI)(x:AVal)(h:Nat→Option Obj):Option iL :=
 match x with
 | .adr id i sz off=>if sz=1∧off=0∧ti.k.agg=false then
   match h id with
   | some (.mat e e2 A xss none)=>some (.sl new,[(id,some (.mat e e2 A xss (some (i,new)))),(new,some (.arr e2 A (xss.getD i [])))],i<xss.length)
   | some (.mat e e2 A xss (some (k,j)))=>match h j with
    | some (.arr e3 B ys)=>if q:B=A then(if e3=e2 then
      some (.sl new,[(j,none),(id,some (.mat e e2 A (xss.set k (q ▸ ys:List A.den)) none))]++[(id,some (.mat e e2 A (xss.set k (q ▸ ys:List A.den)) (some (i,new)))),(new,some (.arr e2 A ((xss.set k (q ▸ ys:List A.den)).getD i [])))],i<xss.length)else none)else none
    | _=>none
   | _=>none
  else none
 | _=>none
def aBL(tb:Tab)(new:Nat)(t:TypeId)(x:AVal)(h:Nat→Option Obj):Option iL :=
 match tb.find t with
 | some ti=>match mH h x with
  | some (cs,off,c)=>match fN ti cs off with
   | some y=>some (y,[],c)
   | none=>none
  | none=>match qM ti x h with
   | some r=>some r
   | none=>oQ new ti x h
 | none=>none
def F4(id i:Nat)(e e2:TypeId)(A:Ty)(xss:List (List A.den))(hole:Option (Nat×Nat))(y:AVal)(h:Nat→Option Obj):Option iL :=
 match y with
 | .sl r=>match h r with
  | some (.arr e3 B _)=>if B=A∧e3=e2 then
    match hole with
    | none=>some (.unk,[(id,some (.mat e e2 A xss (some (i,r))))],i<xss.length)
    | some (k,j)=>match h j with
     | none=>some (.unk,[(id,some (.mat e e2 A xss (some (i,r))))],k=i∧i<xss.length)
     | some (.arr e4 C ys)=>if q:C=A then(if e4=e2∧j≠r then
       some (.unk,[(j,none),(id,some (.mat e e2 A (xss.set k (q ▸ ys:List A.den)) none))]++[(id,some (.mat e e2 A (xss.set k (q ▸ ys:List A.den)) (some (i,r))))],i<xss.length)else none)else none
     | _=>none
   else none
  | _=>none
 | _=>none
def uV(tb:Tab)(t:TypeId)(x y:AVal)(h:Nat→Option Obj):Option iL :=
 match tb.find t with
 | some ti =>
  if(cellsOf y).all AVal.cell=true∧(cellsOf y).length=ti.size then
   match x with
   | .adr id i sz off=>match h id with
    | some (.box cs)=>if i*sz+off+ti.size≤cs.length then some (.unk,[(id,some (.box (wr cs (i*sz+off) (cellsOf y))))],True)else none
    | some (.arr e A xs) =>
     if sz=A.size∧off+ti.size≤A.size then
      match aCO A h xs i off y with
      | some (z,us)=>if us.all (fun p=>p.1 != id)then some (.unk,us++[(id,some (.arr e A (xs.set i z)))],i<xs.length)else none
      | none=>none
     else none
    | some (.mat e e2 A xss hole)=>if sz=1∧off=0 then F4 id i e e2 A xss hole y h else none
    | some (.bytes e xs)=>if sz=1∧off=0∧ti.size=1 then(match y with
     | .p _ (.int .u8) v=>some (.unk,[(id,some (.bytes e (xs.set i v)))],i<xs.length)
     | _=>none)else none
    | _=>none
   | _=>mT ti x y h
  else none
 | none=>none
def aHo(x:AVal):Option iL :=
 match x with
 | .adr id i sz off=>some (.adr id i sz off,[],True)
 | .fad β cs off=>some (.fad β cs off,[],True)
 | .p β (.ptr A) q=>some (.fad β (g5 β A (q.getD A.zero)) 0,[],q.isSome=true)
 | _=>none
def aBE:AVal→Option Bool
 | .nilp=>some true
 | .adr _ _ _ _=>some false
 | .fad _ _ _=>some false
 | _=>none
def eqR(op:BinOp)(b:Bool):Option AVal :=
 match op with
 | .eql=>some (.p false .bool b)
 | .neq=>some (.p false .bool (!b))
 | _=>none
def aH3(P:Program)(ti:TI)(op:BinOp)(t:TypeId)(x y:AVal):Option iL :=
 match x,y with
 | .agg cs,.agg ds=>match ti.T with
  | some T=>match jM T cs,jM T ds with
   | some (a,[]),some (b,[])=>match eqR op (eqE T a b)with
    | some r=>some (r,[],aJZ P t T)
    | none=>none
   | _,_=>none
  | none=>none
 | .p _ (.ptr _) q,.nilp=>match eqR op q.isNone with
  | some r=>some (r,[],∃e,P.underlying t=some (.pointer e))
  | none=>none
 | x,y=>match aBE x,aBE y with
  | some true,some b=>match eqR op b with
   | some r=>some (r,[],∃e,P.underlying t=some (.pointer e))
   | none=>none
  | some false,some true=>match eqR op false with
   | some r=>some (r,[],∃e,P.underlying t=some (.pointer e))
   | none=>none
  | _,_=>match x,y with
   | .lit (.iface _ _),.lit .nilIface=>match eqR op false with
    | some r=>some (r,[],∃ms,P.underlying t=some (.interface ms))
    | none=>none
   | _,_=>none
def G4(P:Program)(x:AVal)(at':TypeId)(ok:Bool):Option iL :=
 match x with
 | .lit (.iface t v)=>if t=at'∧ok=true then some (.tup [aBP v,.p false .bool true],[],∃d,P.underlying at'=some d∧(match d with | .interface _=>false | _=>true)=true)else none
 | _=>none
def aHJ(P:Program)(tb:Tab)(op:BinOp)(t:TypeId)(x y:AVal):Option iL :=
 match tb.find t with
 | some ti=>match bin ti.k op x y with
  | some (r,c)=>some (r,[],c)
  | none=>aH3 P ti op t x y
 | none=>none
def aI7(op:UnOp)(x:AVal):Option iL :=
 match un op x with
 | some r=>some (r,[],True)
 | none=>none
def aGB(tb:Tab)(k:TK):Bool :=
 match k with
 | .sl e=>match tb.find e with
  | some te=>match te.k with
   | .int .u8=>true
   | _=>false
  | none=>false
 | _=>true
def aHI(tb:Tab)(dk:TK)(x:AVal):Option AVal :=
 match x with
 | .p _ .str l=>match dk with
  | .sl e=>if aGB tb (.sl e)then some (.p false (.slice (.int .u8)) (dB l))else none
  | _=>none
 | .p _ (.int _) n=>match dk with
  | .str=>some (.p false .str (aHU n))
  | _=>none
 | _=>none
def aCc(tb:Tab)(st dt:TypeId)(x:AVal)(h:Nat→Option Obj):Option iL :=
 match tb.find st with
 | some si=>match tb.find dt with
  | some di=>match aHI tb di.k x with
   | some r=>some (r,[],True)
   | none=>if aGB tb si.k then(match conv si.k di.k h x with
    | some r=>some (r,[],True)
    | none=>none)else none
  | none=>none
 | none=>none
def aDx(tb:Tab)(new:Nat)(st dt:TypeId)(x:AVal):Option iL :=
 match tb.find st with
 | some _=>match tb.find dt with
  | some di=>match x with
   | .p _ .str l=>match di.k with
    | .sl e=>if aGB tb (.sl e)then some (.sl new,[(new,some (.bytes e (dB l)))],True)else none
    | _=>none
   | _=>none
  | none=>none
 | none=>none
def tR(tb:Tab)(new:Nat)(t:TypeId)(x:AVal)(lo hi:Option (Option Int))(h:Nat→Option Obj):Option iL :=
 match tb.find t with
 | some ti=>match lo,hi with
  | some l,some r=>match x with
   | .p _ .str s=>match ti.k with
    | .str=>some (.p false .str ((s.take (r.getD s.length).toNat).drop (l.getD 0).toNat),[],0≤l.getD 0∧l.getD 0≤r.getD s.length∧r.getD s.length≤s.length)
    | _=>none
   | .p β (.slice A) xs=>match jA tb t with
    | some (_,_,B)=>if A=B then some (.p β (.slice A) ((xs.take (r.getD xs.length).toNat).drop (l.getD 0).toNat),[],0≤l.getD 0∧l.getD 0≤r.getD xs.length∧r.getD xs.length≤xs.length)else none
    | none=>none
   | .sl id=>match h id with
    | some (.arr e A xs)=>match jA tb t with
     | some (_,_,_)=>match l,r with
      | none,some k=>some (.sl new,[(id,none),(new,some (.arr e A (xs.take k.toNat)))],0≤k∧k≤xs.length)
      | _,_=>none
     | none=>none
    | some (.fz A xs)=>match jA tb t with
     | some (_,_,B)=>if A=B then some (.p false (.slice A) ((xs.take (r.getD xs.length).toNat).drop (l.getD 0).toNat),[],0≤l.getD 0∧l.getD 0≤r.getD xs.length∧r.getD xs.length≤xs.length)else none
     | none=>none
    | _=>none
   | .nils=>match jA tb t with
    | some (_,_,_)=>some (.nils,[],0≤l.getD 0∧l.getD 0≤r.getD 0∧r.getD 0≤0)
    | none=>none
   | _=>none
  | _,_=>none
 | none=>none
def aA6:AVal→Option Int
 | .p _ (.int _) n=>some n
 | _=>none
def E7(tb:Tab)(t:TypeId)(x:AVal)(lo:Option (Option Int))(hi mx:AVal)(h:Nat→Option Obj):Option iL :=
 match jA tb t,lo,aA6 hi,aA6 mx with
 | some (_,_,B),some l,some r,some q=>match x with
  | .p β (.slice A) xs=>if A=B then some (.p β (.slice A) ((xs.take r.toNat).drop (l.getD 0).toNat),[],0≤l.getD 0∧l.getD 0≤r∧r≤q∧q≤xs.length)else none
  | .sl id=>match h id with
   | some (.fz A xs)=>if A=B then some (.p false (.slice A) ((xs.take r.toNat).drop (l.getD 0).toNat),[],0≤l.getD 0∧l.getD 0≤r∧r≤q∧q≤xs.length)else none
   | _=>none
  | _=>none
 | _,_,_,_=>none
def aEd(tb:Tab)(new:Nat)(t:TypeId)(x:AVal)(lo:Option (Option Int))(hi mx:AVal)(h:Nat→Option Obj):Option iL :=
 match jA tb t,lo,aA6 hi,aA6 mx with
 | some (_,_,B),some none,some r,some q=>match gH h x with
  | some (.p false (.slice A) xs,u)=>if A=B then some (.sl new,u++[(new,some (.cutz A (xs.take r.toNat)))],0≤r∧r=q∧r≤xs.length)else none
  | _=>none
 | _,_,_,_=>none
def aEa(tb:Tab)(t:TypeId)(x:AVal)(f:Nat):Option iL :=
 match tb.find t with
 | some ti=>match ti.k with
  | .st fs=>match fs[f]? with
   | some (off,_)=>match x with
    | .adr id i sz k=>some (.adr id i sz (k+off),[],True)
    | .fad β cs k=>some (.fad β cs (k+off),[],True)
    | _=>none
   | none=>none
  | _=>none
 | none=>none
def kA(tb:Tab)(t:TypeId)(x i:AVal)(h:Nat→Option Obj):Option iL :=
 match jA tb t with
 | some (_,te,_)=>match i with
  | .p _ (.int _) n=>match aAT h x n with
   | some (y,sz,c)=>if sz=te.size then some (y,[],c)else none
   | none=>none
  | _=>none
 | none=>none
def aD1(tb:Tab)(t:TypeId)(x i:AVal):Option iL :=
 match tb.find t with
 | some ti=>match ti.k with
  | .str=>match x,i with
   | .p _ .str s,.p _ (.int _) n=>some (.p false (.int .u8) ((s.getD n.toNat 0).toNat:Int),[],0≤n∧n<s.length)
   | _,_=>none
  | .ar n e=>match tb.find e with
   | some te=>match te.k with
    | .int k=>match x,i with
     | .agg cs,.p _ (.int _) m=>if cs.length=n then(match A9 k cs with
      | some l=>some (.p false (.int k) (l.getD (show Int from m).toNat 0),[],0≤(show Int from m)∧(show Int from m)<(n:Int))
      | none=>none)else none
     | _,_=>none
    | _=>none
   | none=>none
  | _=>none
 | none=>none
def O7(x:AVal)(i:Nat):Option iL :=
 match x with
 | .tup cs=>match cs[i]? with
  | some y=>some (y,[],True)
  | none=>none
 | _=>none
def aG7(e:TypeId)(te:TI)(A:Ty)(n:Nat):Obj :=
 match A with
 | .slice B=>match te.k,te.z with
  | .sl e2,[.nils]=>if 0<B.size then .mat e e2 B (List.replicate n []) none else .arr e (.slice B) (List.replicate n [])
  | _,_=> .arr e (.slice B) (List.replicate n [])
 | A=> .arr e A (List.replicate n A.zero)
def aFw(tb:Tab)(new:Nat)(t:TypeId)(l c:AVal):Option iL :=
 match jA tb t with
 | some (e,te,A)=>match l,c with
  | .p _ (.int _) n,.p _ (.int _) k=>some (.sl new,[(new,some (aG7 e te A n.toNat))],0≤n∧n≤k∧(te.bytes:Int)*k≤281474976710656∧k≤9223372036854775807)
  | _,_=>none
 | none=>none
def aGR:AVal→Bool
 | .p _ .str _=>true
 | _=>false
def aEt(tb:Tab)(t:TypeId)(x:AVal)(h:Nat→Option Obj):Option iL :=
 match tb.find t with
 | some ti=>match lenOf h x with
  | some n=>match ti.k with
   | .sl _=>if aGR x then none else some (.p false (.int .i64) n,[],True)
   | .str=>if aGR x then some (.p false (.int .i64) n,[],True)else none
   | _=>none
  | none=>none
 | none=>none
def pY(tb:Tab)(new:Nat)(t:TypeId)(x y:AVal)(h:Nat→Option Obj):Option iL :=
 match jA tb t with
 | some (e,te,A)=>match fI h A y with
  | some ys=>match x with
   | .nils=>some (.sl new,[(new,some (.arr e A ys))],(([]:List A.den).length+ys.length)*te.bytes≤140737488355328∧([]:List A.den).length+ys.length≤9223372036854775807)
   | .sl id=>match h id with
    | some (.arr e' B xs)=>if q:B=A then(if e'=e then some (.sl new,[(id,none),(new,some (.arr e A ((q ▸ xs:List A.den)++ys)))],((q ▸ xs:List A.den).length+ys.length)*te.bytes≤140737488355328∧(q ▸ xs:List A.den).length+ys.length≤9223372036854775807)else none)else none
    | some (.cutz B xs)=>if q:B=A then some (.sl new,[(new,some (.arr e A ((q ▸ xs:List A.den)++ys)))],0<ys.length∧((q ▸ xs:List A.den).length+ys.length)*te.bytes≤140737488355328∧(q ▸ xs:List A.den).length+ys.length≤9223372036854775807)else none
    | _=>none
   | _=>none
  | none=>none
 | none=>none
def zQ(tb:Tab)(t:TypeId)(x y:AVal)(h:Nat→Option Obj):Option iL :=
 match jA tb t with
 | some (_,_,A)=>match fI h A y with
  | some ys=>match x with
   | .sl id=>match h id with
    | some (.arr e' B xs)=>if q:B=A then some (.p false (.int .i64) ((min ys.length (q ▸ xs:List A.den).length:Nat):Int),[(id,some (.arr e' A (ys.take (q ▸ xs:List A.den).length++(q ▸ xs:List A.den).drop ys.length)))],True)else none
    | _=>none
   | _=>none
  | none=>none
 | none=>none
def aIR(P:Program)(kt:TypeId)(ki:TI):Option (Ty×Prop) :=
 match aIO ki.k with
 | some K=>some (K,True)
 | none=>match ki.T with
  | some K=>if K.scalar=false then some (K,KeyOk P kt K)else none
  | none=>none
def aHn(P:Program)(tb:Tab)(t:TypeId):Option (Ty×Ty×Prop) :=
 match tb.find t with
 | some ti=>match ti.k with
  | .mp kt et=>match tb.find kt,tb.find et with
   | some ki,some te=>match aIR P kt ki,te.T with
    | some (K,c),some A=>some (K,A,c)
    | _,_=>none
   | _,_=>none
  | _=>none
 | none=>none
def C9(K:Ty)(x:AVal):Option K.den :=
 match x with
 | .p _ K2 i=>if q:K2=K then(if K.scalar=true then some (q ▸ i)else none)else none
 | .agg cs=>if K.scalar=false∧cs.length=K.size then match jM K cs with
  | some (k,_)=>some k
  | none=>none
  else none
 | .lag k n xs []=>if q:Ty.arr k n=K then some (q ▸ (show(Ty.arr k n).den from xs))else none
 | _=>none
def T6(P:Program)(tb:Tab)(new:Nat)(t:TypeId):Option iL :=
 match aHn P tb t with
 | some (K,A,c)=>some (.mp new,[(new,some (.mpo K A []))],c)
 | none=>none
def pT(P:Program)(tb:Tab)(t:TypeId)(x k:AVal)(ok:Bool)(h:Nat→Option Obj):Option iL :=
 match aHn P tb t with
 | some (K,A,c)=>match x with
  | .mp id=>match h id with
   | some (.mpo K1 A1 kv)=>match C9 K1 k with
    | some i=>if K1=K∧A1=A then
     some (if ok then .tup [enc false A1 ((bG K1 kv i).getD A1.zero),.p false .bool (bG K1 kv i).isSome]else enc false A1 ((bG K1 kv i).getD A1.zero),[],c)else none
    | none=>none
   | _=>none
  | _=>none
 | none=>none
def gL(P:Program)(tb:Tab)(t:TypeId)(x k y:AVal)(h:Nat→Option Obj):Option iL :=
 match aHn P tb t with
 | some (K,A,c)=>match x with
  | .mp id=>match h id with
   | some (.mpo K1 A1 kv)=>match C9 K1 k with
    | some i=>if K1=K∧A1=A∧(cellsOf y).all AVal.cell=true∧mJ A1 y=true then
     match toT A1 h y with
     | some (z,us)=>if us.all (fun p=>p.1 != id)then some (.unk,us++[(id,some (.mpo K1 A1 (fF K1 kv i z)))],c)else none
     | none=>none
     else none
    | none=>none
   | _=>none
  | _=>none
 | none=>none
def aHV(P:Program)(tb:Tab)(t:TypeId):Option (Ty×Prop) :=
 match tb.find t with
 | some ti=>match ti.k with
  | .mp kt et=>match tb.find kt,tb.find et with
   | some ki,some te=>match te.T with
    | none=>aIR P kt ki
    | some _=>none
   | _,_=>none
  | _=>none
 | none=>none
def I4(P:Program)(tb:Tab)(new:Nat)(t:TypeId):Option iL :=
 match aHV P tb t with
 | some (K,c)=>some (.mp new,[(new,some (.mpl K []))],c)
 | none=>none
def aGM:AVal→Option Value
 | .lit v=>some v
 | .fn f []=>some (.func (.func f) #[] #[])
 | _=>none
def fP(P:Program)(tb:Tab)(t:TypeId)(x k y:AVal)(h:Nat→Option Obj):Option iL :=
 match aHV P tb t with
 | some (K,c)=>match x with
  | .mp id=>match h id with
   | some (.mpl K1 kv)=>match C9 K1 k,aGM y with
    | some i,some v=>if K1=K∧kv.all (fun p=> !eY K1 p.1 i)=true then some (.unk,[(id,some (.mpl K1 (kv++[(i,v)])))],c)else none
    | _,_=>none
   | _=>none
  | _=>none
 | none=>none
def oA(P:Program)(tb:Tab)(t:TypeId)(g:List Nat)(x k:AVal)(ok:Bool)(h:Nat→Option Obj):Option iL :=
 match aHV P tb t with
 | some (K,c)=>match x with
  | .mp id=>match h id with
   | some (.mpl K1 kv)=>match C9 K1 k,g with
    | some i,[j]=>if K1=K∧ok=true then some (aFp ((kv[j]?).map (·.2)),[],c∧yW K1 kv i j)else none
    | _,_=>none
   | _=>none
  | _=>none
 | none=>none
def G3(tb:Tab)(t:TypeId)(x:AVal)(h:Nat→Option Obj):Option iL :=
 match tb.find t with
 | some ti=>match ti.k,x with
  | .mp _ _,.mp id=>match h id with
   | some (.mpo _ _ kv)=>some (.p false (.int .i64) (kv.length:Int),[],True)
   | _=>none
  | _,_=>none
 | none=>none
def aFk(b:Bool)(x y:AVal):Option iL :=
 match x,y with
 | .p _ (.int k) i,.p _ (.int k') j=>if k'=k then some (.p false (.int k) (if b then max (show Int from i) j else min (show Int from i) j),[],True)else none
 | _,_=>none
def aLD:AVal→Bool
 | .mp _=>true
 | _=>false
def aCd:Ty→List Ty
 | .unit=>[]
 | .prod a b=>aCd a++aCd b
 | .tree k1 k2=>[.int k1,.int k2,.slice (.tree k1 k2)]
 | T=>[T]
def H1:Ty→AVal→AVal
 | .slice A,.nils=> .p false (.slice A) []
 | .ptr A,.nilp=> .p false (.ptr A) none
 | _,x=>x
def oV:List Ty→List AVal→List AVal
 | T::Ts,c::cs=>H1 T c::oV Ts cs
 | _,cs=>cs
def aE5(T:Ty):AVal→AVal
 | .agg cs=> .agg (oV (aCd T) cs)
 | x=>H1 T x
def W8(tb:Tab)(t:TypeId)(x:AVal):AVal :=
 match tb.find t with
 | some ti=>match ti.T with
  | some T=>aE5 T x
  | none=>x
 | none=>x
def i7(tb:Tab):List Bool→List TypeId→List AVal→List AVal
 | true::bs,t::ts,x::xs=>W8 tb t x::i7 tb bs ts xs
 | false::bs,_::ts,x::xs=>x::i7 tb bs ts xs
 | _,_,xs=>xs
section
variable{P:Program}{Bw:Nat→Prop}{w0:Base P}{ρ:Nat→Option Value}{φ:Nat→Nat→Prop}{h:Nat→Option Obj}{w:World}{new:Nat}
theorem aG3(m:Mem Bw w0 ρ φ h w){o:Oper}{a:Act}{t:TypeId}{ti:TI}(ht:TIok P t ti){xo:Operand}{x:AVal}(hx:V (Fr (own φ h) Bw w) ρ x (a.eval xo))(ho:o.op = .load t xo)
  {r:AVal} {u:jJ} {c:Prop} (hd:qM ti x h=some (r,u,c)):Good P o a w (Post Bw w0 ρ φ h w new r u):=by
 unfold qM at hd
 split at hd
 ·rename_i id b n i k hk
  split at hd
  ·rename_i cs hb
   split at hd
   ·rename_i hn
    split at hd
    ·rename_i l hl
     cases hd
     exact aBF m ht hk hx ho hb hl hn
    ·cases hd
   ·cases hd
  ·cases hd
 ·cases hd
theorem aHz(m:Mem Bw w0 ρ φ h w){o:Oper}{a:Act}{t:TypeId}{ti:TI}(ht:TIok P t ti){xo yo:Operand}{x y:AVal}(hx:V (Fr (own φ h) Bw w) ρ x (a.eval xo))(hy:V (Fr (own φ h) Bw w) ρ y (a.eval yo))(ho:o.op = .store t xo yo)
  {r:AVal} {u:jJ} {c:Prop} (hd:mT ti x y h=some (r,u,c)):Good P o a w (Post Bw w0 ρ φ h w new r u):=by
 unfold mT at hd
 split at hd
 ·rename_i id b n i β k v
  split at hd
  ·rename_i cs hb
   split at hd
   ·rename_i hn
    split at hd
    ·rename_i l hl
     cases hd
     exact aAl m ht hn.2 hx hy ho hb hl hn.1
    ·cases hd
   ·cases hd
  ·cases hd
 ·cases hd
theorem aGe{tb:Tab}(m:Mem Bw w0 ρ φ h w)(htb:TabOK P tb){o:Oper}{a:Act}{t:TypeId}{xo io:Operand}{x i:AVal}(hx:V (Fr (own φ h) Bw w) ρ x (a.eval xo))(hi:V (Fr (own φ h) Bw w) ρ i (a.eval io))(ho:o.op = .indexAddr t xo io)
  {r:AVal} {u:jJ} {c:Prop} (hd:mW tb t x i h=some (r,u,c)) (hc:c):Good P o a w (Post Bw w0 ρ φ h w new r u):=by
 unfold mW at hd
 split at hd
 ·rename_i ti ht
  split at hd
  ·rename_i n e hk
   split at hd
   ·rename_i te hte
    split at hd
    ·rename_i hsz
     split at hd
     ·rename_i id j sz off β k mm
      split at hd
      ·rename_i cs hb
       cases hd
       exact aAg m (htb.find ht) hk (htb.find hte) hsz hx hb hi ho hc
      ·cases hd
     ·rename_i id b N p β k mm
      cases hd
      exact O9 m (htb.find ht) hk (htb.find hte) hsz hx hi ho hc
     ·cases hd
    ·split at hd
     ·rename_i hsz
      split at hd
      ·rename_i id j sz off β k mm
       split at hd
       ·rename_i cs hb
        cases hd
        exact Q9 m (htb.find ht) hk (htb.find hte) hsz hx hb hi ho hc
       ·cases hd
      ·cases hd
     ·cases hd
   ·cases hd
  ·cases hd
 ·cases hd
theorem aF5(m:Mem Bw w0 ρ φ h w)(hn:ρ new=none){o:Oper}{a:Act}{t:TypeId}{ti:TI}(ht:TIok P t ti){xo:Operand}{x:AVal}(hx:V (Fr (own φ h) Bw w) ρ x (a.eval xo))(ho:o.op = .load t xo)
  {r:AVal} {u:jJ} {c:Prop} (hd:oQ new ti x h=some (r,u,c)) (hc:c):Good P o a w (Post Bw w0 ρ φ h w new r u):=by
 unfold oQ at hd
 split at hd
 ·rename_i id i sz off
  split at hd
  ·rename_i hcond
   obtain⟨rfl,rfl,hk⟩:=hcond
   split at hd
   ·rename_i e e2 A xss hi
    cases hd
    exact zO m hn ht hk hx ho hi hc
   ·rename_i e e2 A xss k j hi
    split at hd
    ·rename_i e3 B ys hj
     split at hd
     ·rename_i q
      subst q
      split at hd
      ·rename_i he
       subst he
       simp only[Option.some.injEq,Prod.mk.injEq]at hd
       obtain⟨rfl,rfl,rfl⟩:=hd
       obtain⟨m',hF⟩:=m.closeRow hi hj
       have hg:=zO (new:=new) m' hn ht hk (V.mono hF (fun _ _ h=>h) hx) ho (aI _ _ _) (i:=i) (by rw[List.length_set];exact hc)
       exact fun K Q hk'=>hg K Q fun v w' hp=>hk' v w' (Post.after' rfl hF hp)
      ·cases hd
     ·cases hd
    ·cases hd
   ·cases hd
  ·cases hd
 ·cases hd
theorem aHK(m:Mem Bw w0 ρ φ h w){o:Oper}{a:Act}{t:TypeId}{ti:TI}(ht:TIok P t ti){xo yo:Operand}{id i:Nat}(hx:V (Fr (own φ h) Bw w) ρ (.adr id i 1 0) (a.eval xo)){y:AVal}(hy:V (Fr (own φ h) Bw w) ρ y (a.eval yo))(hsz:(cellsOf y).length=ti.size)
  (ho:o.op = .store t xo yo) {e e2:TypeId} {A:Ty} {xss:List (List A.den)} {hole:Option (Nat×Nat)} (hi:h id=some (.mat e e2 A xss hole)) {r:AVal} {u:jJ} {c:Prop} (hd:F4 id i e e2 A xss hole y h=some (r,u,c)) (hc:c) :
  Good P o a w (Post Bw w0 ρ φ h w new r u):=by
 unfold F4 at hd
 split at hd
 ·rename_i rr
  have hs1:ti.size=1:=hsz.symm
  split at hd
  ·split at hd
   ·split at hd
    ·cases hd
     exact vR m ht hs1 hx hy ho hi hc (fun k j e=>by cases e)
    ·rename_i k j
     split at hd
     ·cases hd
      exact vR m ht hs1 hx hy ho hi hc.2 (fun k' j' e=>by cases e;exact hc.1)
     ·rename_i e4 C ys hj
      split at hd
      ·rename_i q
       subst q
       split at hd
       ·rename_i he
        obtain⟨rfl,_⟩:=he
        simp only[Option.some.injEq,Prod.mk.injEq]at hd
        obtain⟨rfl,rfl,rfl⟩:=hd
        obtain⟨m',hF⟩:=m.closeRow hi hj
        have hg:=vR (new:=new) m' ht hs1 (V.mono hF (fun _ _ h=>h) hx) (V.mono hF (fun _ _ h=>h) hy) ho (aI _ _ _) (i:=i) (by rw[List.length_set];exact hc) (fun k j e=>by cases e)
        exact fun K Q hk'=>hg K Q fun v w' hp=>hk' v w' (Post.after' rfl hF hp)
       ·cases hd
      ·cases hd
     ·cases hd
   ·cases hd
  ·cases hd
 ·cases hd
theorem aGt(m:Mem Bw w0 ρ φ h w)(hn:ρ new=none){o:Oper}{a:Act}{t e:TypeId}{ti te:TI}(ht:TIok P t ti)(hk:ti.k = .sl e)(hte:TIok P e te){A:Ty}(hT:te.T=some A)(h0:0<A.size)
  {lo co:Operand} (ho:o.op = .makeSlice t lo co) {β β':Bool} {kl kc:IntKind} {l c:Int} (hl:V (Fr (own φ h) Bw w) ρ (.p β (.int kl) l) (a.eval lo)) (hc:V (Fr (own φ h) Bw w) ρ (.p β' (.int kc) c) (a.eval co))
  (h1:0≤l) (h2:l≤c) (h3:(te.bytes:Int)*c≤281474976710656) (h4:c≤9223372036854775807) :
  Good P o a w (Post Bw w0 ρ φ h w new (.sl new) [(new,some (aG7 e te A l.toNat))]):=by
 have key:=O2 (new:=new) m hn ht hk hte hT h0 ho hl hc h1 h2 h3 h4
 unfold aG7
 split
 ·rename_i B
  split
  ·rename_i e2 hk2 hz
   split
   ·rename_i hB
    exact aB8 m hn ht hk hte hT hz hB ho hl hc h1 h2 h3 h4
   ·exact key
  ·exact key
 ·exact key
end
theorem aCo{F:Bool→Addr→Value→Prop}{ρ:Nat→Option Value}{T:Ty}{x:AVal}{v:Value}(h:V F ρ x v):V F ρ (H1 T x) v:=by
 unfold H1
 split
 ·simp only[V]at h ⊢
  exact⟨rfl,none,0,0,h.symm,⟨rfl,Nat.le_refl _⟩,fun i hi=>absurd hi (by simp)⟩
 ·simp only[V]at h ⊢
  exact⟨rfl,h.symm⟩
 ·exact h
theorem O0{T:Ty}{x:AVal}:cE (H1 T x)=cE x:=by
 unfold H1
 split <;> simp[cE]
theorem R6{F:Bool→Addr→Value→Prop}{ρ:Nat→Option Value}:∀ {Ts:List Ty} {cs:List AVal} {g:Nat→Value→Prop},VL F ρ cs g→VL F ρ (oV Ts cs) g
 | [],cs,g,h=>by cases cs <;> exact h
 | T::Ts,[],g,h=>h
 | T::Ts,c::cs,g,h=>by
  simp only[oV,VL]at h ⊢
  obtain⟨⟨u,q1,q2⟩,q3⟩:=h
  exact⟨⟨u,q1,aCo q2⟩,R6 q3⟩
theorem tC:∀ {Ts:List Ty} {cs:List AVal},(oV Ts cs).length=cs.length
 | [],cs=>by cases cs <;> rfl
 | T::Ts,[]=>rfl
 | T::Ts,c::cs=>by simp[oV,tC (Ts:=Ts) (cs:=cs)]
theorem K7:∀ {Ts:List Ty} {cs:List AVal},bP (oV Ts cs)=bP cs
 | [],cs=>by cases cs <;> rfl
 | T::Ts,[]=>rfl
 | T::Ts,c::cs=>by simp[oV,bP,O0,K7 (Ts:=Ts) (cs:=cs)]
theorem aHf{tb:Tab}{t:TypeId}{F:Bool→Addr→Value→Prop}{ρ:Nat→Option Value}{x:AVal}{v:Value}(h:V F ρ x v):V F ρ (W8 tb t x) v:=by
 unfold W8
 split
 ·split
  ·unfold aE5
   split
   ·simp only[V]at h ⊢
    obtain⟨vs,e,hs,hl⟩:=h
    exact⟨vs,e,by rw[tC];exact hs,R6 hl⟩
   ·exact aCo h
  ·exact h
 ·exact h
theorem aEH{tb:Tab}{t:TypeId}{x:AVal}:cE (W8 tb t x)=cE x:=by
 unfold W8
 split
 ·split
  ·unfold aE5
   split
   ·simp only[cE,K7]
   ·exact O0
  ·rfl
 ·rfl
theorem kR{tb:Tab}{F:Bool→Addr→Value→Prop}{ρ:Nat→Option Value}:∀ {bs:List Bool} {ts:List TypeId} {xs:List AVal} {vs:List Value},VVs F ρ xs vs→VVs F ρ (i7 tb bs ts xs) vs
 | true::bs,t::ts,x::xs,vs,h=>by
  cases vs with
  | nil=>exact h.elim
  | cons v vs=>exact⟨aHf h.1,kR h.2⟩
 | false::bs,t::ts,x::xs,vs,h=>by
  cases vs with
  | nil=>exact h.elim
  | cons v vs=>exact⟨h.1,kR h.2⟩
 | [],ts,xs,vs,h=>by simpa only [i7]using h
 | b::bs,[],xs,vs,h=>by cases b <;> simpa only [i7]using h
 | b::bs,t::ts,[],vs,h=>by cases b <;> simpa only [i7]using h
theorem qU{tb:Tab}:∀ {bs:List Bool} {ts:List TypeId} {xs:List AVal},bP (i7 tb bs ts xs)=bP xs
 | true::bs,t::ts,x::xs=>by simp only[i7,bP,aEH,qU (bs:=bs) (ts:=ts) (xs:=xs)]
 | false::bs,t::ts,x::xs=>by simp only[i7,bP,qU (bs:=bs) (ts:=ts) (xs:=xs)]
 | [],ts,xs=>by simp only[i7]
 | b::bs,[],xs=>by cases b <;> simp only[i7]
 | b::bs,t::ts,[]=>by cases b <;> simp only[i7]
def aAi(h:Nat→Option Obj)(x:AVal):Option (AVal×jJ) :=
 match x with
 | .agg cs=>match wY h cs with
  | some (ds,u)=>some (.agg ds,u)
  | none=>none
 | x=>gH h x
def frzL(h:Nat→Option Obj):List Bool→List AVal→Option (List AVal×jJ)
 | _,[]=>some ([],[])
 | [],xs=>some (xs,[])
 | false::bs,x::xs=>match frzL h bs xs with
  | some (ys,u)=>some (x::ys,u)
  | none=>none
 | true::bs,x::xs=>match aAi h x with
  | some (y,u)=>match frzL (apply u h) bs xs with
   | some (ys,us)=>some (y::ys,u++us)
   | none=>none
  | none=>none
structure Orc where
 r:AVal
 fl:List Bool
 own:Bool
 cn:List Bool
 g:List Nat
 hout:List (Nat×Obj)
 die:Option Value
def aHa:Option Orc→Option Value
 | some q=>q.die
 | none=>none
def P3(P:Program)(f:FuncId)(args:List AVal)(hin:List (Nat×Obj))(q:Orc):Prop :=
 match q.die with
 | none=>Owns P f args hin q.r q.hout
 | some x=>Dies P f args hin x
def gOf:Option Orc→List Nat
 | some q=>q.g
 | none=>[]
def aCi:AVal→AVal
 | .lit (.func (.func f) fs cs)=>if fs.isEmpty && cs.isEmpty then .fn f []else .unk
 | x=>x
def aIw:Option Orc→List Bool
 | some q=>q.cn
 | none=>[]
def N0(P:Program)(new:Nat)(orc:Option Orc)(f:AVal)(xs:List AVal)(h:Nat→Option Obj):Option iL :=
 match f,orc with
 | .fn fid caps,some q=>match frzL h q.fl xs with
  | some (ys,u) =>
   if q.own then
    if q.g.all (fun i=>(W9 h (f::xs)).contains i)then
     match C0 q.g (less q.g (apply u h)) (ys++caps),lL q.g (apply u h) 0 q.g with
     | some args,some hin=>if J1 q.g q.hout q.r then some (oX (z7 q.g new) q.r,u++M2 q.g new q.hout,P3 P fid args hin q)else none
     | _,_=>none
    else none
   else match sP (apply u h) (ys++caps)with
   | some args=>some (q.r,u,Pure P fid args q.r)
   | none=>none
  | none=>none
 | _,_=>none
def aBK(asm:Option Bool)(c:AVal)(s:Nat→AVal)(x y:Operand):Option iL :=
 match asm,c with
 | some b,.p _ .bool b'=>some (ev s (if b then x else y),[],b'=b)
 | none,.p _ .bool b'=>match b' with
  | true=>some (ev s x,[],True)
  | false=>some (ev s y,[],True)
 | _,_=>none
def aFB(fn:Fn)(first:List Operand)(caps:List AVal):Option iL :=
 match fn,first with
 | .func f,[]=>some (.fn f caps,[],True)
 | _,_=>none
def yH(tb:Tab)(new:Nat)(b:Builtin)(xs:List AVal)(ts:List TypeId)(h:Nat→Option Obj):Option iL :=
 match b,xs,ts with
 | .len,[x],[t]=>if aLD x then G3 tb t x h else aEt tb t x h
 | .min,[x,y],_=>aFk false x y
 | .max,[x,y],_=>aFk true x y
 | .append,[x,y],[t,t']=>if t=t' then pY tb new t x y h else none
 | .copy,[x,y],[t,_]=>zQ tb t x y h
 | _,_,_=>none
def wE(P:Program)(tb:Tab)(new:Nat)(orc:Option Orc)(c:Call)(s:Nat→AVal)(h:Nat→Option Obj):Option iL :=
 match c.callee with
 | .builtin b=>yH tb new b (c.args.toList.map (ev s)) c.argTypes.toList h
 | .value f=>N0 P new orc (aCi (ev s f)) (i7 tb (aIw orc) c.argTypes.toList (c.args.toList.map (ev s))) h
 | _=>none
def i6(P:Program)(tb:Tab)(new:Nat)(asm:Option Bool)(orc:Option Orc)(op:Op)(s:Nat→AVal)(h:Nat→Option Obj):Option iL :=
 match op with
 | .move x=>some (ev s x,[],True)
 | .assign x=>some (ev s x,[],True)
 | .pick c x y=>aBK asm (ev s c) s x y
 | .alloc t=>aCn tb new t
 | .box _ x=>aHQ new (ev s x)
 | .build t ps=>tX tb t (ps.toList.map (·.1)) (ps.toList.map fun p=>ev s p.2)
 | .buildSlice t len ps=>pB tb new t len (ps.toList.map (·.1)) (ps.toList.map fun p=>ev s p.2) h
 | .load t x=>aBL tb new t (ev s x) h
 | .store t x y=>uV tb t (ev s x) (ev s y) h
 | .binOp op t x y _=>aHJ P tb op t (ev s x) (ev s y)
 | .nilCheck x=>aHo (ev s x)
 | .unOp op _ x=>aI7 op (ev s x)
 | .convert st dt x=>match orc with
  | none=>aCc tb st dt (ev s x) h
  | some _=>aDx tb new st dt (ev s x)
 | .slice t x lo hi none=>tR tb new t (ev s x) (wP s lo) (wP s hi) h
 | .slice t x lo (some hi) (some mx)=>match orc with
  | none=>E7 tb t (ev s x) (wP s lo) (ev s hi) (ev s mx) h
  | some _=>aEd tb new t (ev s x) (wP s lo) (ev s hi) (ev s mx) h
 | .fieldAddr t x f=>aEa tb t (ev s x) f
 | .indexAddr t x i=>match kA tb t (ev s x) (ev s i) h with
  | some r=>some r
  | none=>mW tb t (ev s x) (ev s i) h
 | .index t x i=>aD1 tb t (ev s x) (ev s i)
 | .extract x i=>O7 (ev s x) i
 | .typeAssert x _ t ok=>G4 P (ev s x) t ok
 | .makeFunc fn first caps=>aFB fn first.toList (caps.toList.map (ev s))
 | .makeSlice t l c=>aFw tb new t (ev s l) (ev s c)
 | .makeMap t none=>match T6 P tb new t with
  | some r=>some r
  | none=>I4 P tb new t
 | .lookup t x k ok=>match pT P tb t (ev s x) (ev s k) ok h with
  | some r=>some r
  | none=>oA P tb t (gOf orc) (ev s x) (ev s k) ok h
 | .mapUpdate t x k y=>match gL P tb t (ev s x) (ev s k) (ev s y) h with
  | some r=>some r
  | none=>fP P tb t (ev s x) (ev s k) (ev s y) h
 | .insert t x k y=>match gL P tb t (ev s x) (ev s k) (ev s y) h with
  | some r=>some r
  | none=>fP P tb t (ev s x) (ev s k) (ev s y) h
 | .call c=>wE P tb new orc c s h
 | _=>none
section
variable{P:Program}{tb:Tab}{Bw:Nat→Prop}{w0:Base P}{ρ:Nat→Option Value}{φ:Nat→Nat→Prop}{h:Nat→Option Obj}{w:World}{new:Nat}{n:NS}{s:Nat→AVal}{a:Act}
theorem cF(htb:TabOK P tb){t e:TypeId}{te:TI}{A:Ty}(h:jA tb t=some (e,te,A)):∃ti,TIok P t ti∧tb.find t=some ti∧ti.k = .sl e∧TIok P e te∧te.T=some A∧0<A.size:=by
 unfold jA at h
 split at h
 ·rename_i ti h1
  split at h
  ·rename_i e' h2
   split at h
   ·rename_i te' h3
    split at h
    ·rename_i A' h4
     split at h
     ·rename_i h5
      cases h
      exact⟨ti,htb.find h1,h1,h2,htb.find h3,h4,h5⟩
     ·cases h
    ·cases h
   ·cases h
  ·cases h
 ·cases h
theorem qX(htb:TabOK P tb){t:TypeId}{K A:Ty}{c:Prop}(h:aHn P tb t=some (K,A,c))(hc:c):∃ti kt et te,TIok P t ti∧ti.k = .mp kt et∧KeyOk P kt K∧TIok P et te∧te.T=some A:=by
 unfold aHn at h
 split at h
 ·rename_i ti h1
  split at h
  ·rename_i kt et h2
   split at h
   ·rename_i ki te h3 h4
    split at h
    ·rename_i K' c' A' h5 h6
     cases h
     refine⟨ti,kt,et,te,htb.find h1,h2,?_,htb.find h4,h6⟩
     unfold aIR at h5
     split at h5
     ·rename_i K2 h7
      cases h5
      exact KeyOk.of_kk (htb.find h3) h7
     ·split at h5
      ·split at h5
       ·cases h5
        exact hc
       ·cases h5
      ·cases h5
    ·cases h
   ·cases h
  ·cases h
 ·cases h
theorem sG(htb:TabOK P tb){t:TypeId}{K:Ty}{c:Prop}(h:aHV P tb t=some (K,c))(hc:c):∃ti kt et te,TIok P t ti∧ti.k = .mp kt et∧KeyOk P kt K∧TIok P et te:=by
 unfold aHV at h
 split at h
 ·rename_i ti h1
  split at h
  ·rename_i kt et h2
   split at h
   ·rename_i ki te h3 h4
    split at h
    ·refine⟨ti,kt,et,te,htb.find h1,h2,?_,htb.find h4⟩
     unfold aIR at h
     split at h
     ·rename_i K2 h7
      cases h
      exact KeyOk.of_kk (htb.find h3) h7
     ·split at h
      ·split at h
       ·cases h
        exact hc
       ·cases h
      ·cases h
    ·cases h
   ·cases h
  ·cases h
 ·cases h
theorem J0{F:Bool→Addr→Value→Prop}{ρ:Nat→Option Value}{x:AVal}{v u:Value}(h:aGM x=some v)(hv:V F ρ x u):u=v:=by
 unfold aGM at h
 split at h
 ·cases h
  simpa only [V]using hv
 ·cases h
  simp only[V]at hv
  obtain⟨vs,e,hs,_⟩:=hv
  have:vs = #[]:=Array.eq_empty_of_size_eq_zero (by simpa using hs)
  subst this
  exact e
 ·cases h
theorem R3{F:Bool→Addr→Value→Prop}{ρ:Nat→Option Value}{x:AVal}{u:Value}(hv:V F ρ x u):V F ρ (aCi x) u:=by
 unfold aCi
 split
 ·rename_i f fs cs
  split
  ·rename_i hc
   simp only[Bool.and_eq_true,Array.isEmpty_iff]at hc
   obtain⟨rfl,rfl⟩:=hc
   simp only[V]at hv ⊢
   exact⟨#[],hv,rfl,by simp only[VL]⟩
  ·trivial
 ·exact hv
theorem aDW{x:AVal}:∀i∈cE (aCi x),i∈cE x:=by
 unfold aCi
 split
 ·split
  ·intro i hi
   simp[cE,bP]at hi
  ·intro i hi
   simp[cE]at hi
 ·exact fun i hi=>hi
theorem iO{F:Bool→Addr→Value→Prop}{ρ:Nat→Option Value}{K:Ty}{x:AVal}{k:K.den}{v:Value}(h:C9 K x=some k)(hK:K.isKey=true)(hv:V F ρ x v):v=aZ K k:=by
 unfold C9 at h
 split at h
 ·rename_i β K2 i
  split at h
  ·rename_i q
   subst q
   split at h
   ·rename_i hs
    cases h
    exact A6 hK hs hv
   ·cases h
  ·cases h
 ·rename_i cs
  split at h
  ·rename_i hs
   split at h
   ·rename_i k' r hu
    cases h
    simp only[V]at hv
    obtain⟨vs,rfl,hsz,hvl⟩:=hv
    obtain⟨h1,h2,h3⟩:=dK hu hvl
    rw[kT hK hs.1]
    congr 1
    refine Array.ext_getElem? fun i=> ?_
    rw[List.getElem?_toArray,←Array.getElem?_toList]
    rcases Nat.lt_or_ge i K.size with hi | hi
    ·have:=lZ (l:=vs.toList) (o:=0) hK (Vcells.mono (fun _ _ h=>h) (fun j u hj=>by rw[Nat.zero_add,Array.getElem?_toList];exact hj) h1) i hi
     rw[Nat.zero_add]at this
     exact this
    ·rw[List.getElem?_eq_none (by rw[Array.length_toList,hsz,hs.2];exact hi)]
     rw[List.getElem?_eq_none (by rw[dS hK];exact hi)]
   ·cases h
  ·cases h
 ·rename_i k0 n0 xs
  split at h
  ·rename_i q
   subst q
   cases h
   simp only[V]at hv
   obtain⟨vs,rfl,hl,-⟩:=hv
   rw[kT hK rfl]
   cases vs with
   | nil=>simp[dF]
   | cons _ _=>simp at hl
  ·cases h
 ·cases h
theorem yD{F:Bool→Addr→Value→Prop}(hs:Slots n F ρ s a){lo:Option Operand}{l:Option Int}(h:wP s lo=some l):H0 F ρ a lo l:=by
 unfold wP at h
 cases lo with
 | none=>cases h;trivial
 | some x =>
  simp only at h
  split at h
  ·rename_i β k m e
   cases h
   have:=bD hs x
   rw[e]at this
   exact⟨_,_,this⟩
  ·cases h
theorem oR{F:Bool→Addr→Value→Prop}{x:AVal}{n:Int}(h:aA6 x=some n){v:Value}(hv:V F ρ x v):∃β k,V F ρ (.p β (.int k) n) v:=by
 unfold aA6 at h
 split at h
 ·cases h;exact⟨_,_,hv⟩
 ·cases h
theorem aES(m:Mem Bw w0 ρ φ h w){x y:AVal}{u:jJ}(hd:aAi h x=some (y,u)):
  Mem Bw w0 ρ φ (apply u h) w∧(∀β a v,Fr (own φ h) Bw w β a v→Fr (own φ (apply u h)) Bw w β a v)∧∀v,V (Fr (own φ h) Bw w) ρ x v→V (Fr (own φ (apply u h)) Bw w) ρ y v:=by
 unfold aAi at hd
 split at hd
 ·split at hd
  ·rename_i ds u' h1
   cases hd
   obtain⟨q1,q2,q3,q4⟩:=uQ m h1
   refine⟨q1,q2,fun v hv=> ?_⟩
   simp only[V]at hv ⊢
   obtain⟨vs,e,hs,hl⟩:=hv
   exact⟨vs,e,by rw[q3];exact hs,q4 _ hl⟩
  ·cases hd
 ·exact iQ m hd
theorem rZ:∀ {bs:List Bool} {xs ys:List AVal} {h:Nat→Option Obj} {u:jJ},Mem Bw w0 ρ φ h w→frzL h bs xs=some (ys,u) →
  Mem Bw w0 ρ φ (apply u h) w∧(∀β a v,Fr (own φ h) Bw w β a v→Fr (own φ (apply u h)) Bw w β a v)∧∀vs,VVs (Fr (own φ h) Bw w) ρ xs vs→VVs (Fr (own φ (apply u h)) Bw w) ρ ys vs
 | _,[],ys,h,u,m,hd=>by
  simp only[frzL]at hd
  cases hd
  exact⟨m,fun _ _ _ h=>h,fun _ h=>h⟩
 | [],x::xs,ys,h,u,m,hd=>by
  simp only[frzL]at hd
  cases hd
  exact⟨m,fun _ _ _ h=>h,fun _ h=>h⟩
 | false::bs,x::xs,ys,h,u,m,hd=>by
  simp only[frzL]at hd
  split at hd
  ·rename_i ys' u' h1
   cases hd
   obtain⟨q1,q2,q3⟩:=rZ m h1
   refine⟨q1,q2,fun vs hv=> ?_⟩
   cases vs with
   | nil=>exact hv.elim
   | cons v vs=>exact⟨V.mono q2 (fun _ _ h=>h) hv.1,q3 vs hv.2⟩
  ·cases hd
 | true::bs,x::xs,ys,h,u,m,hd=>by
  simp only[frzL]at hd
  split at hd
  ·rename_i y u1 h1
   split at hd
   ·rename_i ys' us h2
    cases hd
    obtain⟨q1,q2,q3⟩:=aES m h1
    obtain⟨r1,r2,r3⟩:=rZ q1 h2
    rw[iJ]
    refine⟨r1,fun β a v hh=>r2 _ _ _ (q2 _ _ _ hh),fun vs hv=> ?_⟩
    cases vs with
    | nil=>exact hv.elim
    | cons v vs=>exact⟨V.mono r2 (fun _ _ h=>h) (q3 v hv.1),r3 vs (VVs.mono q2 (fun _ _ h=>h) hv.2)⟩
   ·cases hd
  ·cases hd
theorem Q3{us:jJ}{i:Nat}(hu:us.all (fun p=>p.1 != i)=true):∀ {h:Nat→Option Obj},apply us h i=h i:=by
 induction us with
 | nil=>intro h;rfl
 | cons p us ih =>
  intro h
  obtain⟨j,o⟩:=p
  simp only[List.all_cons,Bool.and_eq_true,bne_iff_ne,ne_eq]at hu
  simp only[apply]
  rw[ih hu.2,aP _ _ (Ne.symm hu.1)]
theorem mQ{F:Bool→Addr→Value→Prop}{x:AVal}{b:Bool}(h:aBE x=some b){u:Value}(hu:V F ρ x u):∃q,u = .pointer q∧q.isNone=b:=by
 cases x <;> simp only[aBE]at h <;> first | (cases h;done) | skip
 ·cases h
  simp only[V]at hu
  exact⟨none,hu,rfl⟩
 ·cases h
  simp only[V]at hu
  obtain⟨g,_,e⟩:=hu
  exact⟨_,e,rfl⟩
 ·cases h
  simp only[V]at hu
  obtain⟨ad,e,_⟩:=hu
  exact⟨_,e,rfl⟩
theorem aBM(d:Nat){t e:TypeId}(h:P.underlying t=some (.pointer e))(q:Option Addr):(Op.equalIn (d+1) t (.pointer none) (.pointer q)).run P w = .ok q.isNone w:=by
 simp[Op.equalIn,run_underlying h]
theorem aAj(d:Nat){t e:TypeId}(h:P.underlying t=some (.pointer e))(a:Addr):(Op.equalIn (d+1) t (.pointer (some a)) (.pointer none)).run P w = .ok false w:=by
 simp[Op.equalIn,run_underlying h]
theorem aB7(d:Nat){t:TypeId}{ms:Array (String×TypeId)}(h:P.underlying t=some (.interface ms))(a:TypeId)(v:Value):(Op.equalIn (d+1) t (.iface a v) .nilIface).run P w = .ok false w:=by
 simp[Op.equalIn,run_underlying h]
theorem M5{F:Bool→Addr→Value→Prop}{op:BinOp}{b:Bool}{r:AVal}(h:eqR op b=some r){t:TypeId}{u v:Value}{xo yo:Operand}(hg:(eqGuard op t xo yo u v).run P w = .ok () w)
  (he:(Op.equal t u v).run P w = .ok b w) (hne:binOp .eql t u v=(do pure (.bool (←Op.equal t u v)))∧binOp .neq t u v=(do pure (.bool (!(←Op.equal t u v))))) :
  ∃z,(do eqGuard op t xo yo u v;binOp op t u v:Sem Value).run P w = .ok z w∧V F ρ r z:=by
 unfold eqR at h
 split at h <;> cases h
 ·exact⟨_,by rw[Sem.run_bind,hg,Result.andThen_ok,hne.1,Sem.run_bind,he];rfl,kF _ _⟩
 ·exact⟨_,by rw[Sem.run_bind,hg,Result.andThen_ok,hne.2,Sem.run_bind,he];rfl,kF _ _⟩
theorem aDl{F:Bool→Addr→Value→Prop}{ti:TI}{op:BinOp}{t:TypeId}{x y r:AVal}{us:jJ}{c:Prop}(h:aH3 P ti op t x y=some (r,us,c))(hc:c){u v:Value}(hu:V F ρ x u)(hv:V F ρ y v)(xo yo:Operand):
  us=[]∧∃z,(do eqGuard op t xo yo u v;binOp op t u v:Sem Value).run P w = .ok z w∧V F ρ r z:=by
 have ptr:∀ {b:Bool} {q q':Option Addr},u = .pointer q→v = .pointer q'→(∃e,P.underlying t=some (.pointer e))→(q.isNone=true∧q'.isNone=b∨q.isNone=false∧q'.isNone=true∧b=false)→eqR op b=some r →
   ∃z,(do eqGuard op t xo yo u v;binOp op t u v:Sem Value).run P w = .ok z w∧V F ρ r z:=fun {b q q'} e1 e2 hE hq hr=>by
  subst e1 e2
  obtain⟨e,hE⟩:=hE
  refine M5 hr (b7 (by intro cs e;cases e) (by intro e;cases e)) ?_ ⟨by cases q <;> cases q' <;> rfl,by cases q <;> cases q' <;> rfl⟩
  unfold Op.equal Op.maxDepth
  cases q with
  | none =>
   rcases hq with⟨_,q2⟩ | ⟨q1,_⟩
   ·subst q2
    exact aBM 9999 hE q'
   ·cases q1
  | some a =>
   rcases hq with⟨q1,_⟩ | ⟨_,q2,q3⟩
   ·cases q1
   ·cases q' with
    | none=>subst q3;exact aAj 9999 hE a
    | some _=>cases q2
 unfold aH3 at h
 split at h
 ·rename_i cs ds
  split at h
  ·rename_i T hT
   split at h
   ·rename_i a b ha hb
    split at h
    ·rename_i r' hr
     cases h
     refine⟨rfl,?_⟩
     simp only[V]at hu hv
     obtain⟨xs,rfl,sx,lx⟩:=hu
     obtain⟨ys,rfl,sy,ly⟩:=hv
     obtain⟨a1,a2,a3⟩:=dK ha lx
     obtain⟨b1,b2,b3⟩:=dK hb ly
     have hl:∀l:List AVal,([]:List AVal)=l.drop T.size→T.size≤l.length→l.length=T.size:=fun l h1 h2=>by
      have:=congrArg List.length h1
      simp only[List.length_nil,List.length_drop]at this
      omega
     have hE:=hc.2 w
     have hsc:T.scalar=false:=hc.1.2
     refine M5 hr (run_eqGuard_agg w op t xo yo xs ys hc.1.1) ?_ ⟨rfl,rfl⟩
     refine hE.2.2 (F false) a b _ _ ?_ ?_
     ·unfold sQ;rw[hsc];simp only[Bool.false_eq_true,if_false];exact⟨xs,rfl,by rw[sx,hl cs a2 a3],a1⟩
     ·unfold sQ;rw[hsc];simp only[Bool.false_eq_true,if_false];exact⟨ys,rfl,by rw[sy,hl ds b2 b3],b1⟩
    ·cases h
   ·cases h
  ·cases h
 ·rename_i A q
  split at h
  ·rename_i r' hr
   cases h
   simp only[V]at hu hv
   cases q with
   | none =>
    have e:u = .pointer none:=hu.2.symm
    exact⟨rfl,ptr e hv hc (.inl ⟨rfl,rfl⟩) hr⟩
   | some y =>
    obtain⟨_,b,e,_⟩:=hu
    exact⟨rfl,ptr e.symm hv hc (.inr ⟨rfl,rfl,rfl⟩) hr⟩
  ·cases h
 ·split at h
  ·rename_i b h1 h2
   split at h
   ·rename_i r' hr
    cases h
    obtain⟨q,e1,e2⟩:=mQ h1 hu
    obtain⟨q',e3,e4⟩:=mQ h2 hv
    exact⟨rfl,ptr e1 e3 hc (.inl ⟨e2,e4⟩) hr⟩
   ·cases h
  ·rename_i h1 h2
   split at h
   ·rename_i r' hr
    cases h
    obtain⟨q,e1,e2⟩:=mQ h1 hu
    obtain⟨q',e3,e4⟩:=mQ h2 hv
    exact⟨rfl,ptr e1 e3 hc (.inr ⟨e2,e4,rfl⟩) hr⟩
   ·cases h
  ·split at h
   ·split at h
    ·rename_i r' hr
     cases h
     simp only[V]at hu hv
     subst hu hv
     obtain⟨ms,hms⟩:=hc
     refine⟨rfl,M5 hr (b7 (by intro cs e;cases e) (by intro e;cases e)) ?_ ⟨rfl,rfl⟩⟩
     unfold Op.equal Op.maxDepth
     exact aB7 9999 hms _ _
    ·cases h
   ·cases h
theorem aDI(m:Mem Bw w0 ρ φ h w){o:Oper}{xo:Operand}{xt at':TypeId}{ok:Bool}(ho:o.op = .typeAssert xo xt at' ok){x:AVal}(hx:V (Fr (own φ h) Bw w) ρ x (a.eval xo)){y:AVal}{u:jJ}{c:Prop}
  (hd:G4 P x at' ok=some (y,u,c)) (hc:c):Good P o a w (Post Bw w0 ρ φ h w new y u):=by
 unfold G4 at hd
 split at hd
 ·rename_i t v
  split at hd
  ·rename_i q
   obtain⟨rfl,rfl⟩:=q
   cases hd
   obtain⟨d,hd,hi⟩:=hc
   simp only[V]at hx
   refine Good.of_run (v:= .tuple #[v,.bool true]) (w':=w) ?_ (Post.pure m ?_)
   ·simp only[execOp,ho,hx]
    simp only[Instr.typeAssert,Sem.run_bind,run_underlying hd,Result.andThen_ok]
    cases d <;> first | (simp at hi;done) | (simp;done)
   ·simp only[V,VL]
    exact⟨_,rfl,rfl,⟨v,by simp,aCy v⟩,⟨.bool true,by simp,by simp only[V,Vcells];exact⟨rfl,trivial⟩⟩,trivial⟩
  ·cases hd
 ·cases hd
theorem aGa(htb:TabOK P tb)(m:Mem Bw w0 ρ φ h w)(hs:Slots n (Fr (own φ h) Bw w) ρ s a)(hn8:∀j,j<8→ρ (new+j)=none){o:Oper}{asm:Option Bool}{orc:Option Orc}(hdie:aHa orc=none){x:AVal}{u:jJ}{c:Prop}
  (hd:i6 P tb new asm orc o.op s h=some (x,u,c)) (hc:c):Good P o a w (Post Bw w0 ρ φ h w new x u):=by
 have hn:ρ new=none:=hn8 0 (by omega)
 unfold i6 at hd
 split at hd
 ·rename_i x' ho;cases hd;exact aAO m (bD hs _) (.inl ho)
 ·rename_i x' ho;cases hd;exact aAO m (bD hs _) (.inr ho)
 ·rename_i co xo yo ho
  unfold aBK at hd
  split at hd
  ·rename_i b β b' e
   cases hd
   subst hc
   have:=bD hs co
   rw[e]at this
   exact G0 m this (bD hs _) ho
  ·rename_i β b' e
   have:=bD hs co
   rw[e]at this
   split at hd
   ·cases hd
    exact G0 (b:=true) m this (bD hs _) ho
   ·cases hd
    exact G0 (b:=false) m this (bD hs _) ho
  ·cases hd
 ·rename_i t ho
  unfold aCn at hd
  split at hd
  ·rename_i ti ht
   cases hd
   exact aED m hn (htb.find ht) ho
  ·cases hd
 ·rename_i t xo ho
  unfold aHQ at hd
  split at hd
  ·rename_i hcell
   cases hd
   exact aHS m hn (bD hs xo) hcell ho _
  ·cases hd
 ·rename_i t ps ho
  unfold tX at hd
  split at hd
  ·rename_i ti ht
   split at hd
   ·rename_i fs hk
    split at hd
    ·rename_i ds hds
     cases hd
     have:=kO hs (ps.toList.map (·.2))
     simp only[List.map_map]at this
     exact W5 m htb (htb.find ht) hk ho this hds
    ·cases hd
   ·rename_i n e hk
    split at hd
    ·rename_i te hte
     split at hd
     ·rename_i ds hds
      cases hd
      have:=kO hs (ps.toList.map (·.2))
      simp only[List.map_map]at this
      exact H6 m htb (htb.find ht) hk (htb.find hte) ho this hds
     ·cases hd
    ·cases hd
   ·cases hd
  ·cases hd
 ·rename_i t len ps ho
  unfold pB at hd
  split at hd
  ·rename_i e te A het
   obtain⟨ti,h1,_,h2,h3,h4,h5⟩:=cF htb het
   split at hd
   ·rename_i hcond
    split at hd
    ·rename_i ys us hys
     cases hd
     have:=kO hs (ps.toList.map (·.2))
     simp only[List.map_map]at this
     exact L9 m hn h1 h2 h3 h4 h5 ho hcond.1 this (fun x hx=>aEe ((List.all_eq_true.1 hcond.2.1) x hx)) hys hcond.2.2
    ·cases hd
   ·cases hd
  ·cases hd
 ·rename_i t xo ho
  unfold aBL at hd
  split at hd
  ·rename_i ti ht
   split at hd
   ·rename_i cs off c' hcs
    split at hd
    ·rename_i y hy
     cases hd
     exact aGl m (htb.find ht) (bD hs xo) ho hcs hc hy
    ·cases hd
   ·split at hd
    ·rename_i r0 hd0
     cases hd
     exact aG3 m (htb.find ht) (bD hs xo) ho hd0
    ·exact aF5 m hn (htb.find ht) (bD hs xo) ho hd hc
  ·cases hd
 ·rename_i t xo yo ho
  unfold uV at hd
  split at hd
  ·rename_i ti ht
   split at hd
   ·rename_i hcond
    split at hd
    ·rename_i id i sz off ex
     have hx:=bD hs xo
     rw[ex]at hx
     split at hd
     ·rename_i cs hi
      split at hd
      ·rename_i hfit
       cases hd
       exact V5 m (htb.find ht) hx (bD hs yo) hcond.1 ho hi hcond.2 hfit
      ·cases hd
     ·rename_i e A xs hi
      split at hd
      ·rename_i hsz
       split at hd
       ·rename_i z us hz
        split at hd
        ·rename_i hus
         cases hd
         rw[hsz.1]at hx
         exact U7 m (htb.find ht) hx (bD hs yo) hcond.1 ho hz hi (by rw[Q3 hus];exact hi) hcond.2 hsz.2 hc
        ·cases hd
       ·cases hd
      ·cases hd
     ·rename_i e e2 A xss hole hi
      split at hd
      ·rename_i hsz
       obtain⟨rfl,rfl⟩:=hsz
       exact aHK m (htb.find ht) hx (bD hs yo) hcond.2 ho hi hd hc
      ·cases hd
     ·rename_i e xs hi
      split at hd
      ·rename_i hsz
       obtain⟨rfl,rfl,hs1⟩:=hsz
       split at hd
       ·rename_i β v ey
        have hy:=bD hs yo
        rw[ey]at hy
        cases hd
        exact E5 m (htb.find ht) hs1 hx hy ho hi hc
       ·cases hd
      ·cases hd
     ·cases hd
    ·exact aHz m (htb.find ht) (bD hs xo) (bD hs yo) ho hd
   ·cases hd
  ·cases hd
 ·rename_i op t xo yo t' ho
  unfold aHJ at hd
  split at hd
  ·rename_i ti ht
   split at hd
   ·rename_i r c' hr
    cases hd
    obtain⟨z,h1,h2⟩:=aFW (P:=P) (w:=w) (htb.find ht) hr hc (bD hs xo) (bD hs yo) xo yo
    exact Good.of_run (v:=z) (w':=w) (by simp only[execOp,ho];rw[Sem.run_bind,h1];rfl) (Post.pure m h2)
   ·obtain⟨hu,z,h1,h2⟩:=aDl (P:=P) (w:=w) hd hc (bD hs xo) (bD hs yo) xo yo
    subst hu
    exact Good.of_run (v:=z) (w':=w) (by simp only[execOp,ho];rw[Sem.run_bind,h1];rfl) (Post.pure m h2)
  ·cases hd
 ·rename_i xo ho
  have hx:=bD hs xo
  unfold aHo at hd
  split at hd
  ·rename_i id i sz off ex
   cases hd
   rw[ex]at hx
   obtain⟨g,h1,h2⟩:∃g,_∧a.eval xo = .pointer (some ⟨g,i*sz+off,none⟩):=by simpa only [V]using hx
   exact Good.of_run (v:=a.eval xo) (w':=w) (by simp only[execOp,ho,h2];rfl) (Post.pure m hx)
  ·rename_i β cs off ex
   cases hd
   rw[ex]at hx
   obtain⟨ad,h1,h2⟩:∃ad:Addr,a.eval xo = .pointer (some (ad.add off))∧_:=by simpa only [V]using hx
   exact Good.of_run (v:=a.eval xo) (w':=w) (by simp only[execOp,ho,h1];rfl) (Post.pure m hx)
  ·rename_i β A q ex
   cases hd
   rw[ex]at hx
   cases q with
   | none=>cases hc
   | some y =>
    obtain⟨_,b,e,hv⟩:_∧∃b:Addr,Value.pointer (some b)=a.eval xo∧Vcells (Fr (own φ h) Bw w β) A y (fun k v=>Fr (own φ h) Bw w β (b.add k) v):=by simpa only [V,Vcells]using hx
    refine Good.of_run (v:=a.eval xo) (w':=w) (by simp only[execOp,ho,←e];rfl) (Post.pure m ?_)
    simp only[V,Option.getD_some]
    exact⟨b,by rw[←e];unfold Addr.add;simp,lA β A y _ hv⟩
  ·cases hd
 ·rename_i op t xo ho
  unfold aI7 at hd
  split at hd
  ·rename_i r hr
   cases hd
   obtain⟨z,h1,h2⟩:=aDv (P:=P) (w:=w) hr (bD hs xo)
   exact Good.of_run (v:=z) (w':=w) (by simp only[execOp,ho];rw[Sem.run_bind,h1];rfl) (Post.pure m h2)
  ·cases hd
 ·rename_i st dt xo ho
  split at hd
  ·unfold aCc at hd
   split at hd
   ·rename_i si hsi
    split at hd
    ·rename_i di hdi
     split at hd
     ·rename_i r hr
      cases hd
      obtain⟨dd,hd1,hd2⟩:=(htb.find hdi).hu
      unfold aHI at hr
      split at hr
      ·rename_i β l ex
       have hx:=bD hs xo
       rw[ex]at hx
       split at hr
       ·rename_i e hk
        split at hr
        ·rename_i hu8
         cases hr
         rw[hk]at hd2
         simp only[UK]at hd2
         subst hd2
         simp only[aGB]at hu8
         split at hu8
         ·rename_i te hte
          obtain⟨d,q1,q2⟩:=(htb.find hte).hu
          split at hu8
          ·rename_i hk2
           rw[hk2]at q2
           simp only[UK]at q2
           exact aEo m (htb.find hsi) hd1 (by rw[q1,q2]) ho hx
          ·cases hu8
         ·cases hu8
        ·cases hr
       ·cases hr
      ·rename_i β k n ex
       have hx:=bD hs xo
       rw[ex]at hx
       split at hr
       ·rename_i hk
        cases hr
        rw[hk]at hd2
        simp only[UK]at hd2
        subst hd2
        exact aGz m (htb.find hsi) hd1 ho hx
       ·cases hr
      ·cases hr
     split at hd
     ·rename_i hu8
      split at hd
      ·rename_i r hr
       cases hd
       obtain⟨z,h1,h2⟩:=aEV (P:=P) m (htb.find hsi) (htb.find hdi) (fun e he=>by
        rw[he]at hu8
        simp only[aGB]at hu8
        split at hu8
        ·rename_i te hte
         obtain⟨d,q1,q2⟩:=(htb.find hte).hu
         split at hu8
         ·rename_i hk
          rw[hk]at q2
          simp only[UK]at q2
          rw[q1,q2]
         ·cases hu8
        ·cases hu8) hr (bD hs xo)
       exact Good.of_run (v:=z) (w':=w) (by simp only[execOp,ho];rw[Sem.run_bind,h1];rfl) (Post.pure m h2)
      ·cases hd
     ·cases hd
    ·cases hd
   ·cases hd
  ·unfold aDx at hd
   split at hd
   ·rename_i si hsi
    split at hd
    ·rename_i di hdi
     obtain⟨dd,hd1,hd2⟩:=(htb.find hdi).hu
     split at hd
     ·rename_i β l ex
      have hx:=bD hs xo
      rw[ex]at hx
      split at hd
      ·rename_i e hk
       split at hd
       ·rename_i hu8
        cases hd
        rw[hk]at hd2
        simp only[UK]at hd2
        subst hd2
        simp only[aGB]at hu8
        split at hu8
        ·rename_i te hte
         obtain⟨d,q1,q2⟩:=(htb.find hte).hu
         split at hu8
         ·rename_i hk2
          rw[hk2]at q2
          simp only[UK]at q2
          exact aDM m hn (htb.find hsi) hd1 (by rw[q1,q2]) ho hx
         ·cases hu8
        ·cases hu8
       ·cases hd
      ·cases hd
     ·cases hd
    ·cases hd
   ·cases hd
 ·rename_i t xo lo hi ho
  unfold tR at hd
  split at hd
  ·rename_i ti ht
   split at hd
   ·rename_i l r hl hr
    have hl':=yD hs hl
    have hr':=yD hs hr
    have hx:=bD hs xo
    split at hd
    ·rename_i β str ex
     rw[ex]at hx
     split at hd
     ·rename_i hk
      cases hd
      exact S0 m (htb.find ht) hk ho hx hl' hr' hc.1 hc.2.1 hc.2.2
     ·cases hd
    ·rename_i β A xs ex
     rw[ex]at hx
     split at hd
     ·rename_i _ _ B het
      obtain⟨ti',h1,h1',h2,h3,h4,h5⟩:=cF htb het
      split at hd
      ·rename_i hAB
       subst hAB
       cases hd
       exact sS m h1 h2 h3 h4 ho hx hl' hr' hc.1 hc.2.1 hc.2.2
      ·cases hd
     ·cases hd
    ·rename_i id ex
     rw[ex]at hx
     split at hd
     ·rename_i e A xs hid
      split at hd
      ·rename_i _ _ _ het
       obtain⟨ti',h1,h1',h2,h3,h4,h5⟩:=cF htb het
       split at hd
       ·rename_i k
        cases hd
        cases lo with
        | some _=>exact hl'.elim
        | none =>
         cases hi with
         | none=>exact hr'.elim
         | some hio =>
          obtain⟨β,kk,hv⟩:=hr'
          exact R1 m hn h1 h2 h3 (A:=A) ho hid hx hv hc.1 hc.2
       ·cases hd
      ·cases hd
     ·rename_i A xs hid
      split at hd
      ·rename_i _ _ B het
       obtain⟨ti',h1,h1',h2,h3,h4,h5⟩:=cF htb het
       split at hd
       ·rename_i hAB
        subst hAB
        cases hd
        obtain⟨u,q1,q2⟩:=m.ob id _ hid
        simp only[V]at hx
        rw[hx.1]at q1
        cases q1
        exact sS m h1 h2 h3 h4 ho q2 hl' hr' hc.1 hc.2.1 hc.2.2
       ·cases hd
      ·cases hd
     ·cases hd
    ·rename_i ex
     rw[ex]at hx
     split at hd
     ·rename_i _ _ A het
      obtain⟨ti',h1,h1',h2,h3,h4,h5⟩:=cF htb het
      cases hd
      exact O8 m h1 h2 h3 ho hx hl' hr' hc.1 hc.2.1 hc.2.2
     ·cases hd
    ·cases hd
   ·cases hd
  ·cases hd
 ·rename_i t xo lo hi mx ho
  split at hd
  ·unfold E7 at hd
   split at hd
   ·rename_i _ _ B l r q het hl hr hq
    obtain⟨ti',h1,h1',h2,h3,h4,h5⟩:=cF htb het
    have hl':=yD hs hl
    obtain⟨β1,k1,hr'⟩:=oR hr (bD hs hi)
    obtain⟨β2,k2,hq'⟩:=oR hq (bD hs mx)
    have hx:=bD hs xo
    split at hd
    ·rename_i β A xs ex
     rw[ex]at hx
     split at hd
     ·rename_i hAB
      subst hAB
      cases hd
      exact H7 m h1 h2 h3 h4 ho hx hl' hr' hq' hc.1 hc.2.1 hc.2.2.1 hc.2.2.2
     ·cases hd
    ·rename_i id ex
     rw[ex]at hx
     split at hd
     ·rename_i A xs hid
      split at hd
      ·rename_i hAB
       subst hAB
       cases hd
       obtain⟨u,q1,q2⟩:=m.ob id _ hid
       simp only[V]at hx
       rw[hx.1]at q1
       cases q1
       exact H7 m h1 h2 h3 h4 ho q2 hl' hr' hq' hc.1 hc.2.1 hc.2.2.1 hc.2.2.2
      ·cases hd
     ·cases hd
    ·cases hd
   ·cases hd
  ·unfold aEd at hd
   split at hd
   ·rename_i _ _ B r q het hl hr hq
    obtain⟨ti',h1,h1',h2,h3,h4,h5⟩:=cF htb het
    obtain⟨β1,k1,hr'⟩:=oR hr (bD hs hi)
    obtain⟨β2,k2,hq'⟩:=oR hq (bD hs mx)
    have hx:=bD hs xo
    have hlo:lo=none:=by
     cases lo with
     | none=>rfl
     | some y =>
      simp only[wP]at hl
      split at hl <;> cases hl
    subst hlo
    split at hd
    ·rename_i A xs u' ed
     split at hd
     ·rename_i hAB
      subst hAB
      cases hd
      obtain⟨c1,rfl,c3⟩:=hc
      obtain⟨m',hF,hv⟩:=iQ m ed
      have:=aBY (new:=new) m' hn h1 h2 h3 h4 ho (hv _ hx) (V.mono hF (fun _ _ h=>h) hr') (V.mono hF (fun _ _ h=>h) hq') c1 c3
      exact fun K Q hk'=>this K Q fun v w' hp=>hk' v w' (Post.after rfl hF hp)
     ·cases hd
    ·cases hd
   ·cases hd
 ·rename_i t xo f ho
  unfold aEa at hd
  split at hd
  ·rename_i ti ht
   split at hd
   ·rename_i fs hk
    split at hd
    ·rename_i off ft hf
     split at hd
     ·rename_i id i sz k ex
      cases hd
      exact tQ m (htb.find ht) (bD hs xo) ho hk hf (.inl ⟨_,_,_,_,ex,rfl⟩)
     ·rename_i β cs k ex
      cases hd
      exact tQ m (htb.find ht) (bD hs xo) ho hk hf (.inr ⟨_,_,_,ex,rfl⟩)
     ·cases hd
    ·cases hd
   ·cases hd
  ·cases hd
 ·rename_i t xo io ho
  split at hd
  case h_2=>exact aGe m htb (bD hs xo) (bD hs io) ho hd hc
  rename_i r0 hd0
  cases hd
  revert hd0
  intro hd
  unfold kA at hd
  split at hd
  ·rename_i e te A het
   obtain⟨ti',h1,h1',h2,h3,h4,h5⟩:=cF htb het
   split at hd
   ·rename_i β k i ei
    split at hd
    ·rename_i y sz c' hy
     split at hd
     ·rename_i hsz
      subst hsz
      cases hd
      have hi:=bD hs io
      rw[ei]at hi
      exact O1 m h1 h2 h3 (bD hs xo) hi ho hy hc
     ·cases hd
    ·cases hd
   ·cases hd
  ·cases hd
 ·rename_i t xo io ho
  unfold aD1 at hd
  split at hd
  ·rename_i ti ht
   split at hd
   ·rename_i hk
    split at hd
    ·rename_i β str β' k i ex ei
     cases hd
     have hx:=bD hs xo
     have hi:=bD hs io
     rw[ex]at hx
     rw[ei]at hi
     exact P1 m (htb.find ht) hk hx hi ho hc.1 hc.2
    ·cases hd
   ·rename_i n e hk
    split at hd
    ·rename_i te hte
     split at hd
     ·rename_i k hek
      split at hd
      ·rename_i cs β k' j ex ei
       split at hd
       ·rename_i hn
        split at hd
        ·rename_i l hl
         cases hd
         have hx:=bD hs xo
         have hi:=bD hs io
         rw[ex]at hx
         rw[ei]at hi
         exact aAt m (htb.find ht) hk (htb.find hte) hek hx hl hn hi ho hc
        ·cases hd
       ·cases hd
      ·cases hd
     ·cases hd
    ·cases hd
   ·cases hd
  ·cases hd
 ·rename_i xo i ho
  unfold O7 at hd
  split at hd
  ·rename_i cs ex
   split at hd
   ·rename_i y hy
    cases hd
    have hx:=bD hs xo
    rw[ex]at hx
    exact aBV m hx ho hy
   ·cases hd
  ·cases hd
 ·rename_i xo xt t ok ho
  exact aDI m ho (bD hs xo) hd hc
 ·rename_i fn first caps ho
  unfold aFB at hd
  split at hd
  ·rename_i f e
   cases hd
   have e':first = #[]:=Array.ext' e
   subst e'
   exact aAp m ho (kO hs _)
  ·cases hd
 ·rename_i t lo co ho
  unfold aFw at hd
  split at hd
  ·rename_i e te A het
   obtain⟨ti',h1,h1',h2,h3,h4,h5⟩:=cF htb het
   split at hd
   ·rename_i β k l β' k' c' el ec
    cases hd
    have hl:=bD hs lo
    have hcc:=bD hs co
    rw[el]at hl
    rw[ec]at hcc
    exact aGt m hn h1 h2 h3 h4 h5 ho hl hcc hc.1 hc.2.1 hc.2.2.1 hc.2.2.2
   ·cases hd
  ·cases hd
 ·rename_i t ho
  split at hd
  ·rename_i r hs0
   cases hd
   have hd:=hs0
   unfold T6 at hd
   split at hd
   ·rename_i K A c' hm
    cases hd
    obtain⟨ti,kt,et,te,h1,h2,h3,h5,h6⟩:=qX htb hm hc
    exact aBv m hn h3.isKey ho
   ·cases hd
  ·unfold I4 at hd
   split at hd
   ·rename_i K c' hm
    cases hd
    obtain⟨ti,kt,et,te,h1,h2,h3,h5⟩:=sG htb hm hc
    exact aAH m hn h3.isKey ho
   ·cases hd
 ·rename_i t xo ko ok ho
  split at hd
  ·rename_i r hs0
   cases hd
   have hd:=hs0
   unfold pT at hd
   split at hd
   ·rename_i K A c' hm
    split at hd
    ·rename_i id ex
     split at hd
     ·rename_i K1 A1 kv hi
      split at hd
      ·rename_i i hk1
       split at hd
       ·rename_i q
        obtain⟨rfl,rfl⟩:=q
        cases hd
        obtain⟨ti,kt,et,te,h1,h2,h3,h5,h6⟩:=qX htb hm hc
        have hx:=bD hs xo
        have hk:=bD hs ko
        rw[ex]at hx
        exact aDV m h1 h2 h3 h5 h6 ho hi hx (iO hk1 h3.isKey hk)
       ·cases hd
      ·cases hd
     ·cases hd
    ·cases hd
   ·cases hd
  ·unfold oA at hd
   split at hd
   ·rename_i K c' hm
    split at hd
    ·rename_i id ex
     split at hd
     ·rename_i K1 kv hi
      split at hd
      ·rename_i i j hk1 _
       split at hd
       ·rename_i q
        obtain⟨rfl,rfl⟩:=q
        cases hd
        obtain⟨ti,kt,et,te,h1,h2,h3,h5⟩:=sG htb hm hc.1
        have hx:=bD hs xo
        have hk:=bD hs ko
        rw[ex]at hx
        rw[←V3 hc.2]
        exact aBz m h1 h2 h3 h5 ho hi hx (iO hk1 h3.isKey hk)
       ·cases hd
      ·cases hd
     ·cases hd
    ·cases hd
   ·cases hd
 ·rename_i t xo ko yo ho
  split at hd
  ·rename_i r hs0
   cases hd
   have hd:=hs0
   unfold gL at hd
   split at hd
   ·rename_i K A c' hm
    split at hd
    ·rename_i id ex
     split at hd
     ·rename_i K1 A1 kv hi
      split at hd
      ·rename_i i hk1
       split at hd
       ·rename_i q
        obtain⟨rfl,rfl,hc1,hc2⟩:=q
        split at hd
        ·rename_i z us hz
         split at hd
         ·rename_i hus
          cases hd
          obtain⟨ti,kt,et,te,h1,h2,h3,h5,h6⟩:=qX htb hm hc
          have hx:=bD hs xo
          have hk:=bD hs ko
          rw[ex]at hx
          exact tM m h1 h2 h3 (.inl ho) hi (by rw[Q3 hus];exact hi) hx (iO hk1 h3.isKey hk) (bD hs yo) hc1 hc2 hz
         ·cases hd
        ·cases hd
       ·cases hd
      ·cases hd
     ·cases hd
    ·cases hd
   ·cases hd
  ·unfold fP at hd
   split at hd
   ·rename_i K c' hm
    split at hd
    ·rename_i id ex
     split at hd
     ·rename_i K1 kv hi
      split at hd
      ·rename_i i v hk1 hv1
       split at hd
       ·rename_i q
        obtain⟨rfl,q2⟩:=q
        cases hd
        obtain⟨ti,kt,et,te,h1,h2,h3,h5⟩:=sG htb hm hc
        have hx:=bD hs xo
        have hk:=bD hs ko
        rw[ex]at hx
        refine sM m h1 h2 h3 (.inl ho) hi hx (iO hk1 h3.isKey hk) (J0 hv1 (bD hs yo)) (fun p hp e=> ?_)
        have:=List.all_eq_true.1 q2 p hp
        rw[(gA h3.isKey).2 e]at this
        cases this
       ·cases hd
      ·cases hd
     ·cases hd
    ·cases hd
   ·cases hd
 ·rename_i t xo ko yo ho
  split at hd
  ·rename_i r hs0
   cases hd
   have hd:=hs0
   unfold gL at hd
   split at hd
   ·rename_i K A c' hm
    split at hd
    ·rename_i id ex
     split at hd
     ·rename_i K1 A1 kv hi
      split at hd
      ·rename_i i hk1
       split at hd
       ·rename_i q
        obtain⟨rfl,rfl,hc1,hc2⟩:=q
        split at hd
        ·rename_i z us hz
         split at hd
         ·rename_i hus
          cases hd
          obtain⟨ti,kt,et,te,h1,h2,h3,h5,h6⟩:=qX htb hm hc
          have hx:=bD hs xo
          have hk:=bD hs ko
          rw[ex]at hx
          exact tM m h1 h2 h3 (.inr ho) hi (by rw[Q3 hus];exact hi) hx (iO hk1 h3.isKey hk) (bD hs yo) hc1 hc2 hz
         ·cases hd
        ·cases hd
       ·cases hd
      ·cases hd
     ·cases hd
    ·cases hd
   ·cases hd
  ·unfold fP at hd
   split at hd
   ·rename_i K c' hm
    split at hd
    ·rename_i id ex
     split at hd
     ·rename_i K1 kv hi
      split at hd
      ·rename_i i v hk1 hv1
       split at hd
       ·rename_i q
        obtain⟨rfl,q2⟩:=q
        cases hd
        obtain⟨ti,kt,et,te,h1,h2,h3,h5⟩:=sG htb hm hc
        have hx:=bD hs xo
        have hk:=bD hs ko
        rw[ex]at hx
        refine sM m h1 h2 h3 (.inr ho) hi hx (iO hk1 h3.isKey hk) (J0 hv1 (bD hs yo)) (fun p hp e=> ?_)
        have:=List.all_eq_true.1 q2 p hp
        rw[(gA h3.isKey).2 e]at this
        cases this
       ·cases hd
      ·cases hd
     ·cases hd
    ·cases hd
   ·cases hd
 ·rename_i c ho
  obtain⟨callee,args,tys⟩:=c
  unfold wE at hd
  simp only at hd
  split at hd
  ·rename_i b
   unfold yH at hd
   split at hd
   ·rename_i x0 t ex et
    obtain⟨xo,eargs,rfl⟩:∃xo,args = #[xo]∧ev s xo=x0:=by
     match hargs:args.toList,ex with
     | [xo],ex=>exact⟨xo,Array.ext' hargs,by simpa using ex⟩
    have etys:tys = #[t]:=Array.ext' et
    subst eargs etys
    split at hd
    ·unfold G3 at hd
     split at hd
     ·rename_i ti ht
      split at hd
      ·rename_i kt et id hk ex
       split at hd
       ·rename_i K A kv hi
        cases hd
        have hx:=bD hs xo
        rw[ex]at hx
        exact aBy m (htb.find ht) hk hi hx ho
       ·cases hd
      ·cases hd
     ·cases hd
    unfold aEt at hd
    split at hd
    ·rename_i ti ht
     split at hd
     ·rename_i k hk
      split at hd
      ·rename_i e he
       split at hd
       ·cases hd
       ·rename_i hstr
        cases hd
        refine aD2 m (htb.find ht) (.inl ⟨e,he⟩) (bD hs xo) ho hk ⟨fun h=>(by rw[he]at h;cases h),fun⟨β,str,ex⟩=> ?_⟩
        rw[ex]at hstr
        exact absurd rfl hstr
      ·rename_i he
       split at hd
       ·rename_i hstr
        cases hd
        refine aD2 m (htb.find ht) (.inr he) (bD hs xo) ho hk ⟨fun _=> ?_,fun _=>he⟩
        unfold aGR at hstr
        split at hstr
        ·rename_i β str ex;exact⟨β,str,ex⟩
        ·cases hstr
       ·cases hd
      ·cases hd
     ·cases hd
    ·cases hd
   ·rename_i x0 y0 ex
    obtain⟨xo,yo,eargs,rfl,rfl⟩:∃xo yo,args = #[xo,yo]∧ev s xo=x0∧ev s yo=y0:=by
     match hargs:args.toList,ex with
     | [xo,yo],ex=>exact⟨xo,yo,Array.ext' hargs,by simp at ex;exact ex.1,by simp at ex;exact ex.2⟩
    subst eargs
    unfold aFk at hd
    split at hd
    ·rename_i β k i β' k' j ex ey
     split at hd
     ·rename_i hkk
      subst hkk
      cases hd
      have hx:=bD hs xo
      have hy:=bD hs yo
      rw[ex]at hx
      rw[ey]at hy
      exact aGL m hx hy ho
     ·cases hd
    ·cases hd
   ·rename_i x0 y0 ex
    obtain⟨xo,yo,eargs,rfl,rfl⟩:∃xo yo,args = #[xo,yo]∧ev s xo=x0∧ev s yo=y0:=by
     match hargs:args.toList,ex with
     | [xo,yo],ex=>exact⟨xo,yo,Array.ext' hargs,by simp at ex;exact ex.1,by simp at ex;exact ex.2⟩
    subst eargs
    unfold aFk at hd
    split at hd
    ·rename_i β k i β' k' j ex ey
     split at hd
     ·rename_i hkk
      subst hkk
      cases hd
      have hx:=bD hs xo
      have hy:=bD hs yo
      rw[ex]at hx
      rw[ey]at hy
      exact aHg m hx hy ho
     ·cases hd
    ·cases hd
   ·rename_i x0 y0 t t' ex et
    obtain⟨xo,yo,eargs,rfl,rfl⟩:∃xo yo,args = #[xo,yo]∧ev s xo=x0∧ev s yo=y0:=by
     match hargs:args.toList,ex with
     | [xo,yo],ex=>exact⟨xo,yo,Array.ext' hargs,by simp at ex;exact ex.1,by simp at ex;exact ex.2⟩
    have etys:tys = #[t,t']:=Array.ext' et
    subst eargs etys
    split at hd
    ·rename_i htt
     subst htt
     unfold pY at hd
     split at hd
     ·rename_i e te A het
      obtain⟨ti',h1,h1',h2,h3,h4,h5⟩:=cF htb het
      split at hd
      ·rename_i ys hys
       split at hd
       ·rename_i ex
        cases hd
        exact I8 m hn h1 h2 h3 h4 h5 (bD hs xo) (bD hs yo) ho (xs:=[]) (.inl ⟨ex,rfl,rfl,rfl⟩) hys hc.1 hc.2
       ·rename_i id ex
        split at hd
        ·rename_i e' B xs hid
         split at hd
         ·rename_i hBA
          subst hBA
          split at hd
          ·rename_i hee
           subst hee
           simp only[Option.some.injEq,Prod.mk.injEq]at hd
           obtain⟨rfl,rfl,rfl⟩:=hd
           exact I8 m hn h1 h2 h3 h4 h5 (bD hs xo) (bD hs yo) ho (xs:=xs) (.inr ⟨id,ex,hid,rfl,rfl⟩) hys hc.1 hc.2
          ·cases hd
         ·cases hd
        ·rename_i B xs hid
         split at hd
         ·rename_i hBA
          subst hBA
          simp only[Option.some.injEq,Prod.mk.injEq]at hd
          obtain⟨rfl,rfl,rfl⟩:=hd
          have hx:=bD hs xo
          rw[ex]at hx
          exact R7 m hn h1 h2 h3 h4 h5 hx (bD hs yo) ho hid hys hc.1 hc.2.1 hc.2.2
         ·cases hd
        ·cases hd
       ·cases hd
      ·cases hd
     ·cases hd
    ·cases hd
   ·rename_i x0 y0 t t' ex et
    obtain⟨xo,yo,eargs,rfl,rfl⟩:∃xo yo,args = #[xo,yo]∧ev s xo=x0∧ev s yo=y0:=by
     match hargs:args.toList,ex with
     | [xo,yo],ex=>exact⟨xo,yo,Array.ext' hargs,by simp at ex;exact ex.1,by simp at ex;exact ex.2⟩
    have etys:tys = #[t,t']:=Array.ext' et
    subst eargs etys
    unfold zQ at hd
    split at hd
    ·rename_i e te A het
     obtain⟨ti',h1,h1',h2,h3,h4,h5⟩:=cF htb het
     split at hd
     ·rename_i ys hys
      split at hd
      ·rename_i id ex
       split at hd
       ·rename_i e' B xs hid
        split at hd
        ·rename_i hBA
         subst hBA
         simp only[Option.some.injEq,Prod.mk.injEq]at hd
         obtain⟨rfl,rfl,rfl⟩:=hd
         have hx:=bD hs xo
         rw[ex]at hx
         exact aFO m h1 h2 h3 h4 hx (bD hs yo) ho hid hys
        ·cases hd
       ·cases hd
      ·cases hd
     ·cases hd
    ·cases hd
   ·cases hd
  ·rename_i fo
   unfold N0 at hd
   split at hd
   ·rename_i fid caps q ef
    split at hd
    ·rename_i ys u' hfz
     have hf:=R3 (bD hs fo)
     rw[ef]at hf
     obtain⟨q1,q2,q3⟩:=rZ m hfz
     split at hd
     ·split at hd
      ·split at hd
       ·rename_i args' hin hl hi
        split at hd
        ·rename_i hok
         cases hd
         have hc:Owns P fid args' hin q.r q.hout:=by
          unfold P3 at hc
          rw[show q.die=none from hdie]at hc
          exact hc
         have hg:=aG5 (new:=new) q1 hn8 ho (V.mono q2 (fun _ _ h=>h) hf) (q3 _ (kR (kO hs args.toList))) hl hi hok hc
         refine fun K Q hk=>hg K Q fun v w' hp=>hk v w' ?_
         exact Post.after (h:=h) (u1:=u') rfl q2 hp
        ·cases hd
       ·cases hd
      ·cases hd
     ·split at hd
      ·rename_i args' hl
       cases hd
       have hg:=aGc (new:=new) q1 ho (V.mono q2 (fun _ _ h=>h) hf) (q3 _ (kR (kO hs args.toList))) hl hc
       refine fun K Q hk=>hg K Q fun v w' hp=>hk v w' ?_
       have:=Post.after (h:=h) (u1:=u) rfl q2 hp
       simpa using this
      ·cases hd
    ·cases hd
   ·cases hd
  ·cases hd
 ·cases hd
def aJg:AVal→Bool
 | .unk=>true
 | _=>false
def aCU(op:Op)(orc:Option Orc):Option Value :=
 match op,orc with
 | .call c,some q=>match c.callee with
  | .value _=>if q.own && aJg q.r && q.hout.isEmpty then q.die else none
  | _=>none
 | _,_=>none
theorem aHb(m:Mem Bw w0 ρ φ h w)(hs:Slots n (Fr (own φ h) Bw w) ρ s a)(hn8:∀j,j<8→ρ (new+j)=none){o:Oper}{asm:Option Bool}{orc:Option Orc}{y:Value}(hdy:aCU o.op orc=some y){x:AVal}{u:jJ}{c:Prop}
  (hd:i6 P tb new asm orc o.op s h=some (x,u,c)) (hc:c):Bad P o a w y (fun w'=>∃v,Post Bw w0 ρ φ h w new .unk u v w'):=by
 unfold aCU at hdy
 split at hdy
 ·rename_i c0 q ho
  split at hdy
  ·rename_i fo hfo
   split at hdy
   ·rename_i hcond
    simp only[Bool.and_eq_true,List.isEmpty_iff]at hcond
    obtain⟨⟨hown,hunk⟩,hout⟩:=hcond
    obtain⟨callee,args,tys⟩:=c0
    simp only at hfo
    subst hfo
    have hr:q.r = .unk:=by
     unfold aJg at hunk
     split at hunk
     ·assumption
     ·cases hunk
    rw[ho]at hd
    simp only[i6,wE]at hd
    unfold N0 at hd
    split at hd
    ·rename_i fid caps q' ef eq
     cases eq
     split at hd
     ·rename_i ys u' hfz
      have hf:=R3 (bD hs fo)
      rw[ef]at hf
      obtain⟨q1,q2,q3⟩:=rZ m hfz
      rw[if_pos hown]at hd
      split at hd
      ·split at hd
       ·rename_i args' hin hl hi
        split at hd
        ·rename_i hok
         cases hd
         rw[hr,hout]at hok
         have hc:Dies P fid args' hin y:=by
          unfold P3 at hc
          rw[hdy]at hc
          exact hc
         have hg:=aIz (new:=new) q1 hn8 ho (V.mono q2 (fun _ _ h=>h) hf) (q3 _ (kR (kO hs args.toList))) hl hi hok hc
         refine fun K Q hk=>hg K Q fun w' ⟨v,hp⟩=>hk w' ⟨v,?_⟩
         rw[hout]
         exact Post.after (h:=h) (u1:=u') rfl q2 hp
        ·cases hd
       ·cases hd
      ·cases hd
     ·cases hd
    ·cases hd
   ·cases hdy
  ·cases hdy
 ·cases hdy
end
end Go.Tv
