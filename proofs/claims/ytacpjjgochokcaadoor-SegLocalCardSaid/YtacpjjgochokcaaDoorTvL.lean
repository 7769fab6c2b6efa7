/- What an operation comes to, by a function. -/
import Derived.Test.YtacpjjgochokcaaDoorTvKhm
namespace Go.Tv
open Go Go.RowKit
def tR(s:Nat→AVal):Option Operand→Option (Option Int)
 | none=>some none
 | some x=>match ev s x with
  | .p _ (.int _) n=>some (some n)
  | _=>none
def kR(tb:Tab)(t:TypeId):Option (TypeId×TI×Ty) :=
 match tb.find t with
 | some ti=>match ti.k with
  | .sl e=>match tb.find e with
   | some te=>match te.T with
    | some A=>if 0<A.size then some (e,te,A)else none
    | none=>none
   | none=>none
  | _=>none
 | none=>none
def R5(tb:Tab)(new:Nat)(t:TypeId):Option nC :=
 match tb.find t with
 | some ti=>some (.adr new 0 ti.size 0,[(new,some (.box ti.z))],True)
 | none=>none
def aC3(new:Nat)(x:AVal):Option nC :=
 if(cellsOf x).all AVal.cell then some (.adr new 0 (cellsOf x).length 0,[(new,some (.box (cellsOf x)))],True)else none
def Q0(tb:Tab)(t:TypeId)(is:List Nat)(xs:List AVal):Option nC :=
 match tb.find t with
 | some ti=>match ti.k with
  | .st fs=>match jS tb fs (is.zip xs) ti.z with
   | some ds=>some (.agg ds,[],True)
   | none=>none
  | .ar n e=>match tb.find e with
   | some te=>match jS tb ((List.range n).map fun i=>(i*te.size,e)) (is.zip xs) ti.z with
    | some ds=>some (.agg ds,[],True)
    | none=>none
   | none=>none
  | _=>none
 | none=>none
def mZ(tb:Tab)(new:Nat)(t:TypeId)(len:Nat)(is:List Nat)(xs:List AVal)(h:Nat→Option Obj):Option nC :=
 match kR tb t with
 | some (e,te,A) =>
  if is=List.range len∧xs.all (fun x=>(cellsOf x).all AVal.cell)=true∧len*te.size≤16777216 then
   match Q3 A h xs with
   | some (ys,us)=>some (.sl new,us++[(new,some (.arr e A ys))],True)
   | none=>none
  else none
 | none=>none
def nD(ti:TI)(x:AVal)(h:Nat→Option Obj):Option nC :=
 match x,ti.k with
 | .ada id b n i,.int k=>match h id with
  | some (.box cs)=>if b+n≤cs.length then(match sP k ((cs.drop b).take n)with
   | some l=>some (.p false (.int k) (l.getD i 0),[],True)
   | none=>none)else none
  | _=>none
 | _,_=>none
def lQ(ti:TI)(x y:AVal)(h:Nat→Option Obj):Option nC :=
 match x,y with
 | .ada id b n i,.p _ (.int k) v=>match h id with
  | some (.box cs)=>if b+n≤cs.length∧ti.size=1 then(match sP k ((cs.drop b).take n)with
   | some l=>some (.unk,[(id,some (.box (cs.take b++zW k i v 0 l++cs.drop (b+n))))],True)
   | none=>none)else none
  | _=>none
 | _,_=>none
def lR(tb:Tab)(t:TypeId)(x i:AVal)(h:Nat→Option Obj):Option nC :=
 match tb.find t with
 | some ti=>match ti.k with
  | .ar n e=>match tb.find e with
   | some te=>if te.size=1 then(match x,i with
    | .adr id j sz off,.p _ (.int _) m=>match h id with
     | some (.box _)=>some (.ada id (j*sz+off) n (show Int from m).toNat,[],0≤(show Int from m)∧(show Int from m)<(n:Int))
     | _=>none
    | .ada id b N p,.p _ (.int _) m=>some (.ada id b N (p+(show Int from m).toNat),[],(0≤(show Int from m)∧(show Int from m)<(n:Int))∧p+(show Int from m).toNat<N)
    | _,_=>none)else if 0<te.size then(match x,i with
    | .adr id j sz off,.p _ (.int _) m=>match h id with
     | some (.box _)=>some (.ada id (j*sz+off) (n*te.size) ((show Int from m).toNat*te.size),[],0≤(show Int from m)∧(show Int from m)<(n:Int))
     | _=>none
    | _,_=>none)else none
   | none=>none
  | _=>none
 | none=>none
def mK(new:Nat)(ti:TI)(x:AVal)(h:Nat→Option Obj):Option nC :=
 match x with
 | .adr id i sz off=>if sz=1∧off=0∧ti.k.agg=false then
   match h id with
   | some (.mat e e2 A xss none)=>some (.sl new,[(id,some (.mat e e2 A xss (some (i,new)))),(new,some (.arr e2 A (xss.getD i [])))],i<xss.length)
   | some (.mat e e2 A xss (some (k,j)))=>match h j with
    | some (.arr e3 B ys)=>if q:B=A then(if e3=e2 then
      some (.sl new,[(j,none),(id,some (.mat e e2 A (xss.set k (q ▸ ys:List A.den)) none))]++[(id,some (.mat e e2 A (xss.set k (q ▸ ys:List A.den)) (some (i,new)))),(new,some (.arr e2 A ((xss.set k (q ▸ ys:List A.den)).getD i [])))],i<xss.length)else none)else none
    | _=>none
   | _=>none
  else none
 | _=>none
def I9(tb:Tab)(new:Nat)(t:TypeId)(x:AVal)(h:Nat→Option Obj):Option nC :=
 match tb.find t with
 | some ti=>match mS h x with
  | some (cs,off,c)=>match tT ti cs off with
   | some y=>some (y,[],c)
   | none=>none
  | none=>match nD ti x h with
   | some r=>some r
   | none=>mK new ti x h
 | none=>none
def u6(id i:Nat)(e e2:TypeId)(A:Ty)(xss:List (List A.den))(hole:Option (Nat×Nat))(y:AVal)(h:Nat→Option Obj):Option nC :=
 match y with
 | .sl r=>match h r with
  | some (.arr e3 B _)=>if B=A∧e3=e2 then
    match hole with
    | none=>some (.unk,[(id,some (.mat e e2 A xss (some (i,r))))],i<xss.length)
    | some (k,j)=>match h j with
     | none=>some (.unk,[(id,some (.mat e e2 A xss (some (i,r))))],k=i∧i<xss.length)
     | some (.arr e4 C ys)=>if q:C=A then(if e4=e2∧j≠r then
       some (.unk,[(j,none),(id,some (.mat e e2 A (xss.set k (q ▸ ys:List A.den)) none))]++[(id,some (.mat e e2 A (xss.set k (q ▸ ys:List A.den)) (some (i,r))))],i<xss.length)else none)else none
     | _=>none
   else none
  | _=>none
 | _=>none
def o5(tb:Tab)(t:TypeId)(x y:AVal)(h:Nat→Option Obj):Option nC :=
 match tb.find t with
 | some ti =>
  if(cellsOf y).all AVal.cell=true∧(cellsOf y).length=ti.size then
   match x with
   | .adr id i sz off=>match h id with
    | some (.box cs)=>if i*sz+off+ti.size≤cs.length then some (.unk,[(id,some (.box (wr cs (i*sz+off) (cellsOf y))))],True)else none
    | some (.arr e A xs) =>
     if sz=A.size∧off+ti.size≤A.size then
      match U7 A h xs i off y with
      | some (z,us)=>if us.all (fun p=>p.1 != id)then some (.unk,us++[(id,some (.arr e A (xs.set i z)))],i<xs.length)else none
      | none=>none
     else none
    | some (.mat e e2 A xss hole)=>if sz=1∧off=0 then u6 id i e e2 A xss hole y h else none
    | _=>none
   | _=>lQ ti x y h
  else none
 | none=>none
def aDi(x:AVal):Option nC :=
 match x with
 | .adr id i sz off=>some (.adr id i sz off,[],True)
 | .fad β cs off=>some (.fad β cs off,[],True)
 | .p β (.ptr A) q=>some (.fad β (i6 β A (q.getD A.zero)) 0,[],q.isSome=true)
 | _=>none
def L8:AVal→Option Bool
 | .nilp=>some true
 | .adr _ _ _ _=>some false
 | .fad _ _ _=>some false
 | _=>none
def eqR(op:BinOp)(b:Bool):Option AVal :=
 match op with
 | .eql=>some (.p false .bool b)
 | .neq=>some (.p false .bool (!b))
 | _=>none
def aCi(P:Program)(ti:TI)(op:BinOp)(t:TypeId)(x y:AVal):Option nC :=
 match x,y with
 | .agg cs,.agg ds=>match ti.T with
  | some T=>match kP T cs,kP T ds with
   | some (a,[]),some (b,[])=>match eqR op (eqE T a b)with
    | some r=>some (r,[],aIr P t T)
    | none=>none
   | _,_=>none
  | none=>none
 | .p _ (.ptr _) q,.nilp=>match eqR op q.isNone with
  | some r=>some (r,[],∃e,P.underlying t=some (.pointer e))
  | none=>none
 | x,y=>match L8 x,L8 y with
  | some true,some b=>match eqR op b with
   | some r=>some (r,[],∃e,P.underlying t=some (.pointer e))
   | none=>none
  | some false,some true=>match eqR op false with
   | some r=>some (r,[],∃e,P.underlying t=some (.pointer e))
   | none=>none
  | _,_=>match x,y with
   | .lit (.iface _ _),.lit .nilIface=>match eqR op false with
    | some r=>some (r,[],∃ms,P.underlying t=some (.interface ms))
    | none=>none
   | _,_=>none
def uO(P:Program)(x:AVal)(at':TypeId)(ok:Bool):Option nC :=
 match x with
 | .lit (.iface t v)=>if t=at'∧ok=true then some (.tup [H6 v,.p false .bool true],[],∃d,P.underlying at'=some d∧(match d with | .interface _=>false | _=>true)=true)else none
 | _=>none
def aCx(P:Program)(tb:Tab)(op:BinOp)(t:TypeId)(x y:AVal):Option nC :=
 match tb.find t with
 | some ti=>match bin ti.k op x y with
  | some (r,c)=>some (r,[],c)
  | none=>aCi P ti op t x y
 | none=>none
def aFj(op:UnOp)(x:AVal):Option nC :=
 match un op x with
 | some r=>some (r,[],True)
 | none=>none
def aE6(tb:Tab)(k:TK):Bool :=
 match k with
 | .sl e=>match tb.find e with
  | some te=>match te.k with
   | .int .u8=>true
   | _=>false
  | none=>false
 | _=>true
def aCs(tb:Tab)(dk:TK)(x:AVal):Option AVal :=
 match x with
 | .p _ .str l=>match dk with
  | .sl e=>if aE6 tb (.sl e)then some (.p false (.slice (.int .u8)) (xM l))else none
  | _=>none
 | .p _ (.int _) n=>match dk with
  | .str=>some (.p false .str (aCJ n))
  | _=>none
 | _=>none
def H7(tb:Tab)(st dt:TypeId)(x:AVal)(h:Nat→Option Obj):Option nC :=
 match tb.find st with
 | some si=>match tb.find dt with
  | some di=>match aCs tb di.k x with
   | some r=>some (r,[],True)
   | none=>if aE6 tb si.k then(match conv si.k di.k h x with
    | some r=>some (r,[],True)
    | none=>none)else none
  | none=>none
 | none=>none
def pU(tb:Tab)(new:Nat)(t:TypeId)(x:AVal)(lo hi:Option (Option Int))(h:Nat→Option Obj):Option nC :=
 match tb.find t with
 | some ti=>match lo,hi with
  | some l,some r=>match x with
   | .p _ .str s=>match ti.k with
    | .str=>some (.p false .str ((s.take (r.getD s.length).toNat).drop (l.getD 0).toNat),[],0≤l.getD 0∧l.getD 0≤r.getD s.length∧r.getD s.length≤s.length)
    | _=>none
   | .p β (.slice A) xs=>match kR tb t with
    | some (_,_,B)=>if A=B then some (.p β (.slice A) ((xs.take (r.getD xs.length).toNat).drop (l.getD 0).toNat),[],0≤l.getD 0∧l.getD 0≤r.getD xs.length∧r.getD xs.length≤xs.length)else none
    | none=>none
   | .sl id=>match h id with
    | some (.arr e A xs)=>match kR tb t with
     | some (_,_,_)=>match l,r with
      | none,some k=>some (.sl new,[(id,none),(new,some (.arr e A (xs.take k.toNat)))],0≤k∧k≤xs.length)
      | _,_=>none
     | none=>none
    | some (.fz A xs)=>match kR tb t with
     | some (_,_,B)=>if A=B then some (.p false (.slice A) ((xs.take (r.getD xs.length).toNat).drop (l.getD 0).toNat),[],0≤l.getD 0∧l.getD 0≤r.getD xs.length∧r.getD xs.length≤xs.length)else none
     | none=>none
    | _=>none
   | .nils=>match kR tb t with
    | some (_,_,_)=>some (.nils,[],0≤l.getD 0∧l.getD 0≤r.getD 0∧r.getD 0≤0)
    | none=>none
   | _=>none
  | _,_=>none
 | none=>none
def aAx:AVal→Option Int
 | .p _ (.int _) n=>some n
 | _=>none
def uH(tb:Tab)(t:TypeId)(x:AVal)(lo:Option (Option Int))(hi mx:AVal)(h:Nat→Option Obj):Option nC :=
 match kR tb t,lo,aAx hi,aAx mx with
 | some (_,_,B),some l,some r,some q=>match x with
  | .p β (.slice A) xs=>if A=B then some (.p β (.slice A) ((xs.take r.toNat).drop (l.getD 0).toNat),[],0≤l.getD 0∧l.getD 0≤r∧r≤q∧q≤xs.length)else none
  | .sl id=>match h id with
   | some (.fz A xs)=>if A=B then some (.p false (.slice A) ((xs.take r.toNat).drop (l.getD 0).toNat),[],0≤l.getD 0∧l.getD 0≤r∧r≤q∧q≤xs.length)else none
   | _=>none
  | _=>none
 | _,_,_,_=>none
def V5(tb:Tab)(t:TypeId)(x:AVal)(f:Nat):Option nC :=
 match tb.find t with
 | some ti=>match ti.k with
  | .st fs=>match fs[f]? with
   | some (off,_)=>match x with
    | .adr id i sz k=>some (.adr id i sz (k+off),[],True)
    | .fad β cs k=>some (.fad β cs (k+off),[],True)
    | _=>none
   | none=>none
  | _=>none
 | none=>none
def jD(tb:Tab)(t:TypeId)(x i:AVal)(h:Nat→Option Obj):Option nC :=
 match kR tb t with
 | some (_,te,_)=>match i with
  | .p _ (.int _) n=>match E4 h x n with
   | some (y,sz,c)=>if sz=te.size then some (y,[],c)else none
   | none=>none
  | _=>none
 | none=>none
def U9(tb:Tab)(t:TypeId)(x i:AVal):Option nC :=
 match tb.find t with
 | some ti=>match ti.k with
  | .str=>match x,i with
   | .p _ .str s,.p _ (.int _) n=>some (.p false (.int .u8) ((s.getD n.toNat 0).toNat:Int),[],0≤n∧n<s.length)
   | _,_=>none
  | .ar n e=>match tb.find e with
   | some te=>match te.k with
    | .int k=>match x,i with
     | .agg cs,.p _ (.int _) m=>if cs.length=n then(match sP k cs with
      | some l=>some (.p false (.int k) (l.getD (show Int from m).toNat 0),[],0≤(show Int from m)∧(show Int from m)<(n:Int))
      | none=>none)else none
     | _,_=>none
    | _=>none
   | none=>none
  | _=>none
 | none=>none
def zK(x:AVal)(i:Nat):Option nC :=
 match x with
 | .tup cs=>match cs[i]? with
  | some y=>some (y,[],True)
  | none=>none
 | _=>none
def aAF(e:TypeId)(te:TI)(A:Ty)(n:Nat):Obj :=
 match A with
 | .slice B=>match te.k,te.z with
  | .sl e2,[.nils]=>if 0<B.size then .mat e e2 B (List.replicate n []) none else .arr e (.slice B) (List.replicate n [])
  | _,_=> .arr e (.slice B) (List.replicate n [])
 | A=> .arr e A (List.replicate n A.zero)
def aAD(tb:Tab)(new:Nat)(t:TypeId)(l c:AVal):Option nC :=
 match kR tb t with
 | some (e,te,A)=>match l,c with
  | .p _ (.int _) n,.p _ (.int _) k=>some (.sl new,[(new,some (aAF e te A n.toNat))],0≤n∧n≤k∧(te.bytes:Int)*k≤281474976710656∧k≤9223372036854775807)
  | _,_=>none
 | none=>none
def aCh:AVal→Bool
 | .p _ .str _=>true
 | _=>false
def aAt(tb:Tab)(t:TypeId)(x:AVal)(h:Nat→Option Obj):Option nC :=
 match tb.find t with
 | some ti=>match lenOf h x with
  | some n=>match ti.k with
   | .sl _=>if aCh x then none else some (.p false (.int .i64) n,[],True)
   | .str=>if aCh x then some (.p false (.int .i64) n,[],True)else none
   | _=>none
  | none=>none
 | none=>none
def nG(tb:Tab)(new:Nat)(t:TypeId)(x y:AVal)(h:Nat→Option Obj):Option nC :=
 match kR tb t with
 | some (e,te,A)=>match jM h A y with
  | some ys=>match x with
   | .nils=>some (.sl new,[(new,some (.arr e A ys))],(([]:List A.den).length+ys.length)*te.bytes≤140737488355328∧([]:List A.den).length+ys.length≤9223372036854775807)
   | .sl id=>match h id with
    | some (.arr e' B xs)=>if q:B=A then(if e'=e then some (.sl new,[(id,none),(new,some (.arr e A ((q ▸ xs:List A.den)++ys)))],((q ▸ xs:List A.den).length+ys.length)*te.bytes≤140737488355328∧(q ▸ xs:List A.den).length+ys.length≤9223372036854775807)else none)else none
    | _=>none
   | _=>none
  | none=>none
 | none=>none
def sN(tb:Tab)(t:TypeId)(x y:AVal)(h:Nat→Option Obj):Option nC :=
 match kR tb t with
 | some (_,_,A)=>match jM h A y with
  | some ys=>match x with
   | .sl id=>match h id with
    | some (.arr e' B xs)=>if q:B=A then some (.p false (.int .i64) ((min ys.length (q ▸ xs:List A.den).length:Nat):Int),[(id,some (.arr e' A (ys.take (q ▸ xs:List A.den).length++(q ▸ xs:List A.den).drop ys.length)))],True)else none
    | _=>none
   | _=>none
  | none=>none
 | none=>none
def aD3(P:Program)(kt:TypeId)(ki:TI):Option (Ty×Prop) :=
 match aER ki.k with
 | some K=>some (K,True)
 | none=>match ki.T with
  | some K=>if K.scalar=false then some (K,KeyOk P kt K)else none
  | none=>none
def aDl(P:Program)(tb:Tab)(t:TypeId):Option (Ty×Ty×Prop) :=
 match tb.find t with
 | some ti=>match ti.k with
  | .mp kt et=>match tb.find kt,tb.find et with
   | some ki,some te=>match aD3 P kt ki,te.T with
    | some (K,c),some A=>some (K,A,c)
    | _,_=>none
   | _,_=>none
  | _=>none
 | none=>none
def u7(K:Ty)(x:AVal):Option K.den :=
 match x with
 | .p _ K2 i=>if q:K2=K then(if K.scalar=true then some (q ▸ i)else none)else none
 | .agg cs=>if K.scalar=false∧cs.length=K.size then match kP K cs with
  | some (k,_)=>some k
  | none=>none
  else none
 | _=>none
def yP(P:Program)(tb:Tab)(new:Nat)(t:TypeId):Option nC :=
 match aDl P tb t with
 | some (K,A,c)=>some (.mp new,[(new,some (.mpo K A []))],c)
 | none=>none
def nK(P:Program)(tb:Tab)(t:TypeId)(x k:AVal)(ok:Bool)(h:Nat→Option Obj):Option nC :=
 match aDl P tb t with
 | some (K,A,c)=>match x with
  | .mp id=>match h id with
   | some (.mpo K1 A1 kv)=>match u7 K1 k with
    | some i=>if K1=K∧A1=A then
     some (if ok then .tup [enc false A1 ((bF K1 kv i).getD A1.zero),.p false .bool (bF K1 kv i).isSome]else enc false A1 ((bF K1 kv i).getD A1.zero),[],c)else none
    | none=>none
   | _=>none
  | _=>none
 | none=>none
def fO(P:Program)(tb:Tab)(t:TypeId)(x k y:AVal)(h:Nat→Option Obj):Option nC :=
 match aDl P tb t with
 | some (K,A,c)=>match x with
  | .mp id=>match h id with
   | some (.mpo K1 A1 kv)=>match u7 K1 k with
    | some i=>if K1=K∧A1=A∧(cellsOf y).all AVal.cell=true∧lE A1 y=true then
     match toT A1 h y with
     | some (z,us)=>if us.all (fun p=>p.1 != id)then some (.unk,us++[(id,some (.mpo K1 A1 (d9 K1 kv i z)))],c)else none
     | none=>none
     else none
    | none=>none
   | _=>none
  | _=>none
 | none=>none
def aDM(P:Program)(tb:Tab)(t:TypeId):Option (Ty×Prop) :=
 match tb.find t with
 | some ti=>match ti.k with
  | .mp kt et=>match tb.find kt,tb.find et with
   | some ki,some te=>match te.T with
    | none=>aD3 P kt ki
    | some _=>none
   | _,_=>none
  | _=>none
 | none=>none
def vJ(P:Program)(tb:Tab)(new:Nat)(t:TypeId):Option nC :=
 match aDM P tb t with
 | some (K,c)=>some (.mp new,[(new,some (.mpl K []))],c)
 | none=>none
def aCu:AVal→Option Value
 | .lit v=>some v
 | .fn f []=>some (.func (.func f) #[] #[])
 | _=>none
def eY(P:Program)(tb:Tab)(t:TypeId)(x k y:AVal)(h:Nat→Option Obj):Option nC :=
 match aDM P tb t with
 | some (K,c)=>match x with
  | .mp id=>match h id with
   | some (.mpl K1 kv)=>match u7 K1 k,aCu y with
    | some i,some v=>if K1=K∧kv.all (fun p=> !jQ K1 p.1 i)=true then some (.unk,[(id,some (.mpl K1 (kv++[(i,v)])))],c)else none
    | _,_=>none
   | _=>none
  | _=>none
 | none=>none
def l0(P:Program)(tb:Tab)(t:TypeId)(g:List Nat)(x k:AVal)(ok:Bool)(h:Nat→Option Obj):Option nC :=
 match aDM P tb t with
 | some (K,c)=>match x with
  | .mp id=>match h id with
   | some (.mpl K1 kv)=>match u7 K1 k,g with
    | some i,[j]=>if K1=K∧ok=true then some (aAV ((kv[j]?).map (·.2)),[],c∧sO K1 kv i j)else none
    | _,_=>none
   | _=>none
  | _=>none
 | none=>none
def uG(tb:Tab)(t:TypeId)(x:AVal)(h:Nat→Option Obj):Option nC :=
 match tb.find t with
 | some ti=>match ti.k,x with
  | .mp _ _,.mp id=>match h id with
   | some (.mpo _ _ kv)=>some (.p false (.int .i64) (kv.length:Int),[],True)
   | _=>none
  | _,_=>none
 | none=>none
def aAM(b:Bool)(x y:AVal):Option nC :=
 match x,y with
 | .p _ (.int k) i,.p _ (.int k') j=>if k'=k then some (.p false (.int k) (if b then max (show Int from i) j else min (show Int from i) j),[],True)else none
 | _,_=>none
def aIy:AVal→Bool
 | .mp _=>true
 | _=>false
def M1:Ty→List Ty
 | .unit=>[]
 | .prod a b=>M1 a++M1 b
 | .tree k1 k2=>[.int k1,.int k2,.slice (.tree k1 k2)]
 | T=>[T]
def uT:Ty→AVal→AVal
 | .slice A,.nils=> .p false (.slice A) []
 | .ptr A,.nilp=> .p false (.ptr A) none
 | _,x=>x
def mF:List Ty→List AVal→List AVal
 | T::Ts,c::cs=>uT T c::mF Ts cs
 | _,cs=>cs
def aAi(T:Ty):AVal→AVal
 | .agg cs=> .agg (mF (M1 T) cs)
 | x=>uT T x
def yS(tb:Tab)(t:TypeId)(x:AVal):AVal :=
 match tb.find t with
 | some ti=>match ti.T with
  | some T=>aAi T x
  | none=>x
 | none=>x
def jI(tb:Tab):List Bool→List TypeId→List AVal→List AVal
 | true::bs,t::ts,x::xs=>yS tb t x::jI tb bs ts xs
 | false::bs,_::ts,x::xs=>x::jI tb bs ts xs
 | _,_,xs=>xs
section
variable{P:Program}{Bw:Nat→Prop}{w0:Base P}{ρ:Nat→Option Value}{φ:Nat→Nat→Prop}{h:Nat→Option Obj}{w:World}{new:Nat}
theorem aCE(m:Mem Bw w0 ρ φ h w){o:Oper}{a:Act}{t:TypeId}{ti:TI}(ht:TIok P t ti){xo:Operand}{x:AVal}(hx:V (Fr (own φ h) Bw w) ρ x (a.eval xo))(ho:o.op = .load t xo)
  {r:AVal} {u:j6} {c:Prop} (hd:nD ti x h=some (r,u,c)):Good P o a w (Post Bw w0 ρ φ h w new r u):=by
 unfold nD at hd
 split at hd
 ·rename_i id b n i k hk
  split at hd
  ·rename_i cs hb
   split at hd
   ·rename_i hn
    split at hd
    ·rename_i l hl
     cases hd
     exact I2 m ht hk hx ho hb hl hn
    ·cases hd
   ·cases hd
  ·cases hd
 ·cases hd
theorem aDQ(m:Mem Bw w0 ρ φ h w){o:Oper}{a:Act}{t:TypeId}{ti:TI}(ht:TIok P t ti){xo yo:Operand}{x y:AVal}(hx:V (Fr (own φ h) Bw w) ρ x (a.eval xo))(hy:V (Fr (own φ h) Bw w) ρ y (a.eval yo))(ho:o.op = .store t xo yo)
  {r:AVal} {u:j6} {c:Prop} (hd:lQ ti x y h=some (r,u,c)):Good P o a w (Post Bw w0 ρ φ h w new r u):=by
 unfold lQ at hd
 split at hd
 ·rename_i id b n i β k v
  split at hd
  ·rename_i cs hb
   split at hd
   ·rename_i hn
    split at hd
    ·rename_i l hl
     cases hd
     exact A8 m ht hn.2 hx hy ho hb hl hn.1
    ·cases hd
   ·cases hd
  ·cases hd
 ·cases hd
theorem aBI{tb:Tab}(m:Mem Bw w0 ρ φ h w)(htb:TabOK P tb){o:Oper}{a:Act}{t:TypeId}{xo io:Operand}{x i:AVal}(hx:V (Fr (own φ h) Bw w) ρ x (a.eval xo))(hi:V (Fr (own φ h) Bw w) ρ i (a.eval io))(ho:o.op = .indexAddr t xo io)
  {r:AVal} {u:j6} {c:Prop} (hd:lR tb t x i h=some (r,u,c)) (hc:c):Good P o a w (Post Bw w0 ρ φ h w new r u):=by
 unfold lR at hd
 split at hd
 ·rename_i ti ht
  split at hd
  ·rename_i n e hk
   split at hd
   ·rename_i te hte
    split at hd
    ·rename_i hsz
     split at hd
     ·rename_i id j sz off β k mm
      split at hd
      ·rename_i cs hb
       cases hd
       exact B7 m (htb.find ht) hk (htb.find hte) hsz hx hb hi ho hc
      ·cases hd
     ·rename_i id b N p β k mm
      cases hd
      exact yA m (htb.find ht) hk (htb.find hte) hsz hx hi ho hc
     ·cases hd
    ·split at hd
     ·rename_i hsz
      split at hd
      ·rename_i id j sz off β k mm
       split at hd
       ·rename_i cs hb
        cases hd
        exact y5 m (htb.find ht) hk (htb.find hte) hsz hx hb hi ho hc
       ·cases hd
      ·cases hd
     ·cases hd
   ·cases hd
  ·cases hd
 ·cases hd
theorem aB5(m:Mem Bw w0 ρ φ h w)(hn:ρ new=none){o:Oper}{a:Act}{t:TypeId}{ti:TI}(ht:TIok P t ti){xo:Operand}{x:AVal}(hx:V (Fr (own φ h) Bw w) ρ x (a.eval xo))(ho:o.op = .load t xo)
  {r:AVal} {u:j6} {c:Prop} (hd:mK new ti x h=some (r,u,c)) (hc:c):Good P o a w (Post Bw w0 ρ φ h w new r u):=by
 unfold mK at hd
 split at hd
 ·rename_i id i sz off
  split at hd
  ·rename_i hcond
   obtain⟨rfl,rfl,hk⟩:=hcond
   split at hd
   ·rename_i e e2 A xss hi
    cases hd
    exact tV m hn ht hk hx ho hi hc
   ·rename_i e e2 A xss k j hi
    split at hd
    ·rename_i e3 B ys hj
     split at hd
     ·rename_i q
      subst q
      split at hd
      ·rename_i he
       subst he
       simp only[Option.some.injEq,Prod.mk.injEq]at hd
       obtain⟨rfl,rfl,rfl⟩:=hd
       obtain⟨m',hF⟩:=m.closeRow hi hj
       have hg:=tV (new:=new) m' hn ht hk (V.mono hF (fun _ _ h=>h) hx) ho (aM _ _ _) (i:=i) (by rw[List.length_set];exact hc)
       exact fun K Q hk'=>hg K Q fun v w' hp=>hk' v w' (Post.after' rfl hF hp)
      ·cases hd
     ·cases hd
    ·cases hd
   ·cases hd
  ·cases hd
 ·cases hd
theorem aC7(m:Mem Bw w0 ρ φ h w){o:Oper}{a:Act}{t:TypeId}{ti:TI}(ht:TIok P t ti){xo yo:Operand}{id i:Nat}(hx:V (Fr (own φ h) Bw w) ρ (.adr id i 1 0) (a.eval xo)){y:AVal}(hy:V (Fr (own φ h) Bw w) ρ y (a.eval yo))(hsz:(cellsOf y).length=ti.size)
  (ho:o.op = .store t xo yo) {e e2:TypeId} {A:Ty} {xss:List (List A.den)} {hole:Option (Nat×Nat)} (hi:h id=some (.mat e e2 A xss hole)) {r:AVal} {u:j6} {c:Prop} (hd:u6 id i e e2 A xss hole y h=some (r,u,c)) (hc:c) :
  Good P o a w (Post Bw w0 ρ φ h w new r u):=by
 unfold u6 at hd
 split at hd
 ·rename_i rr
  have hs1:ti.size=1:=hsz.symm
  split at hd
  ·split at hd
   ·split at hd
    ·cases hd
     exact pC m ht hs1 hx hy ho hi hc (fun k j e=>by cases e)
    ·rename_i k j
     split at hd
     ·cases hd
      exact pC m ht hs1 hx hy ho hi hc.2 (fun k' j' e=>by cases e;exact hc.1)
     ·rename_i e4 C ys hj
      split at hd
      ·rename_i q
       subst q
       split at hd
       ·rename_i he
        obtain⟨rfl,_⟩:=he
        simp only[Option.some.injEq,Prod.mk.injEq]at hd
        obtain⟨rfl,rfl,rfl⟩:=hd
        obtain⟨m',hF⟩:=m.closeRow hi hj
        have hg:=pC (new:=new) m' ht hs1 (V.mono hF (fun _ _ h=>h) hx) (V.mono hF (fun _ _ h=>h) hy) ho (aM _ _ _) (i:=i) (by rw[List.length_set];exact hc) (fun k j e=>by cases e)
        exact fun K Q hk'=>hg K Q fun v w' hp=>hk' v w' (Post.after' rfl hF hp)
       ·cases hd
      ·cases hd
     ·cases hd
   ·cases hd
  ·cases hd
 ·cases hd
theorem aBq(m:Mem Bw w0 ρ φ h w)(hn:ρ new=none){o:Oper}{a:Act}{t e:TypeId}{ti te:TI}(ht:TIok P t ti)(hk:ti.k = .sl e)(hte:TIok P e te){A:Ty}(hT:te.T=some A)(h0:0<A.size)
  {lo co:Operand} (ho:o.op = .makeSlice t lo co) {β β':Bool} {kl kc:IntKind} {l c:Int} (hl:V (Fr (own φ h) Bw w) ρ (.p β (.int kl) l) (a.eval lo)) (hc:V (Fr (own φ h) Bw w) ρ (.p β' (.int kc) c) (a.eval co))
  (h1:0≤l) (h2:l≤c) (h3:(te.bytes:Int)*c≤281474976710656) (h4:c≤9223372036854775807) :
  Good P o a w (Post Bw w0 ρ φ h w new (.sl new) [(new,some (aAF e te A l.toNat))]):=by
 have key:=x6 (new:=new) m hn ht hk hte hT h0 ho hl hc h1 h2 h3 h4
 unfold aAF
 split
 ·rename_i B
  split
  ·rename_i e2 hk2 hz
   split
   ·rename_i hB
    exact J7 m hn ht hk hte hT hz hB ho hl hc h1 h2 h3 h4
   ·exact key
  ·exact key
 ·exact key
end
theorem N1{F:Bool→Addr→Value→Prop}{ρ:Nat→Option Value}{T:Ty}{x:AVal}{v:Value}(h:V F ρ x v):V F ρ (uT T x) v:=by
 unfold uT
 split
 ·simp only[V]at h ⊢
  exact⟨rfl,none,0,0,h.symm,⟨rfl,Nat.le_refl _⟩,fun i hi=>absurd hi (by simp)⟩
 ·simp only[V]at h ⊢
  exact⟨rfl,h.symm⟩
 ·exact h
theorem xE{T:Ty}{x:AVal}:cQ (uT T x)=cQ x:=by
 unfold uT
 split <;> simp[cQ]
theorem w7{F:Bool→Addr→Value→Prop}{ρ:Nat→Option Value}:∀ {Ts:List Ty} {cs:List AVal} {g:Nat→Value→Prop},VL F ρ cs g→VL F ρ (mF Ts cs) g
 | [],cs,g,h=>by cases cs <;> exact h
 | T::Ts,[],g,h=>h
 | T::Ts,c::cs,g,h=>by
  simp only[mF,VL]at h ⊢
  obtain⟨⟨u,q1,q2⟩,q3⟩:=h
  exact⟨⟨u,q1,N1 q2⟩,w7 q3⟩
theorem pY:∀ {Ts:List Ty} {cs:List AVal},(mF Ts cs).length=cs.length
 | [],cs=>by cases cs <;> rfl
 | T::Ts,[]=>rfl
 | T::Ts,c::cs=>by simp[mF,pY (Ts:=Ts) (cs:=cs)]
theorem vC:∀ {Ts:List Ty} {cs:List AVal},bH (mF Ts cs)=bH cs
 | [],cs=>by cases cs <;> rfl
 | T::Ts,[]=>rfl
 | T::Ts,c::cs=>by simp[mF,bH,xE,vC (Ts:=Ts) (cs:=cs)]
theorem aCF{tb:Tab}{t:TypeId}{F:Bool→Addr→Value→Prop}{ρ:Nat→Option Value}{x:AVal}{v:Value}(h:V F ρ x v):V F ρ (yS tb t x) v:=by
 unfold yS
 split
 ·split
  ·unfold aAi
   split
   ·simp only[V]at h ⊢
    obtain⟨vs,e,hs,hl⟩:=h
    exact⟨vs,e,by rw[pY];exact hs,w7 hl⟩
   ·exact N1 h
  ·exact h
 ·exact h
theorem aAq{tb:Tab}{t:TypeId}{x:AVal}:cQ (yS tb t x)=cQ x:=by
 unfold yS
 split
 ·split
  ·unfold aAi
   split
   ·simp only[cQ,vC]
   ·exact xE
  ·rfl
 ·rfl
theorem mA{tb:Tab}{F:Bool→Addr→Value→Prop}{ρ:Nat→Option Value}:∀ {bs:List Bool} {ts:List TypeId} {xs:List AVal} {vs:List Value},VVs F ρ xs vs→VVs F ρ (jI tb bs ts xs) vs
 | true::bs,t::ts,x::xs,vs,h=>by
  cases vs with
  | nil=>exact h.elim
  | cons v vs=>exact⟨aCF h.1,mA h.2⟩
 | false::bs,t::ts,x::xs,vs,h=>by
  cases vs with
  | nil=>exact h.elim
  | cons v vs=>exact⟨h.1,mA h.2⟩
 | [],ts,xs,vs,h=>by simpa only [jI]using h
 | b::bs,[],xs,vs,h=>by cases b <;> simpa only [jI]using h
 | b::bs,t::ts,[],vs,h=>by cases b <;> simpa only [jI]using h
theorem sK{tb:Tab}:∀ {bs:List Bool} {ts:List TypeId} {xs:List AVal},bH (jI tb bs ts xs)=bH xs
 | true::bs,t::ts,x::xs=>by simp only[jI,bH,aAq,sK (bs:=bs) (ts:=ts) (xs:=xs)]
 | false::bs,t::ts,x::xs=>by simp only[jI,bH,sK (bs:=bs) (ts:=ts) (xs:=xs)]
 | [],ts,xs=>by simp only[jI]
 | b::bs,[],xs=>by cases b <;> simp only[jI]
 | b::bs,t::ts,[]=>by cases b <;> simp only[jI]
def C1(h:Nat→Option Obj)(x:AVal):Option (AVal×j6) :=
 match x with
 | .agg cs=>match q7 h cs with
  | some (ds,u)=>some (.agg ds,u)
  | none=>none
 | x=>jK h x
def nS(h:Nat→Option Obj):List Bool→List AVal→Option (List AVal×j6)
 | _,[]=>some ([],[])
 | [],xs=>some (xs,[])
 | false::bs,x::xs=>match nS h bs xs with
  | some (ys,u)=>some (x::ys,u)
  | none=>none
 | true::bs,x::xs=>match C1 h x with
  | some (y,u)=>match nS (apply u h) bs xs with
   | some (ys,us)=>some (y::ys,u++us)
   | none=>none
  | none=>none
structure Orc where
 r:AVal
 fl:List Bool
 own:Bool
 cn:List Bool
 g:List Nat
 hout:List (Nat×Obj)
 die:Option Value
def aFc:Option Orc→Option Value
 | some q=>q.die
 | none=>none
def yF(P:Program)(f:FuncId)(args:List AVal)(hin:List (Nat×Obj))(q:Orc):Prop :=
 match q.die with
 | none=>Owns P f args hin q.r q.hout
 | some x=>Dies P f args hin x
def gOf:Option Orc→List Nat
 | some q=>q.g
 | none=>[]
def W1:AVal→AVal
 | .lit (.func (.func f) fs cs)=>if fs.isEmpty && cs.isEmpty then .fn f []else .unk
 | x=>x
def aGK:Option Orc→List Bool
 | some q=>q.cn
 | none=>[]
def wV(P:Program)(new:Nat)(orc:Option Orc)(f:AVal)(xs:List AVal)(h:Nat→Option Obj):Option nC :=
 match f,orc with
 | .fn fid caps,some q=>match nS h q.fl xs with
  | some (ys,u) =>
   if q.own then
    if q.g.all (fun i=>(xX h (f::xs)).contains i)then
     match tD q.g (less q.g (apply u h)) (ys++caps),kG q.g (apply u h) 0 q.g with
     | some args,some hin=>if vI q.g q.hout q.r then some (oS (t6 q.g new) q.r,u++wO q.g new q.hout,yF P fid args hin q)else none
     | _,_=>none
    else none
   else match vS (apply u h) (ys++caps)with
   | some args=>some (q.r,u,Pure P fid args q.r)
   | none=>none
  | none=>none
 | _,_=>none
def K6(asm:Option Bool)(c:AVal)(s:Nat→AVal)(x y:Operand):Option nC :=
 match asm,c with
 | some b,.p _ .bool b'=>some (ev s (if b then x else y),[],b'=b)
 | none,.p _ .bool b'=>match b' with
  | true=>some (ev s x,[],True)
  | false=>some (ev s y,[],True)
 | _,_=>none
def aAE(fn:Fn)(first:List Operand)(caps:List AVal):Option nC :=
 match fn,first with
 | .func f,[]=>some (.fn f caps,[],True)
 | _,_=>none
def rP(tb:Tab)(new:Nat)(b:Builtin)(xs:List AVal)(ts:List TypeId)(h:Nat→Option Obj):Option nC :=
 match b,xs,ts with
 | .len,[x],[t]=>if aIy x then uG tb t x h else aAt tb t x h
 | .min,[x,y],_=>aAM false x y
 | .max,[x,y],_=>aAM true x y
 | .append,[x,y],[t,t']=>if t=t' then nG tb new t x y h else none
 | .copy,[x,y],[t,_]=>sN tb t x y h
 | _,_,_=>none
def qQ(P:Program)(tb:Tab)(new:Nat)(orc:Option Orc)(c:Call)(s:Nat→AVal)(h:Nat→Option Obj):Option nC :=
 match c.callee with
 | .builtin b=>rP tb new b (c.args.toList.map (ev s)) c.argTypes.toList h
 | .value f=>wV P new orc (W1 (ev s f)) (jI tb (aGK orc) c.argTypes.toList (c.args.toList.map (ev s))) h
 | _=>none
def oJ(P:Program)(tb:Tab)(new:Nat)(asm:Option Bool)(orc:Option Orc)(op:Op)(s:Nat→AVal)(h:Nat→Option Obj):Option nC :=
 match op with
 | .move x=>some (ev s x,[],True)
 | .assign x=>some (ev s x,[],True)
 | .pick c x y=>K6 asm (ev s c) s x y
 | .alloc t=>R5 tb new t
 | .box _ x=>aC3 new (ev s x)
 | .build t ps=>Q0 tb t (ps.toList.map (·.1)) (ps.toList.map fun p=>ev s p.2)
 | .buildSlice t len ps=>mZ tb new t len (ps.toList.map (·.1)) (ps.toList.map fun p=>ev s p.2) h
 | .load t x=>I9 tb new t (ev s x) h
 | .store t x y=>o5 tb t (ev s x) (ev s y) h
 | .binOp op t x y _=>aCx P tb op t (ev s x) (ev s y)
 | .nilCheck x=>aDi (ev s x)
 | .unOp op _ x=>aFj op (ev s x)
 | .convert st dt x=>H7 tb st dt (ev s x) h
 | .slice t x lo hi none=>pU tb new t (ev s x) (tR s lo) (tR s hi) h
 | .slice t x lo (some hi) (some mx)=>uH tb t (ev s x) (tR s lo) (ev s hi) (ev s mx) h
 | .fieldAddr t x f=>V5 tb t (ev s x) f
 | .indexAddr t x i=>match jD tb t (ev s x) (ev s i) h with
  | some r=>some r
  | none=>lR tb t (ev s x) (ev s i) h
 | .index t x i=>U9 tb t (ev s x) (ev s i)
 | .extract x i=>zK (ev s x) i
 | .typeAssert x _ t ok=>uO P (ev s x) t ok
 | .makeFunc fn first caps=>aAE fn first.toList (caps.toList.map (ev s))
 | .makeSlice t l c=>aAD tb new t (ev s l) (ev s c)
 | .makeMap t none=>match yP P tb new t with
  | some r=>some r
  | none=>vJ P tb new t
 | .lookup t x k ok=>match nK P tb t (ev s x) (ev s k) ok h with
  | some r=>some r
  | none=>l0 P tb t (gOf orc) (ev s x) (ev s k) ok h
 | .mapUpdate t x k y=>match fO P tb t (ev s x) (ev s k) (ev s y) h with
  | some r=>some r
  | none=>eY P tb t (ev s x) (ev s k) (ev s y) h
 | .insert t x k y=>match fO P tb t (ev s x) (ev s k) (ev s y) h with
  | some r=>some r
  | none=>eY P tb t (ev s x) (ev s k) (ev s y) h
 | .call c=>qQ P tb new orc c s h
 | _=>none
section
variable{P:Program}{tb:Tab}{Bw:Nat→Prop}{w0:Base P}{ρ:Nat→Option Value}{φ:Nat→Nat→Prop}{h:Nat→Option Obj}{w:World}{new:Nat}{n:NS}{s:Nat→AVal}{a:Act}
theorem eD(htb:TabOK P tb){t e:TypeId}{te:TI}{A:Ty}(h:kR tb t=some (e,te,A)):∃ti,TIok P t ti∧tb.find t=some ti∧ti.k = .sl e∧TIok P e te∧te.T=some A∧0<A.size:=by
 unfold kR at h
 split at h
 ·rename_i ti h1
  split at h
  ·rename_i e' h2
   split at h
   ·rename_i te' h3
    split at h
    ·rename_i A' h4
     split at h
     ·rename_i h5
      cases h
      exact⟨ti,htb.find h1,h1,h2,htb.find h3,h4,h5⟩
     ·cases h
    ·cases h
   ·cases h
  ·cases h
 ·cases h
theorem oA(htb:TabOK P tb){t:TypeId}{K A:Ty}{c:Prop}(h:aDl P tb t=some (K,A,c))(hc:c):∃ti kt et te,TIok P t ti∧ti.k = .mp kt et∧KeyOk P kt K∧TIok P et te∧te.T=some A:=by
 unfold aDl at h
 split at h
 ·rename_i ti h1
  split at h
  ·rename_i kt et h2
   split at h
   ·rename_i ki te h3 h4
    split at h
    ·rename_i K' c' A' h5 h6
     cases h
     refine⟨ti,kt,et,te,htb.find h1,h2,?_,htb.find h4,h6⟩
     unfold aD3 at h5
     split at h5
     ·rename_i K2 h7
      cases h5
      exact KeyOk.of_kk (htb.find h3) h7
     ·split at h5
      ·split at h5
       ·cases h5
        exact hc
       ·cases h5
      ·cases h5
    ·cases h
   ·cases h
  ·cases h
 ·cases h
theorem nX(htb:TabOK P tb){t:TypeId}{K:Ty}{c:Prop}(h:aDM P tb t=some (K,c))(hc:c):∃ti kt et te,TIok P t ti∧ti.k = .mp kt et∧KeyOk P kt K∧TIok P et te:=by
 unfold aDM at h
 split at h
 ·rename_i ti h1
  split at h
  ·rename_i kt et h2
   split at h
   ·rename_i ki te h3 h4
    split at h
    ·refine⟨ti,kt,et,te,htb.find h1,h2,?_,htb.find h4⟩
     unfold aD3 at h
     split at h
     ·rename_i K2 h7
      cases h
      exact KeyOk.of_kk (htb.find h3) h7
     ·split at h
      ·split at h
       ·cases h
        exact hc
       ·cases h
      ·cases h
    ·cases h
   ·cases h
  ·cases h
 ·cases h
theorem wA{F:Bool→Addr→Value→Prop}{ρ:Nat→Option Value}{x:AVal}{v u:Value}(h:aCu x=some v)(hv:V F ρ x u):u=v:=by
 unfold aCu at h
 split at h
 ·cases h
  simpa only [V]using hv
 ·cases h
  simp only[V]at hv
  obtain⟨vs,e,hs,_⟩:=hv
  have:vs = #[]:=Array.eq_empty_of_size_eq_zero (by simpa using hs)
  subst this
  exact e
 ·cases h
theorem yI{F:Bool→Addr→Value→Prop}{ρ:Nat→Option Value}{x:AVal}{u:Value}(hv:V F ρ x u):V F ρ (W1 x) u:=by
 unfold W1
 split
 ·rename_i f fs cs
  split
  ·rename_i hc
   simp only[Bool.and_eq_true,Array.isEmpty_iff]at hc
   obtain⟨rfl,rfl⟩:=hc
   simp only[V]at hv ⊢
   exact⟨#[],hv,rfl,by simp only[VL]⟩
  ·trivial
 ·exact hv
theorem S6{x:AVal}:∀i∈cQ (W1 x),i∈cQ x:=by
 unfold W1
 split
 ·split
  ·intro i hi
   simp[cQ,bH]at hi
  ·intro i hi
   simp[cQ]at hi
 ·exact fun i hi=>hi
theorem g9{F:Bool→Addr→Value→Prop}{ρ:Nat→Option Value}{K:Ty}{x:AVal}{k:K.den}{v:Value}(h:u7 K x=some k)(hK:K.isKey=true)(hv:V F ρ x v):v=aT K k:=by
 unfold u7 at h
 split at h
 ·rename_i β K2 i
  split at h
  ·rename_i q
   subst q
   split at h
   ·rename_i hs
    cases h
    exact aDj hK hs hv
   ·cases h
  ·cases h
 ·rename_i cs
  split at h
  ·rename_i hs
   split at h
   ·rename_i k' r hu
    cases h
    simp only[V]at hv
    obtain⟨vs,rfl,hsz,hvl⟩:=hv
    obtain⟨h1,h2,h3⟩:=d7 hu hvl
    rw[lZ hK hs.1]
    congr 1
    refine Array.ext_getElem? fun i=> ?_
    rw[List.getElem?_toArray,←Array.getElem?_toList]
    rcases Nat.lt_or_ge i K.size with hi | hi
    ·have:=kI (l:=vs.toList) (o:=0) hK (Vcells.mono (fun _ _ h=>h) (fun j u hj=>by rw[Nat.zero_add,Array.getElem?_toList];exact hj) h1) i hi
     rw[Nat.zero_add]at this
     exact this
    ·rw[List.getElem?_eq_none (by rw[Array.length_toList,hsz,hs.2];exact hi)]
     rw[List.getElem?_eq_none (by rw[cS hK];exact hi)]
   ·cases h
  ·cases h
 ·cases h
theorem sG{F:Bool→Addr→Value→Prop}(hs:Slots n F ρ s a){lo:Option Operand}{l:Option Int}(h:tR s lo=some l):uD F ρ a lo l:=by
 unfold tR at h
 cases lo with
 | none=>cases h;trivial
 | some x =>
  simp only at h
  split at h
  ·rename_i β k m e
   cases h
   have:=bK hs x
   rw[e]at this
   exact⟨_,_,this⟩
  ·cases h
theorem vD{F:Bool→Addr→Value→Prop}{x:AVal}{n:Int}(h:aAx x=some n){v:Value}(hv:V F ρ x v):∃β k,V F ρ (.p β (.int k) n) v:=by
 unfold aAx at h
 split at h
 ·cases h;exact⟨_,_,hv⟩
 ·cases h
theorem X9(m:Mem Bw w0 ρ φ h w){x y:AVal}{u:j6}(hd:C1 h x=some (y,u)):
  Mem Bw w0 ρ φ (apply u h) w∧(∀β a v,Fr (own φ h) Bw w β a v→Fr (own φ (apply u h)) Bw w β a v)∧∀v,V (Fr (own φ h) Bw w) ρ x v→V (Fr (own φ (apply u h)) Bw w) ρ y v:=by
 unfold C1 at hd
 split at hd
 ·split at hd
  ·rename_i ds u' h1
   cases hd
   obtain⟨q1,q2,q3,q4⟩:=pJ m h1
   refine⟨q1,q2,fun v hv=> ?_⟩
   simp only[V]at hv ⊢
   obtain⟨vs,e,hs,hl⟩:=hv
   exact⟨vs,e,by rw[q3];exact hs,q4 _ hl⟩
  ·cases hd
 ·exact lD m hd
theorem n9:∀ {bs:List Bool} {xs ys:List AVal} {h:Nat→Option Obj} {u:j6},Mem Bw w0 ρ φ h w→nS h bs xs=some (ys,u) →
  Mem Bw w0 ρ φ (apply u h) w∧(∀β a v,Fr (own φ h) Bw w β a v→Fr (own φ (apply u h)) Bw w β a v)∧∀vs,VVs (Fr (own φ h) Bw w) ρ xs vs→VVs (Fr (own φ (apply u h)) Bw w) ρ ys vs
 | _,[],ys,h,u,m,hd=>by
  simp only[nS]at hd
  cases hd
  exact⟨m,fun _ _ _ h=>h,fun _ h=>h⟩
 | [],x::xs,ys,h,u,m,hd=>by
  simp only[nS]at hd
  cases hd
  exact⟨m,fun _ _ _ h=>h,fun _ h=>h⟩
 | false::bs,x::xs,ys,h,u,m,hd=>by
  simp only[nS]at hd
  split at hd
  ·rename_i ys' u' h1
   cases hd
   obtain⟨q1,q2,q3⟩:=n9 m h1
   refine⟨q1,q2,fun vs hv=> ?_⟩
   cases vs with
   | nil=>exact hv.elim
   | cons v vs=>exact⟨V.mono q2 (fun _ _ h=>h) hv.1,q3 vs hv.2⟩
  ·cases hd
 | true::bs,x::xs,ys,h,u,m,hd=>by
  simp only[nS]at hd
  split at hd
  ·rename_i y u1 h1
   split at hd
   ·rename_i ys' us h2
    cases hd
    obtain⟨q1,q2,q3⟩:=X9 m h1
    obtain⟨r1,r2,r3⟩:=n9 q1 h2
    rw[gW]
    refine⟨r1,fun β a v hh=>r2 _ _ _ (q2 _ _ _ hh),fun vs hv=> ?_⟩
    cases vs with
    | nil=>exact hv.elim
    | cons v vs=>exact⟨V.mono r2 (fun _ _ h=>h) (q3 v hv.1),r3 vs (VVs.mono q2 (fun _ _ h=>h) hv.2)⟩
   ·cases hd
  ·cases hd
theorem yW{us:j6}{i:Nat}(hu:us.all (fun p=>p.1 != i)=true):∀ {h:Nat→Option Obj},apply us h i=h i:=by
 induction us with
 | nil=>intro h;rfl
 | cons p us ih =>
  intro h
  obtain⟨j,o⟩:=p
  simp only[List.all_cons,Bool.and_eq_true,bne_iff_ne,ne_eq]at hu
  simp only[apply]
  rw[ih hu.2,bG _ _ (Ne.symm hu.1)]
theorem lF{F:Bool→Addr→Value→Prop}{x:AVal}{b:Bool}(h:L8 x=some b){u:Value}(hu:V F ρ x u):∃q,u = .pointer q∧q.isNone=b:=by
 cases x <;> simp only[L8]at h <;> first | (cases h;done) | skip
 ·cases h
  simp only[V]at hu
  exact⟨none,hu,rfl⟩
 ·cases h
  simp only[V]at hu
  obtain⟨g,_,e⟩:=hu
  exact⟨_,e,rfl⟩
 ·cases h
  simp only[V]at hu
  obtain⟨ad,e,_⟩:=hu
  exact⟨_,e,rfl⟩
theorem I3(d:Nat){t e:TypeId}(h:P.underlying t=some (.pointer e))(q:Option Addr):(Op.equalIn (d+1) t (.pointer none) (.pointer q)).run P w = .ok q.isNone w:=by
 simp[Op.equalIn,run_underlying h]
theorem A0(d:Nat){t e:TypeId}(h:P.underlying t=some (.pointer e))(a:Addr):(Op.equalIn (d+1) t (.pointer (some a)) (.pointer none)).run P w = .ok false w:=by
 simp[Op.equalIn,run_underlying h]
theorem L6(d:Nat){t:TypeId}{ms:Array (String×TypeId)}(h:P.underlying t=some (.interface ms))(a:TypeId)(v:Value):(Op.equalIn (d+1) t (.iface a v) .nilIface).run P w = .ok false w:=by
 simp[Op.equalIn,run_underlying h]
theorem L1{F:Bool→Addr→Value→Prop}{op:BinOp}{b:Bool}{r:AVal}(h:eqR op b=some r){t:TypeId}{u v:Value}{xo yo:Operand}(hg:(eqGuard op t xo yo u v).run P w = .ok () w)
  (he:(Op.equal t u v).run P w = .ok b w) (hne:binOp .eql t u v=(do pure (.bool (←Op.equal t u v)))∧binOp .neq t u v=(do pure (.bool (!(←Op.equal t u v))))) :
  ∃z,(do eqGuard op t xo yo u v;binOp op t u v:Sem Value).run P w = .ok z w∧V F ρ r z:=by
 unfold eqR at h
 split at h <;> cases h
 ·exact⟨_,by rw[Sem.run_bind,hg,Result.andThen_ok,hne.1,Sem.run_bind,he];rfl,lK _ _⟩
 ·exact⟨_,by rw[Sem.run_bind,hg,Result.andThen_ok,hne.2,Sem.run_bind,he];rfl,lK _ _⟩
theorem U3{F:Bool→Addr→Value→Prop}{ti:TI}{op:BinOp}{t:TypeId}{x y r:AVal}{us:j6}{c:Prop}(h:aCi P ti op t x y=some (r,us,c))(hc:c){u v:Value}(hu:V F ρ x u)(hv:V F ρ y v)(xo yo:Operand):
  us=[]∧∃z,(do eqGuard op t xo yo u v;binOp op t u v:Sem Value).run P w = .ok z w∧V F ρ r z:=by
 have ptr:∀ {b:Bool} {q q':Option Addr},u = .pointer q→v = .pointer q'→(∃e,P.underlying t=some (.pointer e))→(q.isNone=true∧q'.isNone=b∨q.isNone=false∧q'.isNone=true∧b=false)→eqR op b=some r →
   ∃z,(do eqGuard op t xo yo u v;binOp op t u v:Sem Value).run P w = .ok z w∧V F ρ r z:=fun {b q q'} e1 e2 hE hq hr=>by
  subst e1 e2
  obtain⟨e,hE⟩:=hE
  refine L1 hr (dM (by intro cs e;cases e) (by intro e;cases e)) ?_ ⟨by cases q <;> cases q' <;> rfl,by cases q <;> cases q' <;> rfl⟩
  unfold Op.equal Op.maxDepth
  cases q with
  | none =>
   rcases hq with⟨_,q2⟩ | ⟨q1,_⟩
   ·subst q2
    exact I3 9999 hE q'
   ·cases q1
  | some a =>
   rcases hq with⟨q1,_⟩ | ⟨_,q2,q3⟩
   ·cases q1
   ·cases q' with
    | none=>subst q3;exact A0 9999 hE a
    | some _=>cases q2
 unfold aCi at h
 split at h
 ·rename_i cs ds
  split at h
  ·rename_i T hT
   split at h
   ·rename_i a b ha hb
    split at h
    ·rename_i r' hr
     cases h
     refine⟨rfl,?_⟩
     simp only[V]at hu hv
     obtain⟨xs,rfl,sx,lx⟩:=hu
     obtain⟨ys,rfl,sy,ly⟩:=hv
     obtain⟨a1,a2,a3⟩:=d7 ha lx
     obtain⟨b1,b2,b3⟩:=d7 hb ly
     have hl:∀l:List AVal,([]:List AVal)=l.drop T.size→T.size≤l.length→l.length=T.size:=fun l h1 h2=>by
      have:=congrArg List.length h1
      simp only[List.length_nil,List.length_drop]at this
      omega
     have hE:=hc.2 w
     have hsc:T.scalar=false:=hc.1.2
     refine L1 hr (run_eqGuard_agg w op t xo yo xs ys hc.1.1) ?_ ⟨rfl,rfl⟩
     refine hE.2.2 (F false) a b _ _ ?_ ?_
     ·unfold aAZ;rw[hsc];simp only[Bool.false_eq_true,if_false];exact⟨xs,rfl,by rw[sx,hl cs a2 a3],a1⟩
     ·unfold aAZ;rw[hsc];simp only[Bool.false_eq_true,if_false];exact⟨ys,rfl,by rw[sy,hl ds b2 b3],b1⟩
    ·cases h
   ·cases h
  ·cases h
 ·rename_i A q
  split at h
  ·rename_i r' hr
   cases h
   simp only[V]at hu hv
   cases q with
   | none =>
    have e:u = .pointer none:=hu.2.symm
    exact⟨rfl,ptr e hv hc (.inl ⟨rfl,rfl⟩) hr⟩
   | some y =>
    obtain⟨_,b,e,_⟩:=hu
    exact⟨rfl,ptr e.symm hv hc (.inr ⟨rfl,rfl,rfl⟩) hr⟩
  ·cases h
 ·split at h
  ·rename_i b h1 h2
   split at h
   ·rename_i r' hr
    cases h
    obtain⟨q,e1,e2⟩:=lF h1 hu
    obtain⟨q',e3,e4⟩:=lF h2 hv
    exact⟨rfl,ptr e1 e3 hc (.inl ⟨e2,e4⟩) hr⟩
   ·cases h
  ·rename_i h1 h2
   split at h
   ·rename_i r' hr
    cases h
    obtain⟨q,e1,e2⟩:=lF h1 hu
    obtain⟨q',e3,e4⟩:=lF h2 hv
    exact⟨rfl,ptr e1 e3 hc (.inr ⟨e2,e4,rfl⟩) hr⟩
   ·cases h
  ·split at h
   ·split at h
    ·rename_i r' hr
     cases h
     simp only[V]at hu hv
     subst hu hv
     obtain⟨ms,hms⟩:=hc
     refine⟨rfl,L1 hr (dM (by intro cs e;cases e) (by intro e;cases e)) ?_ ⟨rfl,rfl⟩⟩
     unfold Op.equal Op.maxDepth
     exact L6 9999 hms _ _
    ·cases h
   ·cases h
theorem O4(m:Mem Bw w0 ρ φ h w){o:Oper}{xo:Operand}{xt at':TypeId}{ok:Bool}(ho:o.op = .typeAssert xo xt at' ok){x:AVal}(hx:V (Fr (own φ h) Bw w) ρ x (a.eval xo)){y:AVal}{u:j6}{c:Prop}
  (hd:uO P x at' ok=some (y,u,c)) (hc:c):Good P o a w (Post Bw w0 ρ φ h w new y u):=by
 unfold uO at hd
 split at hd
 ·rename_i t v
  split at hd
  ·rename_i q
   obtain⟨rfl,rfl⟩:=q
   cases hd
   obtain⟨d,hd,hi⟩:=hc
   simp only[V]at hx
   refine Good.of_run (v:= .tuple #[v,.bool true]) (w':=w) ?_ (Post.pure m ?_)
   ·simp only[execOp,ho,hx]
    simp only[Instr.typeAssert,Sem.run_bind,run_underlying hd,Result.andThen_ok]
    cases d <;> first | (simp at hi;done) | (simp;done)
   ·simp only[V,VL]
    exact⟨_,rfl,rfl,⟨v,by simp,T4 v⟩,⟨.bool true,by simp,by simp only[V,Vcells];exact⟨rfl,trivial⟩⟩,trivial⟩
  ·cases hd
 ·cases hd
theorem aC6(htb:TabOK P tb)(m:Mem Bw w0 ρ φ h w)(hs:Slots n (Fr (own φ h) Bw w) ρ s a)(hn8:∀j,j<8→ρ (new+j)=none){o:Oper}{asm:Option Bool}{orc:Option Orc}(hdie:aFc orc=none){x:AVal}{u:j6}{c:Prop}
  (hd:oJ P tb new asm orc o.op s h=some (x,u,c)) (hc:c):Good P o a w (Post Bw w0 ρ φ h w new x u):=by
 have hn:ρ new=none:=hn8 0 (by omega)
 unfold oJ at hd
 split at hd
 ·rename_i x' ho;cases hd;exact G6 m (bK hs _) (.inl ho)
 ·rename_i x' ho;cases hd;exact G6 m (bK hs _) (.inr ho)
 ·rename_i co xo yo ho
  unfold K6 at hd
  split at hd
  ·rename_i b β b' e
   cases hd
   subst hc
   have:=bK hs co
   rw[e]at this
   exact uW m this (bK hs _) ho
  ·rename_i β b' e
   have:=bK hs co
   rw[e]at this
   split at hd
   ·cases hd
    exact uW (b:=true) m this (bK hs _) ho
   ·cases hd
    exact uW (b:=false) m this (bK hs _) ho
  ·cases hd
 ·rename_i t ho
  unfold R5 at hd
  split at hd
  ·rename_i ti ht
   cases hd
   exact Z1 m hn (htb.find ht) ho
  ·cases hd
 ·rename_i t xo ho
  unfold aC3 at hd
  split at hd
  ·rename_i hcell
   cases hd
   exact aDL m hn (bK hs xo) hcell ho _
  ·cases hd
 ·rename_i t ps ho
  unfold Q0 at hd
  split at hd
  ·rename_i ti ht
   split at hd
   ·rename_i fs hk
    split at hd
    ·rename_i ds hds
     cases hd
     have:=p8 hs (ps.toList.map (·.2))
     simp only[List.map_map]at this
     exact aAb m htb (htb.find ht) hk ho this hds
    ·cases hd
   ·rename_i n e hk
    split at hd
    ·rename_i te hte
     split at hd
     ·rename_i ds hds
      cases hd
      have:=p8 hs (ps.toList.map (·.2))
      simp only[List.map_map]at this
      exact O0 m htb (htb.find ht) hk (htb.find hte) ho this hds
     ·cases hd
    ·cases hd
   ·cases hd
  ·cases hd
 ·rename_i t len ps ho
  unfold mZ at hd
  split at hd
  ·rename_i e te A het
   obtain⟨ti,h1,_,h2,h3,h4,h5⟩:=eD htb het
   split at hd
   ·rename_i hcond
    split at hd
    ·rename_i ys us hys
     cases hd
     have:=p8 hs (ps.toList.map (·.2))
     simp only[List.map_map]at this
     exact wF m hn h1 h2 h3 h4 h5 ho hcond.1 this (fun x hx=>(List.all_eq_true.1 hcond.2.1) x hx) hys hcond.2.2
    ·cases hd
   ·cases hd
  ·cases hd
 ·rename_i t xo ho
  unfold I9 at hd
  split at hd
  ·rename_i ti ht
   split at hd
   ·rename_i cs off c' hcs
    split at hd
    ·rename_i y hy
     cases hd
     exact aBJ m (htb.find ht) (bK hs xo) ho hcs hc hy
    ·cases hd
   ·split at hd
    ·rename_i r0 hd0
     cases hd
     exact aCE m (htb.find ht) (bK hs xo) ho hd0
    ·exact aB5 m hn (htb.find ht) (bK hs xo) ho hd hc
  ·cases hd
 ·rename_i t xo yo ho
  unfold o5 at hd
  split at hd
  ·rename_i ti ht
   split at hd
   ·rename_i hcond
    split at hd
    ·rename_i id i sz off ex
     have hx:=bK hs xo
     rw[ex]at hx
     split at hd
     ·rename_i cs hi
      split at hd
      ·rename_i hfit
       cases hd
       exact xO m (htb.find ht) hx (bK hs yo) hcond.1 ho hi hcond.2 hfit
      ·cases hd
     ·rename_i e A xs hi
      split at hd
      ·rename_i hsz
       split at hd
       ·rename_i z us hz
        split at hd
        ·rename_i hus
         cases hd
         rw[hsz.1]at hx
         exact yG m (htb.find ht) hx (bK hs yo) hcond.1 ho hz hi (by rw[yW hus];exact hi) hcond.2 hsz.2 hc
        ·cases hd
       ·cases hd
      ·cases hd
     ·rename_i e e2 A xss hole hi
      split at hd
      ·rename_i hsz
       obtain⟨rfl,rfl⟩:=hsz
       exact aC7 m (htb.find ht) hx (bK hs yo) hcond.2 ho hi hd hc
      ·cases hd
     ·cases hd
    ·exact aDQ m (htb.find ht) (bK hs xo) (bK hs yo) ho hd
   ·cases hd
  ·cases hd
 ·rename_i op t xo yo t' ho
  unfold aCx at hd
  split at hd
  ·rename_i ti ht
   split at hd
   ·rename_i r c' hr
    cases hd
    obtain⟨z,h1,h2⟩:=aBt (P:=P) (w:=w) (htb.find ht) hr hc (bK hs xo) (bK hs yo) xo yo
    exact Good.of_run (v:=z) (w':=w) (by simp only[execOp,ho];rw[Sem.run_bind,h1];rfl) (Post.pure m h2)
   ·obtain⟨hu,z,h1,h2⟩:=U3 (P:=P) (w:=w) hd hc (bK hs xo) (bK hs yo) xo yo
    subst hu
    exact Good.of_run (v:=z) (w':=w) (by simp only[execOp,ho];rw[Sem.run_bind,h1];rfl) (Post.pure m h2)
  ·cases hd
 ·rename_i xo ho
  have hx:=bK hs xo
  unfold aDi at hd
  split at hd
  ·rename_i id i sz off ex
   cases hd
   rw[ex]at hx
   obtain⟨g,h1,h2⟩:∃g,_∧a.eval xo = .pointer (some ⟨g,i*sz+off,none⟩):=by simpa only [V]using hx
   exact Good.of_run (v:=a.eval xo) (w':=w) (by simp only[execOp,ho,h2];rfl) (Post.pure m hx)
  ·rename_i β cs off ex
   cases hd
   rw[ex]at hx
   obtain⟨ad,h1,h2⟩:∃ad:Addr,a.eval xo = .pointer (some (ad.add off))∧_:=by simpa only [V]using hx
   exact Good.of_run (v:=a.eval xo) (w':=w) (by simp only[execOp,ho,h1];rfl) (Post.pure m hx)
  ·rename_i β A q ex
   cases hd
   rw[ex]at hx
   cases q with
   | none=>cases hc
   | some y =>
    obtain⟨_,b,e,hv⟩:_∧∃b:Addr,Value.pointer (some b)=a.eval xo∧Vcells (Fr (own φ h) Bw w β) A y (fun k v=>Fr (own φ h) Bw w β (b.add k) v):=by simpa only [V,Vcells]using hx
    refine Good.of_run (v:=a.eval xo) (w':=w) (by simp only[execOp,ho,←e];rfl) (Post.pure m ?_)
    simp only[V,Option.getD_some]
    exact⟨b,by rw[←e];unfold Addr.add;simp,lH β A y _ hv⟩
  ·cases hd
 ·rename_i op t xo ho
  unfold aFj at hd
  split at hd
  ·rename_i r hr
   cases hd
   obtain⟨z,h1,h2⟩:=aCj (P:=P) (w:=w) hr (bK hs xo)
   exact Good.of_run (v:=z) (w':=w) (by simp only[execOp,ho];rw[Sem.run_bind,h1];rfl) (Post.pure m h2)
  ·cases hd
 ·rename_i st dt xo ho
  unfold H7 at hd
  split at hd
  ·rename_i si hsi
   split at hd
   ·rename_i di hdi
    split at hd
    ·rename_i r hr
     cases hd
     obtain⟨dd,hd1,hd2⟩:=(htb.find hdi).hu
     unfold aCs at hr
     split at hr
     ·rename_i β l ex
      have hx:=bK hs xo
      rw[ex]at hx
      split at hr
      ·rename_i e hk
       split at hr
       ·rename_i hu8
        cases hr
        rw[hk]at hd2
        simp only[UK]at hd2
        subst hd2
        simp only[aE6]at hu8
        split at hu8
        ·rename_i te hte
         obtain⟨d,q1,q2⟩:=(htb.find hte).hu
         split at hu8
         ·rename_i hk2
          rw[hk2]at q2
          simp only[UK]at q2
          exact aAr m (htb.find hsi) hd1 (by rw[q1,q2]) ho hx
         ·cases hu8
        ·cases hu8
       ·cases hr
      ·cases hr
     ·rename_i β k n ex
      have hx:=bK hs xo
      rw[ex]at hx
      split at hr
      ·rename_i hk
       cases hr
       rw[hk]at hd2
       simp only[UK]at hd2
       subst hd2
       exact aBH m (htb.find hsi) hd1 ho hx
      ·cases hr
     ·cases hr
    split at hd
    ·rename_i hu8
     split at hd
     ·rename_i r hr
      cases hd
      obtain⟨z,h1,h2⟩:=X0 (P:=P) m (htb.find hsi) (htb.find hdi) (fun e he=>by
       rw[he]at hu8
       simp only[aE6]at hu8
       split at hu8
       ·rename_i te hte
        obtain⟨d,q1,q2⟩:=(htb.find hte).hu
        split at hu8
        ·rename_i hk
         rw[hk]at q2
         simp only[UK]at q2
         rw[q1,q2]
        ·cases hu8
       ·cases hu8) hr (bK hs xo)
      exact Good.of_run (v:=z) (w':=w) (by simp only[execOp,ho];rw[Sem.run_bind,h1];rfl) (Post.pure m h2)
     ·cases hd
    ·cases hd
   ·cases hd
  ·cases hd
 ·rename_i t xo lo hi ho
  unfold pU at hd
  split at hd
  ·rename_i ti ht
   split at hd
   ·rename_i l r hl hr
    have hl':=sG hs hl
    have hr':=sG hs hr
    have hx:=bK hs xo
    split at hd
    ·rename_i β str ex
     rw[ex]at hx
     split at hd
     ·rename_i hk
      cases hd
      exact z0 m (htb.find ht) hk ho hx hl' hr' hc.1 hc.2.1 hc.2.2
     ·cases hd
    ·rename_i β A xs ex
     rw[ex]at hx
     split at hd
     ·rename_i _ _ B het
      obtain⟨ti',h1,h1',h2,h3,h4,h5⟩:=eD htb het
      split at hd
      ·rename_i hAB
       subst hAB
       cases hd
       exact oK m h1 h2 h3 h4 ho hx hl' hr' hc.1 hc.2.1 hc.2.2
      ·cases hd
     ·cases hd
    ·rename_i id ex
     rw[ex]at hx
     split at hd
     ·rename_i e A xs hid
      split at hd
      ·rename_i _ _ _ het
       obtain⟨ti',h1,h1',h2,h3,h4,h5⟩:=eD htb het
       split at hd
       ·rename_i k
        cases hd
        cases lo with
        | some _=>exact hl'.elim
        | none =>
         cases hi with
         | none=>exact hr'.elim
         | some hio =>
          obtain⟨β,kk,hv⟩:=hr'
          exact yR m hn h1 h2 h3 (A:=A) ho hid hx hv hc.1 hc.2
       ·cases hd
      ·cases hd
     ·rename_i A xs hid
      split at hd
      ·rename_i _ _ B het
       obtain⟨ti',h1,h1',h2,h3,h4,h5⟩:=eD htb het
       split at hd
       ·rename_i hAB
        subst hAB
        cases hd
        obtain⟨u,q1,q2⟩:=m.ob id _ hid
        simp only[V]at hx
        rw[hx.1]at q1
        cases q1
        exact oK m h1 h2 h3 h4 ho q2 hl' hr' hc.1 hc.2.1 hc.2.2
       ·cases hd
      ·cases hd
     ·cases hd
    ·rename_i ex
     rw[ex]at hx
     split at hd
     ·rename_i _ _ A het
      obtain⟨ti',h1,h1',h2,h3,h4,h5⟩:=eD htb het
      cases hd
      exact zZ m h1 h2 h3 ho hx hl' hr' hc.1 hc.2.1 hc.2.2
     ·cases hd
    ·cases hd
   ·cases hd
  ·cases hd
 ·rename_i t xo lo hi mx ho
  unfold uH at hd
  split at hd
  ·rename_i _ _ B l r q het hl hr hq
   obtain⟨ti',h1,h1',h2,h3,h4,h5⟩:=eD htb het
   have hl':=sG hs hl
   obtain⟨β1,k1,hr'⟩:=vD hr (bK hs hi)
   obtain⟨β2,k2,hq'⟩:=vD hq (bK hs mx)
   have hx:=bK hs xo
   split at hd
   ·rename_i β A xs ex
    rw[ex]at hx
    split at hd
    ·rename_i hAB
     subst hAB
     cases hd
     exact vF m h1 h2 h3 h4 ho hx hl' hr' hq' hc.1 hc.2.1 hc.2.2.1 hc.2.2.2
    ·cases hd
   ·rename_i id ex
    rw[ex]at hx
    split at hd
    ·rename_i A xs hid
     split at hd
     ·rename_i hAB
      subst hAB
      cases hd
      obtain⟨u,q1,q2⟩:=m.ob id _ hid
      simp only[V]at hx
      rw[hx.1]at q1
      cases q1
      exact vF m h1 h2 h3 h4 ho q2 hl' hr' hq' hc.1 hc.2.1 hc.2.2.1 hc.2.2.2
     ·cases hd
    ·cases hd
   ·cases hd
  ·cases hd
 ·rename_i t xo f ho
  unfold V5 at hd
  split at hd
  ·rename_i ti ht
   split at hd
   ·rename_i fs hk
    split at hd
    ·rename_i off ft hf
     split at hd
     ·rename_i id i sz k ex
      cases hd
      exact qD m (htb.find ht) (bK hs xo) ho hk hf (.inl ⟨_,_,_,_,ex,rfl⟩)
     ·rename_i β cs k ex
      cases hd
      exact qD m (htb.find ht) (bK hs xo) ho hk hf (.inr ⟨_,_,_,ex,rfl⟩)
     ·cases hd
    ·cases hd
   ·cases hd
  ·cases hd
 ·rename_i t xo io ho
  split at hd
  case h_2=>exact aBI m htb (bK hs xo) (bK hs io) ho hd hc
  rename_i r0 hd0
  cases hd
  revert hd0
  intro hd
  unfold jD at hd
  split at hd
  ·rename_i e te A het
   obtain⟨ti',h1,h1',h2,h3,h4,h5⟩:=eD htb het
   split at hd
   ·rename_i β k i ei
    split at hd
    ·rename_i y sz c' hy
     split at hd
     ·rename_i hsz
      subst hsz
      cases hd
      have hi:=bK hs io
      rw[ei]at hi
      exact zF m h1 h2 h3 (bK hs xo) hi ho hy hc
     ·cases hd
    ·cases hd
   ·cases hd
  ·cases hd
 ·rename_i t xo io ho
  unfold U9 at hd
  split at hd
  ·rename_i ti ht
   split at hd
   ·rename_i hk
    split at hd
    ·rename_i β str β' k i ex ei
     cases hd
     have hx:=bK hs xo
     have hi:=bK hs io
     rw[ex]at hx
     rw[ei]at hi
     exact yN m (htb.find ht) hk hx hi ho hc.1 hc.2
    ·cases hd
   ·rename_i n e hk
    split at hd
    ·rename_i te hte
     split at hd
     ·rename_i k hek
      split at hd
      ·rename_i cs β k' j ex ei
       split at hd
       ·rename_i hn
        split at hd
        ·rename_i l hl
         cases hd
         have hx:=bK hs xo
         have hi:=bK hs io
         rw[ex]at hx
         rw[ei]at hi
         exact A9 m (htb.find ht) hk (htb.find hte) hek hx hl hn hi ho hc
        ·cases hd
       ·cases hd
      ·cases hd
     ·cases hd
    ·cases hd
   ·cases hd
  ·cases hd
 ·rename_i xo i ho
  unfold zK at hd
  split at hd
  ·rename_i cs ex
   split at hd
   ·rename_i y hy
    cases hd
    have hx:=bK hs xo
    rw[ex]at hx
    exact I0 m hx ho hy
   ·cases hd
  ·cases hd
 ·rename_i xo xt t ok ho
  exact O4 m ho (bK hs xo) hd hc
 ·rename_i fn first caps ho
  unfold aAE at hd
  split at hd
  ·rename_i f e
   cases hd
   have e':first = #[]:=Array.ext' e
   subst e'
   exact B9 m ho (p8 hs _)
  ·cases hd
 ·rename_i t lo co ho
  unfold aAD at hd
  split at hd
  ·rename_i e te A het
   obtain⟨ti',h1,h1',h2,h3,h4,h5⟩:=eD htb het
   split at hd
   ·rename_i β k l β' k' c' el ec
    cases hd
    have hl:=bK hs lo
    have hcc:=bK hs co
    rw[el]at hl
    rw[ec]at hcc
    exact aBq m hn h1 h2 h3 h4 h5 ho hl hcc hc.1 hc.2.1 hc.2.2.1 hc.2.2.2
   ·cases hd
  ·cases hd
 ·rename_i t ho
  split at hd
  ·rename_i r hs0
   cases hd
   have hd:=hs0
   unfold yP at hd
   split at hd
   ·rename_i K A c' hm
    cases hd
    obtain⟨ti,kt,et,te,h1,h2,h3,h5,h6⟩:=oA htb hm hc
    exact I6 m hn h3.isKey ho
   ·cases hd
  ·unfold vJ at hd
   split at hd
   ·rename_i K c' hm
    cases hd
    obtain⟨ti,kt,et,te,h1,h2,h3,h5⟩:=nX htb hm hc
    exact A5 m hn h3.isKey ho
   ·cases hd
 ·rename_i t xo ko ok ho
  split at hd
  ·rename_i r hs0
   cases hd
   have hd:=hs0
   unfold nK at hd
   split at hd
   ·rename_i K A c' hm
    split at hd
    ·rename_i id ex
     split at hd
     ·rename_i K1 A1 kv hi
      split at hd
      ·rename_i i hk1
       split at hd
       ·rename_i q
        obtain⟨rfl,rfl⟩:=q
        cases hd
        obtain⟨ti,kt,et,te,h1,h2,h3,h5,h6⟩:=oA htb hm hc
        have hx:=bK hs xo
        have hk:=bK hs ko
        rw[ex]at hx
        exact W2 m h1 h2 h3 h5 h6 ho hi hx (g9 hk1 h3.isKey hk)
       ·cases hd
      ·cases hd
     ·cases hd
    ·cases hd
   ·cases hd
  ·unfold l0 at hd
   split at hd
   ·rename_i K c' hm
    split at hd
    ·rename_i id ex
     split at hd
     ·rename_i K1 kv hi
      split at hd
      ·rename_i i j hk1 _
       split at hd
       ·rename_i q
        obtain⟨rfl,rfl⟩:=q
        cases hd
        obtain⟨ti,kt,et,te,h1,h2,h3,h5⟩:=nX htb hm hc.1
        have hx:=bK hs xo
        have hk:=bK hs ko
        rw[ex]at hx
        rw[←xU hc.2]
        exact J3 m h1 h2 h3 h5 ho hi hx (g9 hk1 h3.isKey hk)
       ·cases hd
      ·cases hd
     ·cases hd
    ·cases hd
   ·cases hd
 ·rename_i t xo ko yo ho
  split at hd
  ·rename_i r hs0
   cases hd
   have hd:=hs0
   unfold fO at hd
   split at hd
   ·rename_i K A c' hm
    split at hd
    ·rename_i id ex
     split at hd
     ·rename_i K1 A1 kv hi
      split at hd
      ·rename_i i hk1
       split at hd
       ·rename_i q
        obtain⟨rfl,rfl,hc1,hc2⟩:=q
        split at hd
        ·rename_i z us hz
         split at hd
         ·rename_i hus
          cases hd
          obtain⟨ti,kt,et,te,h1,h2,h3,h5,h6⟩:=oA htb hm hc
          have hx:=bK hs xo
          have hk:=bK hs ko
          rw[ex]at hx
          exact pG m h1 h2 h3 (.inl ho) hi (by rw[yW hus];exact hi) hx (g9 hk1 h3.isKey hk) (bK hs yo) hc1 hc2 hz
         ·cases hd
        ·cases hd
       ·cases hd
      ·cases hd
     ·cases hd
    ·cases hd
   ·cases hd
  ·unfold eY at hd
   split at hd
   ·rename_i K c' hm
    split at hd
    ·rename_i id ex
     split at hd
     ·rename_i K1 kv hi
      split at hd
      ·rename_i i v hk1 hv1
       split at hd
       ·rename_i q
        obtain⟨rfl,q2⟩:=q
        cases hd
        obtain⟨ti,kt,et,te,h1,h2,h3,h5⟩:=nX htb hm hc
        have hx:=bK hs xo
        have hk:=bK hs ko
        rw[ex]at hx
        refine oL m h1 h2 h3 (.inl ho) hi hx (g9 hk1 h3.isKey hk) (wA hv1 (bK hs yo)) (fun p hp e=> ?_)
        have:=List.all_eq_true.1 q2 p hp
        rw[(bX h3.isKey).2 e]at this
        cases this
       ·cases hd
      ·cases hd
     ·cases hd
    ·cases hd
   ·cases hd
 ·rename_i t xo ko yo ho
  split at hd
  ·rename_i r hs0
   cases hd
   have hd:=hs0
   unfold fO at hd
   split at hd
   ·rename_i K A c' hm
    split at hd
    ·rename_i id ex
     split at hd
     ·rename_i K1 A1 kv hi
      split at hd
      ·rename_i i hk1
       split at hd
       ·rename_i q
        obtain⟨rfl,rfl,hc1,hc2⟩:=q
        split at hd
        ·rename_i z us hz
         split at hd
         ·rename_i hus
          cases hd
          obtain⟨ti,kt,et,te,h1,h2,h3,h5,h6⟩:=oA htb hm hc
          have hx:=bK hs xo
          have hk:=bK hs ko
          rw[ex]at hx
          exact pG m h1 h2 h3 (.inr ho) hi (by rw[yW hus];exact hi) hx (g9 hk1 h3.isKey hk) (bK hs yo) hc1 hc2 hz
         ·cases hd
        ·cases hd
       ·cases hd
      ·cases hd
     ·cases hd
    ·cases hd
   ·cases hd
  ·unfold eY at hd
   split at hd
   ·rename_i K c' hm
    split at hd
    ·rename_i id ex
     split at hd
     ·rename_i K1 kv hi
      split at hd
      ·rename_i i v hk1 hv1
       split at hd
       ·rename_i q
        obtain⟨rfl,q2⟩:=q
        cases hd
        obtain⟨ti,kt,et,te,h1,h2,h3,h5⟩:=nX htb hm hc
        have hx:=bK hs xo
        have hk:=bK hs ko
        rw[ex]at hx
        refine oL m h1 h2 h3 (.inr ho) hi hx (g9 hk1 h3.isKey hk) (wA hv1 (bK hs yo)) (fun p hp e=> ?_)
        have:=List.all_eq_true.1 q2 p hp
        rw[(bX h3.isKey).2 e]at this
        cases this
       ·cases hd
      ·cases hd
     ·cases hd
    ·cases hd
   ·cases hd
 ·rename_i c ho
  obtain⟨callee,args,tys⟩:=c
  unfold qQ at hd
  simp only at hd
  split at hd
  ·rename_i b
   unfold rP at hd
   split at hd
   ·rename_i x0 t ex et
    obtain⟨xo,eargs,rfl⟩:∃xo,args = #[xo]∧ev s xo=x0:=by
     match hargs:args.toList,ex with
     | [xo],ex=>exact⟨xo,Array.ext' hargs,by simpa using ex⟩
    have etys:tys = #[t]:=Array.ext' et
    subst eargs etys
    split at hd
    ·unfold uG at hd
     split at hd
     ·rename_i ti ht
      split at hd
      ·rename_i kt et id hk ex
       split at hd
       ·rename_i K A kv hi
        cases hd
        have hx:=bK hs xo
        rw[ex]at hx
        exact J2 m (htb.find ht) hk hi hx ho
       ·cases hd
      ·cases hd
     ·cases hd
    unfold aAt at hd
    split at hd
    ·rename_i ti ht
     split at hd
     ·rename_i k hk
      split at hd
      ·rename_i e he
       split at hd
       ·cases hd
       ·rename_i hstr
        cases hd
        refine Q8 m (htb.find ht) (.inl ⟨e,he⟩) (bK hs xo) ho hk ⟨fun h=>(by rw[he]at h;cases h),fun⟨β,str,ex⟩=> ?_⟩
        rw[ex]at hstr
        exact absurd rfl hstr
      ·rename_i he
       split at hd
       ·rename_i hstr
        cases hd
        refine Q8 m (htb.find ht) (.inr he) (bK hs xo) ho hk ⟨fun _=> ?_,fun _=>he⟩
        unfold aCh at hstr
        split at hstr
        ·rename_i β str ex;exact⟨β,str,ex⟩
        ·cases hstr
       ·cases hd
      ·cases hd
     ·cases hd
    ·cases hd
   ·rename_i x0 y0 ex
    obtain⟨xo,yo,eargs,rfl,rfl⟩:∃xo yo,args = #[xo,yo]∧ev s xo=x0∧ev s yo=y0:=by
     match hargs:args.toList,ex with
     | [xo,yo],ex=>exact⟨xo,yo,Array.ext' hargs,by simp at ex;exact ex.1,by simp at ex;exact ex.2⟩
    subst eargs
    unfold aAM at hd
    split at hd
    ·rename_i β k i β' k' j ex ey
     split at hd
     ·rename_i hkk
      subst hkk
      cases hd
      have hx:=bK hs xo
      have hy:=bK hs yo
      rw[ex]at hx
      rw[ey]at hy
      exact aCI m hx hy ho
     ·cases hd
    ·cases hd
   ·rename_i x0 y0 ex
    obtain⟨xo,yo,eargs,rfl,rfl⟩:∃xo yo,args = #[xo,yo]∧ev s xo=x0∧ev s yo=y0:=by
     match hargs:args.toList,ex with
     | [xo,yo],ex=>exact⟨xo,yo,Array.ext' hargs,by simp at ex;exact ex.1,by simp at ex;exact ex.2⟩
    subst eargs
    unfold aAM at hd
    split at hd
    ·rename_i β k i β' k' j ex ey
     split at hd
     ·rename_i hkk
      subst hkk
      cases hd
      have hx:=bK hs xo
      have hy:=bK hs yo
      rw[ex]at hx
      rw[ey]at hy
      exact aCr m hx hy ho
     ·cases hd
    ·cases hd
   ·rename_i x0 y0 t t' ex et
    obtain⟨xo,yo,eargs,rfl,rfl⟩:∃xo yo,args = #[xo,yo]∧ev s xo=x0∧ev s yo=y0:=by
     match hargs:args.toList,ex with
     | [xo,yo],ex=>exact⟨xo,yo,Array.ext' hargs,by simp at ex;exact ex.1,by simp at ex;exact ex.2⟩
    have etys:tys = #[t,t']:=Array.ext' et
    subst eargs etys
    split at hd
    ·rename_i htt
     subst htt
     unfold nG at hd
     split at hd
     ·rename_i e te A het
      obtain⟨ti',h1,h1',h2,h3,h4,h5⟩:=eD htb het
      split at hd
      ·rename_i ys hys
       split at hd
       ·rename_i ex
        cases hd
        exact vO m hn h1 h2 h3 h4 h5 (bK hs xo) (bK hs yo) ho (xs:=[]) (.inl ⟨ex,rfl,rfl,rfl⟩) hys hc.1 hc.2
       ·rename_i id ex
        split at hd
        ·rename_i e' B xs hid
         split at hd
         ·rename_i hBA
          subst hBA
          split at hd
          ·rename_i hee
           subst hee
           simp only[Option.some.injEq,Prod.mk.injEq]at hd
           obtain⟨rfl,rfl,rfl⟩:=hd
           exact vO m hn h1 h2 h3 h4 h5 (bK hs xo) (bK hs yo) ho (xs:=xs) (.inr ⟨id,ex,hid,rfl,rfl⟩) hys hc.1 hc.2
          ·cases hd
         ·cases hd
        ·cases hd
       ·cases hd
      ·cases hd
     ·cases hd
    ·cases hd
   ·rename_i x0 y0 t t' ex et
    obtain⟨xo,yo,eargs,rfl,rfl⟩:∃xo yo,args = #[xo,yo]∧ev s xo=x0∧ev s yo=y0:=by
     match hargs:args.toList,ex with
     | [xo,yo],ex=>exact⟨xo,yo,Array.ext' hargs,by simp at ex;exact ex.1,by simp at ex;exact ex.2⟩
    have etys:tys = #[t,t']:=Array.ext' et
    subst eargs etys
    unfold sN at hd
    split at hd
    ·rename_i e te A het
     obtain⟨ti',h1,h1',h2,h3,h4,h5⟩:=eD htb het
     split at hd
     ·rename_i ys hys
      split at hd
      ·rename_i id ex
       split at hd
       ·rename_i e' B xs hid
        split at hd
        ·rename_i hBA
         subst hBA
         simp only[Option.some.injEq,Prod.mk.injEq]at hd
         obtain⟨rfl,rfl,rfl⟩:=hd
         have hx:=bK hs xo
         rw[ex]at hx
         exact aB1 m h1 h2 h3 h4 hx (bK hs yo) ho hid hys
        ·cases hd
       ·cases hd
      ·cases hd
     ·cases hd
    ·cases hd
   ·cases hd
  ·rename_i fo
   unfold wV at hd
   split at hd
   ·rename_i fid caps q ef
    split at hd
    ·rename_i ys u' hfz
     have hf:=yI (bK hs fo)
     rw[ef]at hf
     obtain⟨q1,q2,q3⟩:=n9 m hfz
     split at hd
     ·split at hd
      ·split at hd
       ·rename_i args' hin hl hi
        split at hd
        ·rename_i hok
         cases hd
         have hc:Owns P fid args' hin q.r q.hout:=by
          unfold yF at hc
          rw[show q.die=none from hdie]at hc
          exact hc
         have hg:=aCv (new:=new) q1 hn8 ho (V.mono q2 (fun _ _ h=>h) hf) (q3 _ (mA (p8 hs args.toList))) hl hi hok hc
         refine fun K Q hk=>hg K Q fun v w' hp=>hk v w' ?_
         exact Post.after (h:=h) (u1:=u') rfl q2 hp
        ·cases hd
       ·cases hd
      ·cases hd
     ·split at hd
      ·rename_i args' hl
       cases hd
       have hg:=aBm (new:=new) q1 ho (V.mono q2 (fun _ _ h=>h) hf) (q3 _ (mA (p8 hs args.toList))) hl hc
       refine fun K Q hk=>hg K Q fun v w' hp=>hk v w' ?_
       have:=Post.after (h:=h) (u1:=u) rfl q2 hp
       simpa using this
      ·cases hd
    ·cases hd
   ·cases hd
  ·cases hd
 ·cases hd
def aE9:AVal→Bool
 | .unk=>true
 | _=>false
def aCQ(op:Op)(orc:Option Orc):Option Value :=
 match op,orc with
 | .call c,some q=>match c.callee with
  | .value _=>if q.own && aE9 q.r && q.hout.isEmpty then q.die else none
  | _=>none
 | _,_=>none
theorem aEH(m:Mem Bw w0 ρ φ h w)(hs:Slots n (Fr (own φ h) Bw w) ρ s a)(hn8:∀j,j<8→ρ (new+j)=none){o:Oper}{asm:Option Bool}{orc:Option Orc}{y:Value}(hdy:aCQ o.op orc=some y){x:AVal}{u:j6}{c:Prop}
  (hd:oJ P tb new asm orc o.op s h=some (x,u,c)) (hc:c):Bad P o a w y (fun w'=>∃v,Post Bw w0 ρ φ h w new .unk u v w'):=by
 unfold aCQ at hdy
 split at hdy
 ·rename_i c0 q ho
  split at hdy
  ·rename_i fo hfo
   split at hdy
   ·rename_i hcond
    simp only[Bool.and_eq_true,List.isEmpty_iff]at hcond
    obtain⟨⟨hown,hunk⟩,hout⟩:=hcond
    obtain⟨callee,args,tys⟩:=c0
    simp only at hfo
    subst hfo
    have hr:q.r = .unk:=by
     unfold aE9 at hunk
     split at hunk
     ·assumption
     ·cases hunk
    rw[ho]at hd
    simp only[oJ,qQ]at hd
    unfold wV at hd
    split at hd
    ·rename_i fid caps q' ef eq
     cases eq
     split at hd
     ·rename_i ys u' hfz
      have hf:=yI (bK hs fo)
      rw[ef]at hf
      obtain⟨q1,q2,q3⟩:=n9 m hfz
      rw[if_pos hown]at hd
      split at hd
      ·split at hd
       ·rename_i args' hin hl hi
        split at hd
        ·rename_i hok
         cases hd
         rw[hr,hout]at hok
         have hc:Dies P fid args' hin y:=by
          unfold yF at hc
          rw[hdy]at hc
          exact hc
         have hg:=aEI (new:=new) q1 hn8 ho (V.mono q2 (fun _ _ h=>h) hf) (q3 _ (mA (p8 hs args.toList))) hl hi hok hc
         refine fun K Q hk=>hg K Q fun w' ⟨v,hp⟩=>hk w' ⟨v,?_⟩
         rw[hout]
         exact Post.after (h:=h) (u1:=u') rfl q2 hp
        ·cases hd
       ·cases hd
      ·cases hd
     ·cases hd
    ·cases hd
   ·cases hdy
  ·cases hdy
 ·cases hdy
end
end Go.Tv
