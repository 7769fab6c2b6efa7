/- What an operation comes to, by a function. -/
import Derived.Test.YtacpjjgochokcaaDoorTvKhm
namespace Go.Tv
open Go Go.RowKit
def qE(s:Nat→AVal):Option Operand→Option (Option Int)
 | none=>some none
 | some x=>match ev s x with
  | .p _ (.int _) n=>some (some n)
  | _=>none
def i6(tb:Tab)(t:TypeId):Option (TypeId×TI×Ty) :=
 match tb.find t with
 | some ti=>match ti.k with
  | .sl e=>match tb.find e with
   | some te=>match te.T with
    | some A=>if 0<A.size then some (e,te,A)else none
    | none=>none
   | none=>none
  | _=>none
 | none=>none
def zT(tb:Tab)(new:Nat)(t:TypeId):Option lB :=
 match tb.find t with
 | some ti=>some (.adr new 0 ti.size 0,[(new,some (.box ti.z))],True)
 | none=>none
def aAo(new:Nat)(x:AVal):Option lB :=
 if(cellsOf x).all AVal.cell then some (.adr new 0 (cellsOf x).length 0,[(new,some (.box (cellsOf x)))],True)else none
def A0(tb:Tab)(t:TypeId)(is:List Nat)(xs:List AVal):Option lB :=
 match tb.find t with
 | some ti=>match ti.k with
  | .st fs=>match iD tb fs (is.zip xs) ti.z with
   | some ds=>some (.agg ds,[],True)
   | none=>none
  | .ar n e=>match tb.find e with
   | some te=>match iD tb ((List.range n).map fun i=>(i*te.size,e)) (is.zip xs) ti.z with
    | some ds=>some (.agg ds,[],True)
    | none=>none
   | none=>none
  | _=>none
 | none=>none
def kV(tb:Tab)(new:Nat)(t:TypeId)(len:Nat)(is:List Nat)(xs:List AVal)(h:Nat→Option Obj):Option lB :=
 match i6 tb t with
 | some (e,te,A) =>
  if is=List.range len∧xs.all (fun x=>(cellsOf x).all AVal.cell)=true∧len*te.size≤16777216 then
   match C2 A h xs with
   | some (ys,us)=>some (.sl new,us++[(new,some (.arr e A ys))],True)
   | none=>none
  else none
 | none=>none
def lJ(ti:TI)(x:AVal)(h:Nat→Option Obj):Option lB :=
 match x,ti.k with
 | .ada id b n i,.int k=>match h id with
  | some (.box cs)=>if b+n≤cs.length then(match p7 k ((cs.drop b).take n)with
   | some l=>some (.p false (.int k) (l.getD i 0),[],True)
   | none=>none)else none
  | _=>none
 | _,_=>none
def jM(ti:TI)(x y:AVal)(h:Nat→Option Obj):Option lB :=
 match x,y with
 | .ada id b n i,.p _ (.int k) v=>match h id with
  | some (.box cs)=>if b+n≤cs.length∧ti.size=1 then(match p7 k ((cs.drop b).take n)with
   | some l=>some (.unk,[(id,some (.box (cs.take b++wL k i v 0 l++cs.drop (b+n))))],True)
   | none=>none)else none
  | _=>none
 | _,_=>none
def jP(tb:Tab)(t:TypeId)(x i:AVal)(h:Nat→Option Obj):Option lB :=
 match tb.find t with
 | some ti=>match ti.k with
  | .ar n e=>match tb.find e with
   | some te=>if te.size=1 then(match x,i with
    | .adr id j sz off,.p _ (.int _) m=>match h id with
     | some (.box _)=>some (.ada id (j*sz+off) n (show Int from m).toNat,[],0≤(show Int from m)∧(show Int from m)<(n:Int))
     | _=>none
    | .ada id b N p,.p _ (.int _) m=>some (.ada id b N (p+(show Int from m).toNat),[],(0≤(show Int from m)∧(show Int from m)<(n:Int))∧p+(show Int from m).toNat<N)
    | _,_=>none)else if 0<te.size then(match x,i with
    | .adr id j sz off,.p _ (.int _) m=>match h id with
     | some (.box _)=>some (.ada id (j*sz+off) (n*te.size) ((show Int from m).toNat*te.size),[],0≤(show Int from m)∧(show Int from m)<(n:Int))
     | _=>none
    | _,_=>none)else none
   | none=>none
  | _=>none
 | none=>none
def kP(new:Nat)(ti:TI)(x:AVal)(h:Nat→Option Obj):Option lB :=
 match x with
 | .adr id i sz off=>if sz=1∧off=0∧ti.k.agg=false then
   match h id with
   | some (.mat e e2 A xss none)=>some (.sl new,[(id,some (.mat e e2 A xss (some (i,new)))),(new,some (.arr e2 A (xss.getD i [])))],i<xss.length)
   | some (.mat e e2 A xss (some (k,j)))=>match h j with
    | some (.arr e3 B ys)=>if q:B=A then(if e3=e2 then
      some (.sl new,[(j,none),(id,some (.mat e e2 A (xss.set k (q ▸ ys:List A.den)) none))]++[(id,some (.mat e e2 A (xss.set k (q ▸ ys:List A.den)) (some (i,new)))),(new,some (.arr e2 A ((xss.set k (q ▸ ys:List A.den)).getD i [])))],i<xss.length)else none)else none
    | _=>none
   | _=>none
  else none
 | _=>none
def zF(tb:Tab)(new:Nat)(t:TypeId)(x:AVal)(h:Nat→Option Obj):Option lB :=
 match tb.find t with
 | some ti=>match kQ h x with
  | some (cs,off,c)=>match qI ti cs off with
   | some y=>some (y,[],c)
   | none=>none
  | none=>match lJ ti x h with
   | some r=>some r
   | none=>kP new ti x h
 | none=>none
def rS(id i:Nat)(e e2:TypeId)(A:Ty)(xss:List (List A.den))(hole:Option (Nat×Nat))(y:AVal)(h:Nat→Option Obj):Option lB :=
 match y with
 | .sl r=>match h r with
  | some (.arr e3 B _)=>if B=A∧e3=e2 then
    match hole with
    | none=>some (.unk,[(id,some (.mat e e2 A xss (some (i,r))))],i<xss.length)
    | some (k,j)=>match h j with
     | none=>some (.unk,[(id,some (.mat e e2 A xss (some (i,r))))],k=i∧i<xss.length)
     | some (.arr e4 C ys)=>if q:C=A then(if e4=e2∧j≠r then
       some (.unk,[(j,none),(id,some (.mat e e2 A (xss.set k (q ▸ ys:List A.den)) none))]++[(id,some (.mat e e2 A (xss.set k (q ▸ ys:List A.den)) (some (i,r))))],i<xss.length)else none)else none
     | _=>none
   else none
  | _=>none
 | _=>none
def nP(tb:Tab)(t:TypeId)(x y:AVal)(h:Nat→Option Obj):Option lB :=
 match tb.find t with
 | some ti =>
  if(cellsOf y).all AVal.cell=true∧(cellsOf y).length=ti.size then
   match x with
   | .adr id i sz off=>match h id with
    | some (.box cs)=>if i*sz+off+ti.size≤cs.length then some (.unk,[(id,some (.box (wr cs (i*sz+off) (cellsOf y))))],True)else none
    | some (.arr e A xs) =>
     if sz=A.size∧off+ti.size≤A.size then
      match C8 A h xs i off y with
      | some (z,us)=>if us.all (fun p=>p.1 != id)then some (.unk,us++[(id,some (.arr e A (xs.set i z)))],i<xs.length)else none
      | none=>none
     else none
    | some (.mat e e2 A xss hole)=>if sz=1∧off=0 then rS id i e e2 A xss hole y h else none
    | _=>none
   | _=>jM ti x y h
  else none
 | none=>none
def Z1(x:AVal):Option lB :=
 match x with
 | .adr id i sz off=>some (.adr id i sz off,[],True)
 | .fad β cs off=>some (.fad β cs off,[],True)
 | .p β (.ptr A) q=>some (.fad β (gV β A (q.getD A.zero)) 0,[],q.isSome=true)
 | _=>none
def zG:AVal→Option Bool
 | .nilp=>some true
 | .adr _ _ _ _=>some false
 | .fad _ _ _=>some false
 | _=>none
def eqR(op:BinOp)(b:Bool):Option AVal :=
 match op with
 | .eql=>some (.p false .bool b)
 | .neq=>some (.p false .bool (!b))
 | _=>none
def X6(P:Program)(ti:TI)(op:BinOp)(t:TypeId)(x y:AVal):Option lB :=
 match x,y with
 | .agg cs,.agg ds=>match ti.T with
  | some T=>match iV T cs,iV T ds with
   | some (a,[]),some (b,[])=>match eqR op (eqE T a b)with
    | some r=>some (r,[],aDM P t T)
    | none=>none
   | _,_=>none
  | none=>none
 | .p _ (.ptr _) q,.nilp=>match eqR op q.isNone with
  | some r=>some (r,[],∃e,P.underlying t=some (.pointer e))
  | none=>none
 | x,y=>match zG x,zG y with
  | some true,some b=>match eqR op b with
   | some r=>some (r,[],∃e,P.underlying t=some (.pointer e))
   | none=>none
  | some false,some true=>match eqR op false with
   | some r=>some (r,[],∃e,P.underlying t=some (.pointer e))
   | none=>none
  | _,_=>match x,y with
   | .lit (.iface _ _),.lit .nilIface=>match eqR op false with
    | some r=>some (r,[],∃ms,P.underlying t=some (.interface ms))
    | none=>none
   | _,_=>none
def sE(P:Program)(x:AVal)(at':TypeId)(ok:Bool):Option lB :=
 match x with
 | .lit (.iface t v)=>if t=at'∧ok=true then some (.tup [yO v,.p false .bool true],[],∃d,P.underlying at'=some d∧(match d with | .interface _=>false | _=>true)=true)else none
 | _=>none
def aAJ(P:Program)(tb:Tab)(op:BinOp)(t:TypeId)(x y:AVal):Option lB :=
 match tb.find t with
 | some ti=>match bin ti.k op x y with
  | some (r,c)=>some (r,[],c)
  | none=>X6 P ti op t x y
 | none=>none
def aBR(op:UnOp)(x:AVal):Option lB :=
 match un op x with
 | some r=>some (r,[],True)
 | none=>none
def aBq(tb:Tab)(k:TK):Bool :=
 match k with
 | .sl e=>match tb.find e with
  | some te=>match te.k with
   | .int .u8=>true
   | _=>false
  | none=>false
 | _=>true
def X8(tb:Tab)(dk:TK)(x:AVal):Option AVal :=
 match x with
 | .p _ .str l=>match dk with
  | .sl e=>if aBq tb (.sl e)then some (.p false (.slice (.int .u8)) (u4 l))else none
  | _=>none
 | .p _ (.int _) n=>match dk with
  | .str=>some (.p false .str (U3 n))
  | _=>none
 | _=>none
def yP(tb:Tab)(st dt:TypeId)(x:AVal)(h:Nat→Option Obj):Option lB :=
 match tb.find st with
 | some si=>match tb.find dt with
  | some di=>match X8 tb di.k x with
   | some r=>some (r,[],True)
   | none=>if aBq tb si.k then(match conv si.k di.k h x with
    | some r=>some (r,[],True)
    | none=>none)else none
  | none=>none
 | none=>none
def mP(tb:Tab)(new:Nat)(t:TypeId)(x:AVal)(lo hi:Option (Option Int))(h:Nat→Option Obj):Option lB :=
 match tb.find t with
 | some ti=>match lo,hi with
  | some l,some r=>match x with
   | .p _ .str s=>match ti.k with
    | .str=>some (.p false .str ((s.take (r.getD s.length).toNat).drop (l.getD 0).toNat),[],0≤l.getD 0∧l.getD 0≤r.getD s.length∧r.getD s.length≤s.length)
    | _=>none
   | .p β (.slice A) xs=>match i6 tb t with
    | some (_,_,B)=>if A=B then some (.p β (.slice A) ((xs.take (r.getD xs.length).toNat).drop (l.getD 0).toNat),[],0≤l.getD 0∧l.getD 0≤r.getD xs.length∧r.getD xs.length≤xs.length)else none
    | none=>none
   | .sl id=>match h id with
    | some (.arr e A xs)=>match i6 tb t with
     | some (_,_,_)=>match l,r with
      | none,some k=>some (.sl new,[(id,none),(new,some (.arr e A (xs.take k.toNat)))],0≤k∧k≤xs.length)
      | _,_=>none
     | none=>none
    | some (.fz A xs)=>match i6 tb t with
     | some (_,_,B)=>if A=B then some (.p false (.slice A) ((xs.take (r.getD xs.length).toNat).drop (l.getD 0).toNat),[],0≤l.getD 0∧l.getD 0≤r.getD xs.length∧r.getD xs.length≤xs.length)else none
     | none=>none
    | _=>none
   | .nils=>match i6 tb t with
    | some (_,_,_)=>some (.nils,[],0≤l.getD 0∧l.getD 0≤r.getD 0∧r.getD 0≤0)
    | none=>none
   | _=>none
  | _,_=>none
 | none=>none
def M4:AVal→Option Int
 | .p _ (.int _) n=>some n
 | _=>none
def rT(tb:Tab)(t:TypeId)(x:AVal)(lo:Option (Option Int))(hi mx:AVal)(h:Nat→Option Obj):Option lB :=
 match i6 tb t,lo,M4 hi,M4 mx with
 | some (_,_,B),some l,some r,some q=>match x with
  | .p β (.slice A) xs=>if A=B then some (.p β (.slice A) ((xs.take r.toNat).drop (l.getD 0).toNat),[],0≤l.getD 0∧l.getD 0≤r∧r≤q∧q≤xs.length)else none
  | .sl id=>match h id with
   | some (.fz A xs)=>if A=B then some (.p false (.slice A) ((xs.take r.toNat).drop (l.getD 0).toNat),[],0≤l.getD 0∧l.getD 0≤r∧r≤q∧q≤xs.length)else none
   | _=>none
  | _=>none
 | _,_,_,_=>none
def E5(tb:Tab)(t:TypeId)(x:AVal)(f:Nat):Option lB :=
 match tb.find t with
 | some ti=>match ti.k with
  | .st fs=>match fs[f]? with
   | some (off,_)=>match x with
    | .adr id i sz k=>some (.adr id i sz (k+off),[],True)
    | .fad β cs k=>some (.fad β cs (k+off),[],True)
    | _=>none
   | none=>none
  | _=>none
 | none=>none
def g6(tb:Tab)(t:TypeId)(x i:AVal)(h:Nat→Option Obj):Option lB :=
 match i6 tb t with
 | some (_,te,_)=>match i with
  | .p _ (.int _) n=>match xZ h x n with
   | some (y,sz,c)=>if sz=te.size then some (y,[],c)else none
   | none=>none
  | _=>none
 | none=>none
def D9(tb:Tab)(t:TypeId)(x i:AVal):Option lB :=
 match tb.find t with
 | some ti=>match ti.k with
  | .str=>match x,i with
   | .p _ .str s,.p _ (.int _) n=>some (.p false (.int .u8) ((s.getD n.toNat 0).toNat:Int),[],0≤n∧n<s.length)
   | _,_=>none
  | .ar n e=>match tb.find e with
   | some te=>match te.k with
    | .int k=>match x,i with
     | .agg cs,.p _ (.int _) m=>if cs.length=n then(match p7 k cs with
      | some l=>some (.p false (.int k) (l.getD (show Int from m).toNat 0),[],0≤(show Int from m)∧(show Int from m)<(n:Int))
      | none=>none)else none
     | _,_=>none
    | _=>none
   | none=>none
  | _=>none
 | none=>none
def uX(x:AVal)(i:Nat):Option lB :=
 match x with
 | .tup cs=>match cs[i]? with
  | some y=>some (y,[],True)
  | none=>none
 | _=>none
def N5(e:TypeId)(te:TI)(A:Ty)(n:Nat):Obj :=
 match A with
 | .slice B=>match te.k,te.z with
  | .sl e2,[.nils]=>if 0<B.size then .mat e e2 B (List.replicate n []) none else .arr e (.slice B) (List.replicate n [])
  | _,_=> .arr e (.slice B) (List.replicate n [])
 | A=> .arr e A (List.replicate n A.zero)
def L8(tb:Tab)(new:Nat)(t:TypeId)(l c:AVal):Option lB :=
 match i6 tb t with
 | some (e,te,A)=>match l,c with
  | .p _ (.int _) n,.p _ (.int _) k=>some (.sl new,[(new,some (N5 e te A n.toNat))],0≤n∧n≤k∧(te.bytes:Int)*k≤281474976710656∧k≤9223372036854775807)
  | _,_=>none
 | none=>none
def aAl:AVal→Bool
 | .p _ .str _=>true
 | _=>false
def J0(tb:Tab)(t:TypeId)(x:AVal)(h:Nat→Option Obj):Option lB :=
 match tb.find t with
 | some ti=>match lenOf h x with
  | some n=>match ti.k with
   | .sl _=>if aAl x then none else some (.p false (.int .i64) n,[],True)
   | .str=>if aAl x then some (.p false (.int .i64) n,[],True)else none
   | _=>none
  | none=>none
 | none=>none
def lN(tb:Tab)(new:Nat)(t:TypeId)(x y:AVal)(h:Nat→Option Obj):Option lB :=
 match i6 tb t with
 | some (e,te,A)=>match hJ h A y with
  | some ys=>match x with
   | .nils=>some (.sl new,[(new,some (.arr e A ys))],(([]:List A.den).length+ys.length)*te.bytes≤140737488355328∧([]:List A.den).length+ys.length≤9223372036854775807)
   | .sl id=>match h id with
    | some (.arr e' B xs)=>if q:B=A then(if e'=e then some (.sl new,[(id,none),(new,some (.arr e A ((q ▸ xs:List A.den)++ys)))],((q ▸ xs:List A.den).length+ys.length)*te.bytes≤140737488355328∧(q ▸ xs:List A.den).length+ys.length≤9223372036854775807)else none)else none
    | _=>none
   | _=>none
  | none=>none
 | none=>none
def q9(tb:Tab)(t:TypeId)(x y:AVal)(h:Nat→Option Obj):Option lB :=
 match i6 tb t with
 | some (_,_,A)=>match hJ h A y with
  | some ys=>match x with
   | .sl id=>match h id with
    | some (.arr e' B xs)=>if q:B=A then some (.p false (.int .i64) ((min ys.length (q ▸ xs:List A.den).length:Nat):Int),[(id,some (.arr e' A (ys.take (q ▸ xs:List A.den).length++(q ▸ xs:List A.den).drop ys.length)))],True)else none
    | _=>none
   | _=>none
  | none=>none
 | none=>none
def aAS(P:Program)(kt:TypeId)(ki:TI):Option (Ty×Prop) :=
 match aBy ki.k with
 | some K=>some (K,True)
 | none=>match ki.T with
  | some K=>if K.scalar=false then some (K,KeyOk P kt K)else none
  | none=>none
def Z4(P:Program)(tb:Tab)(t:TypeId):Option (Ty×Ty×Prop) :=
 match tb.find t with
 | some ti=>match ti.k with
  | .mp kt et=>match tb.find kt,tb.find et with
   | some ki,some te=>match aAS P kt ki,te.T with
    | some (K,c),some A=>some (K,A,c)
    | _,_=>none
   | _,_=>none
  | _=>none
 | none=>none
def sK(K:Ty)(x:AVal):Option K.den :=
 match x with
 | .p _ K2 i=>if q:K2=K then(if K.scalar=true then some (q ▸ i)else none)else none
 | .agg cs=>if K.scalar=false∧cs.length=K.size then match iV K cs with
  | some (k,_)=>some k
  | none=>none
  else none
 | _=>none
def vZ(P:Program)(tb:Tab)(new:Nat)(t:TypeId):Option lB :=
 match Z4 P tb t with
 | some (K,A,c)=>some (.mp new,[(new,some (.mpo K A []))],c)
 | none=>none
def lG(P:Program)(tb:Tab)(t:TypeId)(x k:AVal)(ok:Bool)(h:Nat→Option Obj):Option lB :=
 match Z4 P tb t with
 | some (K,A,c)=>match x with
  | .mp id=>match h id with
   | some (.mpo K1 A1 kv)=>match sK K1 k with
    | some i=>if K1=K∧A1=A then
     some (if ok then .tup [enc false A1 ((bF K1 kv i).getD A1.zero),.p false .bool (bF K1 kv i).isSome]else enc false A1 ((bF K1 kv i).getD A1.zero),[],c)else none
    | none=>none
   | _=>none
  | _=>none
 | none=>none
def eT(P:Program)(tb:Tab)(t:TypeId)(x k y:AVal)(h:Nat→Option Obj):Option lB :=
 match Z4 P tb t with
 | some (K,A,c)=>match x with
  | .mp id=>match h id with
   | some (.mpo K1 A1 kv)=>match sK K1 k with
    | some i=>if K1=K∧A1=A∧(cellsOf y).all AVal.cell=true∧jE A1 y=true then
     match T7 A1 h y with
     | some (z,us)=>if us.all (fun p=>p.1 != id)then some (.unk,us++[(id,some (.mpo K1 A1 (eF K1 kv i z)))],c)else none
     | none=>none
     else none
    | none=>none
   | _=>none
  | _=>none
 | none=>none
def W0(P:Program)(tb:Tab)(t:TypeId):Option (Ty×Prop) :=
 match tb.find t with
 | some ti=>match ti.k with
  | .mp kt et=>match tb.find kt,tb.find et with
   | some ki,some te=>match te.T with
    | none=>aAS P kt ki
    | some _=>none
   | _,_=>none
  | _=>none
 | none=>none
def tR(P:Program)(tb:Tab)(new:Nat)(t:TypeId):Option lB :=
 match W0 P tb t with
 | some (K,c)=>some (.mp new,[(new,some (.mpl K []))],c)
 | none=>none
def V6:AVal→Option Value
 | .lit v=>some v
 | .fn f []=>some (.func (.func f) #[] #[])
 | _=>none
def dX(P:Program)(tb:Tab)(t:TypeId)(x k y:AVal)(h:Nat→Option Obj):Option lB :=
 match W0 P tb t with
 | some (K,c)=>match x with
  | .mp id=>match h id with
   | some (.mpl K1 kv)=>match sK K1 k,V6 y with
    | some i,some v=>if K1=K∧kv.all (fun p=> !iL K1 p.1 i)=true then some (.unk,[(id,some (.mpl K1 (kv++[(i,v)])))],c)else none
    | _,_=>none
   | _=>none
  | _=>none
 | none=>none
def jS(P:Program)(tb:Tab)(t:TypeId)(g:List Nat)(x k:AVal)(ok:Bool)(h:Nat→Option Obj):Option lB :=
 match W0 P tb t with
 | some (K,c)=>match x with
  | .mp id=>match h id with
   | some (.mpl K1 kv)=>match sK K1 k,g with
    | some i,[j]=>if K1=K∧ok=true then some (M2 ((kv[j]?).map (·.2)),[],c∧qW K1 kv i j)else none
    | _,_=>none
   | _=>none
  | _=>none
 | none=>none
def sD(tb:Tab)(t:TypeId)(x:AVal)(h:Nat→Option Obj):Option lB :=
 match tb.find t with
 | some ti=>match ti.k,x with
  | .mp _ _,.mp id=>match h id with
   | some (.mpo _ _ kv)=>some (.p false (.int .i64) (kv.length:Int),[],True)
   | _=>none
  | _,_=>none
 | none=>none
def O3(b:Bool)(x y:AVal):Option lB :=
 match x,y with
 | .p _ (.int k) i,.p _ (.int k') j=>if k'=k then some (.p false (.int k) (if b then max (show Int from i) j else min (show Int from i) j),[],True)else none
 | _,_=>none
def aEJ:AVal→Bool
 | .mp _=>true
 | _=>false
def yQ:Ty→List Ty
 | .unit=>[]
 | .prod a b=>yQ a++yQ b
 | .tree k1 k2=>[.int k1,.int k2,.slice (.tree k1 k2)]
 | T=>[T]
def rN:Ty→AVal→AVal
 | .slice A,.nils=> .p false (.slice A) []
 | .ptr A,.nilp=> .p false (.ptr A) none
 | _,x=>x
def kR:List Ty→List AVal→List AVal
 | T::Ts,c::cs=>rN T c::kR Ts cs
 | _,cs=>cs
def L6(T:Ty):AVal→AVal
 | .agg cs=> .agg (kR (yQ T) cs)
 | x=>rN T x
def wM(tb:Tab)(t:TypeId)(x:AVal):AVal :=
 match tb.find t with
 | some ti=>match ti.T with
  | some T=>L6 T x
  | none=>x
 | none=>x
def g8(tb:Tab):List Bool→List TypeId→List AVal→List AVal
 | true::bs,t::ts,x::xs=>wM tb t x::g8 tb bs ts xs
 | false::bs,_::ts,x::xs=>x::g8 tb bs ts xs
 | _,_,xs=>xs
section
variable{P:Program}{Bw:Nat→Prop}{w0:Base P}{ρ:Nat→Option Value}{φ:Nat→Nat→Prop}{h:Nat→Option Obj}{w:World}{new:Nat}
theorem aAm(m:Mem Bw w0 ρ φ h w){o:Oper}{a:Act}{t:TypeId}{ti:TI}(ht:TIok P t ti){xo:Operand}{x:AVal}(hx:V (Fr (own φ h) Bw w) ρ x (a.eval xo))(ho:o.op = .load t xo)
  {r:AVal} {u:iH} {c:Prop} (hd:lJ ti x h=some (r,u,c)):Good P o a w (Post Bw w0 ρ φ h w new r u):=by
 unfold lJ at hd
 split at hd
 ·rename_i id b n i k hk
  split at hd
  ·rename_i cs hb
   split at hd
   ·rename_i hn
    split at hd
    ·rename_i l hl
     cases hd
     exact yS m ht hk hx ho hb hl hn
    ·cases hd
   ·cases hd
  ·cases hd
 ·cases hd
theorem aAi(m:Mem Bw w0 ρ φ h w){o:Oper}{a:Act}{t:TypeId}{ti:TI}(ht:TIok P t ti){xo yo:Operand}{x y:AVal}(hx:V (Fr (own φ h) Bw w) ρ x (a.eval xo))(hy:V (Fr (own φ h) Bw w) ρ y (a.eval yo))(ho:o.op = .store t xo yo)
  {r:AVal} {u:iH} {c:Prop} (hd:jM ti x y h=some (r,u,c)):Good P o a w (Post Bw w0 ρ φ h w new r u):=by
 unfold jM at hd
 split at hd
 ·rename_i id b n i β k v
  split at hd
  ·rename_i cs hb
   split at hd
   ·rename_i hn
    split at hd
    ·rename_i l hl
     cases hd
     exact xJ m ht hn.2 hx hy ho hb hl hn.1
    ·cases hd
   ·cases hd
  ·cases hd
 ·cases hd
theorem P2{tb:Tab}(m:Mem Bw w0 ρ φ h w)(htb:TabOK P tb){o:Oper}{a:Act}{t:TypeId}{xo io:Operand}{x i:AVal}(hx:V (Fr (own φ h) Bw w) ρ x (a.eval xo))(hi:V (Fr (own φ h) Bw w) ρ i (a.eval io))(ho:o.op = .indexAddr t xo io)
  {r:AVal} {u:iH} {c:Prop} (hd:jP tb t x i h=some (r,u,c)) (hc:c):Good P o a w (Post Bw w0 ρ φ h w new r u):=by
 unfold jP at hd
 split at hd
 ·rename_i ti ht
  split at hd
  ·rename_i n e hk
   split at hd
   ·rename_i te hte
    split at hd
    ·rename_i hsz
     split at hd
     ·rename_i id j sz off β k mm
      split at hd
      ·rename_i cs hb
       cases hd
       exact xL m (htb.find ht) hk (htb.find hte) hsz hx hb hi ho hc
      ·cases hd
     ·rename_i id b N p β k mm
      cases hd
      exact vV m (htb.find ht) hk (htb.find hte) hsz hx hi ho hc
     ·cases hd
    ·split at hd
     ·rename_i hsz
      split at hd
      ·rename_i id j sz off β k mm
       split at hd
       ·rename_i cs hb
        cases hd
        exact u9 m (htb.find ht) hk (htb.find hte) hsz hx hb hi ho hc
       ·cases hd
      ·cases hd
     ·cases hd
   ·cases hd
  ·cases hd
 ·cases hd
theorem T2(m:Mem Bw w0 ρ φ h w)(hn:ρ new=none){o:Oper}{a:Act}{t:TypeId}{ti:TI}(ht:TIok P t ti){xo:Operand}{x:AVal}(hx:V (Fr (own φ h) Bw w) ρ x (a.eval xo))(ho:o.op = .load t xo)
  {r:AVal} {u:iH} {c:Prop} (hd:kP new ti x h=some (r,u,c)) (hc:c):Good P o a w (Post Bw w0 ρ φ h w new r u):=by
 unfold kP at hd
 split at hd
 ·rename_i id i sz off
  split at hd
  ·rename_i hcond
   obtain⟨rfl,rfl,hk⟩:=hcond
   split at hd
   ·rename_i e e2 A xss hi
    cases hd
    exact rI m hn ht hk hx ho hi hc
   ·rename_i e e2 A xss k j hi
    split at hd
    ·rename_i e3 B ys hj
     split at hd
     ·rename_i q
      subst q
      split at hd
      ·rename_i he
       subst he
       simp only[Option.some.injEq,Prod.mk.injEq]at hd
       obtain⟨rfl,rfl,rfl⟩:=hd
       obtain⟨m',hF⟩:=m.closeRow hi hj
       have hg:=rI (new:=new) m' hn ht hk (V.mono hF (fun _ _ h=>h) hx) ho (aL _ _ _) (i:=i) (by rw[List.length_set];exact hc)
       exact fun K Q hk'=>hg K Q fun v w' hp=>hk' v w' (Post.after' rfl hF hp)
      ·cases hd
     ·cases hd
    ·cases hd
   ·cases hd
  ·cases hd
 ·cases hd
theorem W8(m:Mem Bw w0 ρ φ h w){o:Oper}{a:Act}{t:TypeId}{ti:TI}(ht:TIok P t ti){xo yo:Operand}{id i:Nat}(hx:V (Fr (own φ h) Bw w) ρ (.adr id i 1 0) (a.eval xo)){y:AVal}(hy:V (Fr (own φ h) Bw w) ρ y (a.eval yo))(hsz:(cellsOf y).length=ti.size)
  (ho:o.op = .store t xo yo) {e e2:TypeId} {A:Ty} {xss:List (List A.den)} {hole:Option (Nat×Nat)} (hi:h id=some (.mat e e2 A xss hole)) {r:AVal} {u:iH} {c:Prop} (hd:rS id i e e2 A xss hole y h=some (r,u,c)) (hc:c) :
  Good P o a w (Post Bw w0 ρ φ h w new r u):=by
 unfold rS at hd
 split at hd
 ·rename_i rr
  have hs1:ti.size=1:=hsz.symm
  split at hd
  ·split at hd
   ·split at hd
    ·cases hd
     exact m7 m ht hs1 hx hy ho hi hc (fun k j e=>by cases e)
    ·rename_i k j
     split at hd
     ·cases hd
      exact m7 m ht hs1 hx hy ho hi hc.2 (fun k' j' e=>by cases e;exact hc.1)
     ·rename_i e4 C ys hj
      split at hd
      ·rename_i q
       subst q
       split at hd
       ·rename_i he
        obtain⟨rfl,_⟩:=he
        simp only[Option.some.injEq,Prod.mk.injEq]at hd
        obtain⟨rfl,rfl,rfl⟩:=hd
        obtain⟨m',hF⟩:=m.closeRow hi hj
        have hg:=m7 (new:=new) m' ht hs1 (V.mono hF (fun _ _ h=>h) hx) (V.mono hF (fun _ _ h=>h) hy) ho (aL _ _ _) (i:=i) (by rw[List.length_set];exact hc) (fun k j e=>by cases e)
        exact fun K Q hk'=>hg K Q fun v w' hp=>hk' v w' (Post.after' rfl hF hp)
       ·cases hd
      ·cases hd
     ·cases hd
   ·cases hd
  ·cases hd
 ·cases hd
theorem Q9(m:Mem Bw w0 ρ φ h w)(hn:ρ new=none){o:Oper}{a:Act}{t e:TypeId}{ti te:TI}(ht:TIok P t ti)(hk:ti.k = .sl e)(hte:TIok P e te){A:Ty}(hT:te.T=some A)(h0:0<A.size)
  {lo co:Operand} (ho:o.op = .makeSlice t lo co) {β β':Bool} {kl kc:IntKind} {l c:Int} (hl:V (Fr (own φ h) Bw w) ρ (.p β (.int kl) l) (a.eval lo)) (hc:V (Fr (own φ h) Bw w) ρ (.p β' (.int kc) c) (a.eval co))
  (h1:0≤l) (h2:l≤c) (h3:(te.bytes:Int)*c≤281474976710656) (h4:c≤9223372036854775807) :
  Good P o a w (Post Bw w0 ρ φ h w new (.sl new) [(new,some (N5 e te A l.toNat))]):=by
 have key:=wW (new:=new) m hn ht hk hte hT h0 ho hl hc h1 h2 h3 h4
 unfold N5
 split
 ·rename_i B
  split
  ·rename_i e2 hk2 hz
   split
   ·rename_i hB
    exact yV m hn ht hk hte hT hz hB ho hl hc h1 h2 h3 h4
   ·exact key
  ·exact key
 ·exact key
end
theorem zN{F:Bool→Addr→Value→Prop}{ρ:Nat→Option Value}{T:Ty}{x:AVal}{v:Value}(h:V F ρ x v):V F ρ (rN T x) v:=by
 unfold rN
 split
 ·simp only[V]at h ⊢
  exact⟨rfl,none,0,0,h.symm,⟨rfl,Nat.le_refl _⟩,fun i hi=>absurd hi (by simp)⟩
 ·simp only[V]at h ⊢
  exact⟨rfl,h.symm⟩
 ·exact h
theorem uY{T:Ty}{x:AVal}:cC (rN T x)=cC x:=by
 unfold rN
 split <;> simp[cC]
theorem uZ{F:Bool→Addr→Value→Prop}{ρ:Nat→Option Value}:∀ {Ts:List Ty} {cs:List AVal} {g:Nat→Value→Prop},VL F ρ cs g→VL F ρ (kR Ts cs) g
 | [],cs,g,h=>by cases cs <;> exact h
 | T::Ts,[],g,h=>h
 | T::Ts,c::cs,g,h=>by
  simp only[kR,VL]at h ⊢
  obtain⟨⟨u,q1,q2⟩,q3⟩:=h
  exact⟨⟨u,q1,zN q2⟩,uZ q3⟩
theorem nF:∀ {Ts:List Ty} {cs:List AVal},(kR Ts cs).length=cs.length
 | [],cs=>by cases cs <;> rfl
 | T::Ts,[]=>rfl
 | T::Ts,c::cs=>by simp[kR,nF (Ts:=Ts) (cs:=cs)]
theorem tQ:∀ {Ts:List Ty} {cs:List AVal},bC (kR Ts cs)=bC cs
 | [],cs=>by cases cs <;> rfl
 | T::Ts,[]=>rfl
 | T::Ts,c::cs=>by simp[kR,bC,uY,tQ (Ts:=Ts) (cs:=cs)]
theorem aAI{tb:Tab}{t:TypeId}{F:Bool→Addr→Value→Prop}{ρ:Nat→Option Value}{x:AVal}{v:Value}(h:V F ρ x v):V F ρ (wM tb t x) v:=by
 unfold wM
 split
 ·split
  ·unfold L6
   split
   ·simp only[V]at h ⊢
    obtain⟨vs,e,hs,hl⟩:=h
    exact⟨vs,e,by rw[nF];exact hs,uZ hl⟩
   ·exact zN h
  ·exact h
 ·exact h
theorem J4{tb:Tab}{t:TypeId}{x:AVal}:cC (wM tb t x)=cC x:=by
 unfold wM
 split
 ·split
  ·unfold L6
   split
   ·simp only[cC,tQ]
   ·exact uY
  ·rfl
 ·rfl
theorem j9{tb:Tab}{F:Bool→Addr→Value→Prop}{ρ:Nat→Option Value}:∀ {bs:List Bool} {ts:List TypeId} {xs:List AVal} {vs:List Value},VVs F ρ xs vs→VVs F ρ (g8 tb bs ts xs) vs
 | true::bs,t::ts,x::xs,vs,h=>by
  cases vs with
  | nil=>exact h.elim
  | cons v vs=>exact⟨aAI h.1,j9 h.2⟩
 | false::bs,t::ts,x::xs,vs,h=>by
  cases vs with
  | nil=>exact h.elim
  | cons v vs=>exact⟨h.1,j9 h.2⟩
 | [],ts,xs,vs,h=>by simpa only [g8]using h
 | b::bs,[],xs,vs,h=>by cases b <;> simpa only [g8]using h
 | b::bs,t::ts,[],vs,h=>by cases b <;> simpa only [g8]using h
theorem pA{tb:Tab}:∀ {bs:List Bool} {ts:List TypeId} {xs:List AVal},bC (g8 tb bs ts xs)=bC xs
 | true::bs,t::ts,x::xs=>by simp only[g8,bC,J4,pA (bs:=bs) (ts:=ts) (xs:=xs)]
 | false::bs,t::ts,x::xs=>by simp only[g8,bC,pA (bs:=bs) (ts:=ts) (xs:=xs)]
 | [],ts,xs=>by simp only[g8]
 | b::bs,[],xs=>by cases b <;> simp only[g8]
 | b::bs,t::ts,[]=>by cases b <;> simp only[g8]
def xG(h:Nat→Option Obj)(x:AVal):Option (AVal×iH) :=
 match x with
 | .agg cs=>match oV h cs with
  | some (ds,u)=>some (.agg ds,u)
  | none=>none
 | x=>hZ h x
def lU(h:Nat→Option Obj):List Bool→List AVal→Option (List AVal×iH)
 | _,[]=>some ([],[])
 | [],xs=>some (xs,[])
 | false::bs,x::xs=>match lU h bs xs with
  | some (ys,u)=>some (x::ys,u)
  | none=>none
 | true::bs,x::xs=>match xG h x with
  | some (y,u)=>match lU (apply u h) bs xs with
   | some (ys,us)=>some (y::ys,u++us)
   | none=>none
  | none=>none
structure Orc where
 r:AVal
 fl:List Bool
 own:Bool
 cn:List Bool
 g:List Nat
 hout:List (Nat×Obj)
 die:Option Value
def aBW:Option Orc→Option Value
 | some q=>q.die
 | none=>none
def vI(P:Program)(f:FuncId)(args:List AVal)(hin:List (Nat×Obj))(q:Orc):Prop :=
 match q.die with
 | none=>Owns P f args hin q.r q.hout
 | some x=>Dies P f args hin x
def gOf:Option Orc→List Nat
 | some q=>q.g
 | none=>[]
def G0:AVal→AVal
 | .lit (.func (.func f) fs cs)=>if fs.isEmpty && cs.isEmpty then .fn f []else .unk
 | x=>x
def aCR:Option Orc→List Bool
 | some q=>q.cn
 | none=>[]
def uE(P:Program)(new:Nat)(orc:Option Orc)(f:AVal)(xs:List AVal)(h:Nat→Option Obj):Option lB :=
 match f,orc with
 | .fn fid caps,some q=>match lU h q.fl xs with
  | some (ys,u) =>
   if q.own then
    if q.g.all (fun i=>(vN h (f::xs)).contains i)then
     match qN q.g (less q.g (apply u h)) (ys++caps),iM q.g (apply u h) 0 q.g with
     | some args,some hin=>if tK q.g q.hout q.r then some (mM (qV q.g new) q.r,u++t4 q.g new q.hout,vI P fid args hin q)else none
     | _,_=>none
    else none
   else match sU (apply u h) (ys++caps)with
   | some args=>some (q.r,u,Pure P fid args q.r)
   | none=>none
  | none=>none
 | _,_=>none
def yM(asm:Option Bool)(c:AVal)(s:Nat→AVal)(x y:Operand):Option lB :=
 match asm,c with
 | some b,.p _ .bool b'=>some (ev s (if b then x else y),[],b'=b)
 | none,.p _ .bool b'=>match b' with
  | true=>some (ev s x,[],True)
  | false=>some (ev s y,[],True)
 | _,_=>none
def M5(fn:Fn)(first:List Operand)(caps:List AVal):Option lB :=
 match fn,first with
 | .func f,[]=>some (.fn f caps,[],True)
 | _,_=>none
def o5(tb:Tab)(new:Nat)(b:Builtin)(xs:List AVal)(ts:List TypeId)(h:Nat→Option Obj):Option lB :=
 match b,xs,ts with
 | .len,[x],[t]=>if aEJ x then sD tb t x h else J0 tb t x h
 | .min,[x,y],_=>O3 false x y
 | .max,[x,y],_=>O3 true x y
 | .append,[x,y],[t,t']=>if t=t' then lN tb new t x y h else none
 | .copy,[x,y],[t,_]=>q9 tb t x y h
 | _,_,_=>none
def n9(P:Program)(tb:Tab)(new:Nat)(orc:Option Orc)(c:Call)(s:Nat→AVal)(h:Nat→Option Obj):Option lB :=
 match c.callee with
 | .builtin b=>o5 tb new b (c.args.toList.map (ev s)) c.argTypes.toList h
 | .value f=>uE P new orc (G0 (ev s f)) (g8 tb (aCR orc) c.argTypes.toList (c.args.toList.map (ev s))) h
 | _=>none
def mF(P:Program)(tb:Tab)(new:Nat)(asm:Option Bool)(orc:Option Orc)(op:Op)(s:Nat→AVal)(h:Nat→Option Obj):Option lB :=
 match op with
 | .move x=>some (ev s x,[],True)
 | .assign x=>some (ev s x,[],True)
 | .pick c x y=>yM asm (ev s c) s x y
 | .alloc t=>zT tb new t
 | .box _ x=>aAo new (ev s x)
 | .build t ps=>A0 tb t (ps.toList.map (·.1)) (ps.toList.map fun p=>ev s p.2)
 | .buildSlice t len ps=>kV tb new t len (ps.toList.map (·.1)) (ps.toList.map fun p=>ev s p.2) h
 | .load t x=>zF tb new t (ev s x) h
 | .store t x y=>nP tb t (ev s x) (ev s y) h
 | .binOp op t x y _=>aAJ P tb op t (ev s x) (ev s y)
 | .nilCheck x=>Z1 (ev s x)
 | .unOp op _ x=>aBR op (ev s x)
 | .convert st dt x=>yP tb st dt (ev s x) h
 | .slice t x lo hi none=>mP tb new t (ev s x) (qE s lo) (qE s hi) h
 | .slice t x lo (some hi) (some mx)=>rT tb t (ev s x) (qE s lo) (ev s hi) (ev s mx) h
 | .fieldAddr t x f=>E5 tb t (ev s x) f
 | .indexAddr t x i=>match g6 tb t (ev s x) (ev s i) h with
  | some r=>some r
  | none=>jP tb t (ev s x) (ev s i) h
 | .index t x i=>D9 tb t (ev s x) (ev s i)
 | .extract x i=>uX (ev s x) i
 | .typeAssert x _ t ok=>sE P (ev s x) t ok
 | .makeFunc fn first caps=>M5 fn first.toList (caps.toList.map (ev s))
 | .makeSlice t l c=>L8 tb new t (ev s l) (ev s c)
 | .makeMap t none=>match vZ P tb new t with
  | some r=>some r
  | none=>tR P tb new t
 | .lookup t x k ok=>match lG P tb t (ev s x) (ev s k) ok h with
  | some r=>some r
  | none=>jS P tb t (gOf orc) (ev s x) (ev s k) ok h
 | .mapUpdate t x k y=>match eT P tb t (ev s x) (ev s k) (ev s y) h with
  | some r=>some r
  | none=>dX P tb t (ev s x) (ev s k) (ev s y) h
 | .insert t x k y=>match eT P tb t (ev s x) (ev s k) (ev s y) h with
  | some r=>some r
  | none=>dX P tb t (ev s x) (ev s k) (ev s y) h
 | .call c=>n9 P tb new orc c s h
 | _=>none
section
variable{P:Program}{tb:Tab}{Bw:Nat→Prop}{w0:Base P}{ρ:Nat→Option Value}{φ:Nat→Nat→Prop}{h:Nat→Option Obj}{w:World}{new:Nat}{n:NS}{s:Nat→AVal}{a:Act}
theorem dH(htb:TabOK P tb){t e:TypeId}{te:TI}{A:Ty}(h:i6 tb t=some (e,te,A)):∃ti,TIok P t ti∧tb.find t=some ti∧ti.k = .sl e∧TIok P e te∧te.T=some A∧0<A.size:=by
 unfold i6 at h
 split at h
 ·rename_i ti h1
  split at h
  ·rename_i e' h2
   split at h
   ·rename_i te' h3
    split at h
    ·rename_i A' h4
     split at h
     ·rename_i h5
      cases h
      exact⟨ti,htb.find h1,h1,h2,htb.find h3,h4,h5⟩
     ·cases h
    ·cases h
   ·cases h
  ·cases h
 ·cases h
theorem lV(htb:TabOK P tb){t:TypeId}{K A:Ty}{c:Prop}(h:Z4 P tb t=some (K,A,c))(hc:c):∃ti kt et te,TIok P t ti∧ti.k = .mp kt et∧KeyOk P kt K∧TIok P et te∧te.T=some A:=by
 unfold Z4 at h
 split at h
 ·rename_i ti h1
  split at h
  ·rename_i kt et h2
   split at h
   ·rename_i ki te h3 h4
    split at h
    ·rename_i K' c' A' h5 h6
     cases h
     refine⟨ti,kt,et,te,htb.find h1,h2,?_,htb.find h4,h6⟩
     unfold aAS at h5
     split at h5
     ·rename_i K2 h7
      cases h5
      exact KeyOk.of_kk (htb.find h3) h7
     ·split at h5
      ·split at h5
       ·cases h5
        exact hc
       ·cases h5
      ·cases h5
    ·cases h
   ·cases h
  ·cases h
 ·cases h
theorem l0(htb:TabOK P tb){t:TypeId}{K:Ty}{c:Prop}(h:W0 P tb t=some (K,c))(hc:c):∃ti kt et te,TIok P t ti∧ti.k = .mp kt et∧KeyOk P kt K∧TIok P et te:=by
 unfold W0 at h
 split at h
 ·rename_i ti h1
  split at h
  ·rename_i kt et h2
   split at h
   ·rename_i ki te h3 h4
    split at h
    ·refine⟨ti,kt,et,te,htb.find h1,h2,?_,htb.find h4⟩
     unfold aAS at h
     split at h
     ·rename_i K2 h7
      cases h
      exact KeyOk.of_kk (htb.find h3) h7
     ·split at h
      ·split at h
       ·cases h
        exact hc
       ·cases h
      ·cases h
    ·cases h
   ·cases h
  ·cases h
 ·cases h
theorem sS{F:Bool→Addr→Value→Prop}{ρ:Nat→Option Value}{x:AVal}{v u:Value}(h:V6 x=some v)(hv:V F ρ x u):u=v:=by
 unfold V6 at h
 split at h
 ·cases h
  simpa only [V]using hv
 ·cases h
  simp only[V]at hv
  obtain⟨vs,e,hs,_⟩:=hv
  have:vs = #[]:=Array.eq_empty_of_size_eq_zero (by simpa using hs)
  subst this
  exact e
 ·cases h
theorem wG{F:Bool→Addr→Value→Prop}{ρ:Nat→Option Value}{x:AVal}{u:Value}(hv:V F ρ x u):V F ρ (G0 x) u:=by
 unfold G0
 split
 ·rename_i f fs cs
  split
  ·rename_i hc
   simp only[Bool.and_eq_true,Array.isEmpty_iff]at hc
   obtain⟨rfl,rfl⟩:=hc
   simp only[V]at hv ⊢
   exact⟨#[],hv,rfl,by simp only[VL]⟩
  ·trivial
 ·exact hv
theorem E7{x:AVal}:∀i∈cC (G0 x),i∈cC x:=by
 unfold G0
 split
 ·split
  ·intro i hi
   simp[cC,bC]at hi
  ·intro i hi
   simp[cC]at hi
 ·exact fun i hi=>hi
theorem fZ{F:Bool→Addr→Value→Prop}{ρ:Nat→Option Value}{K:Ty}{x:AVal}{k:K.den}{v:Value}(h:sK K x=some k)(hK:K.isKey=true)(hv:V F ρ x v):v=aQ K k:=by
 unfold sK at h
 split at h
 ·rename_i β K2 i
  split at h
  ·rename_i q
   subst q
   split at h
   ·rename_i hs
    cases h
    exact W9 hK hs hv
   ·cases h
  ·cases h
 ·rename_i cs
  split at h
  ·rename_i hs
   split at h
   ·rename_i k' r hu
    cases h
    simp only[V]at hv
    obtain⟨vs,rfl,hsz,hvl⟩:=hv
    obtain⟨h1,h2,h3⟩:=dE hu hvl
    rw[jZ hK hs.1]
    congr 1
    refine Array.ext_getElem? fun i=> ?_
    rw[List.getElem?_toArray,←Array.getElem?_toList]
    rcases Nat.lt_or_ge i K.size with hi | hi
    ·have:=iW (l:=vs.toList) (o:=0) hK (Vcells.mono (fun _ _ h=>h) (fun j u hj=>by rw[Nat.zero_add,Array.getElem?_toList];exact hj) h1) i hi
     rw[Nat.zero_add]at this
     exact this
    ·rw[List.getElem?_eq_none (by rw[Array.length_toList,hsz,hs.2];exact hi)]
     rw[List.getElem?_eq_none (by rw[cE hK];exact hi)]
   ·cases h
  ·cases h
 ·cases h
theorem pN{F:Bool→Addr→Value→Prop}(hs:Slots n F ρ s a){lo:Option Operand}{l:Option Int}(h:qE s lo=some l):sB F ρ a lo l:=by
 unfold qE at h
 cases lo with
 | none=>cases h;trivial
 | some x =>
  simp only at h
  split at h
  ·rename_i β k m e
   cases h
   have:=bG hs x
   rw[e]at this
   exact⟨_,_,this⟩
  ·cases h
theorem sZ{F:Bool→Addr→Value→Prop}{x:AVal}{n:Int}(h:M4 x=some n){v:Value}(hv:V F ρ x v):∃β k,V F ρ (.p β (.int k) n) v:=by
 unfold M4 at h
 split at h
 ·cases h;exact⟨_,_,hv⟩
 ·cases h
theorem K7(m:Mem Bw w0 ρ φ h w){x y:AVal}{u:iH}(hd:xG h x=some (y,u)):
  Mem Bw w0 ρ φ (apply u h) w∧(∀β a v,Fr (own φ h) Bw w β a v→Fr (own φ (apply u h)) Bw w β a v)∧∀v,V (Fr (own φ h) Bw w) ρ x v→V (Fr (own φ (apply u h)) Bw w) ρ y v:=by
 unfold xG at hd
 split at hd
 ·split at hd
  ·rename_i ds u' h1
   cases hd
   obtain⟨q1,q2,q3,q4⟩:=nY m h1
   refine⟨q1,q2,fun v hv=> ?_⟩
   simp only[V]at hv ⊢
   obtain⟨vs,e,hs,hl⟩:=hv
   exact⟨vs,e,by rw[q3];exact hs,q4 _ hl⟩
  ·cases hd
 ·exact jF m hd
theorem l7:∀ {bs:List Bool} {xs ys:List AVal} {h:Nat→Option Obj} {u:iH},Mem Bw w0 ρ φ h w→lU h bs xs=some (ys,u) →
  Mem Bw w0 ρ φ (apply u h) w∧(∀β a v,Fr (own φ h) Bw w β a v→Fr (own φ (apply u h)) Bw w β a v)∧∀vs,VVs (Fr (own φ h) Bw w) ρ xs vs→VVs (Fr (own φ (apply u h)) Bw w) ρ ys vs
 | _,[],ys,h,u,m,hd=>by
  simp only[lU]at hd
  cases hd
  exact⟨m,fun _ _ _ h=>h,fun _ h=>h⟩
 | [],x::xs,ys,h,u,m,hd=>by
  simp only[lU]at hd
  cases hd
  exact⟨m,fun _ _ _ h=>h,fun _ h=>h⟩
 | false::bs,x::xs,ys,h,u,m,hd=>by
  simp only[lU]at hd
  split at hd
  ·rename_i ys' u' h1
   cases hd
   obtain⟨q1,q2,q3⟩:=l7 m h1
   refine⟨q1,q2,fun vs hv=> ?_⟩
   cases vs with
   | nil=>exact hv.elim
   | cons v vs=>exact⟨V.mono q2 (fun _ _ h=>h) hv.1,q3 vs hv.2⟩
  ·cases hd
 | true::bs,x::xs,ys,h,u,m,hd=>by
  simp only[lU]at hd
  split at hd
  ·rename_i y u1 h1
   split at hd
   ·rename_i ys' us h2
    cases hd
    obtain⟨q1,q2,q3⟩:=K7 m h1
    obtain⟨r1,r2,r3⟩:=l7 q1 h2
    rw[f9]
    refine⟨r1,fun β a v hh=>r2 _ _ _ (q2 _ _ _ hh),fun vs hv=> ?_⟩
    cases vs with
    | nil=>exact hv.elim
    | cons v vs=>exact⟨V.mono r2 (fun _ _ h=>h) (q3 v hv.1),r3 vs (VVs.mono q2 (fun _ _ h=>h) hv.2)⟩
   ·cases hd
  ·cases hd
theorem wQ{us:iH}{i:Nat}(hu:us.all (fun p=>p.1 != i)=true):∀ {h:Nat→Option Obj},apply us h i=h i:=by
 induction us with
 | nil=>intro h;rfl
 | cons p us ih =>
  intro h
  obtain⟨j,o⟩:=p
  simp only[List.all_cons,Bool.and_eq_true,bne_iff_ne,ne_eq]at hu
  simp only[apply]
  rw[ih hu.2,bA _ _ (Ne.symm hu.1)]
theorem i9{F:Bool→Addr→Value→Prop}{x:AVal}{b:Bool}(h:zG x=some b){u:Value}(hu:V F ρ x u):∃q,u = .pointer q∧q.isNone=b:=by
 cases x <;> simp only[zG]at h <;> first | (cases h;done) | skip
 ·cases h
  simp only[V]at hu
  exact⟨none,hu,rfl⟩
 ·cases h
  simp only[V]at hu
  obtain⟨g,_,e⟩:=hu
  exact⟨_,e,rfl⟩
 ·cases h
  simp only[V]at hu
  obtain⟨ad,e,_⟩:=hu
  exact⟨_,e,rfl⟩
theorem zI(d:Nat){t e:TypeId}(h:P.underlying t=some (.pointer e))(q:Option Addr):(Op.equalIn (d+1) t (.pointer none) (.pointer q)).run P w = .ok q.isNone w:=by
 simp[Op.equalIn,run_underlying h]
theorem xK(d:Nat){t e:TypeId}(h:P.underlying t=some (.pointer e))(a:Addr):(Op.equalIn (d+1) t (.pointer (some a)) (.pointer none)).run P w = .ok false w:=by
 simp[Op.equalIn,run_underlying h]
theorem zC(d:Nat){t:TypeId}{ms:Array (String×TypeId)}(h:P.underlying t=some (.interface ms))(a:TypeId)(v:Value):(Op.equalIn (d+1) t (.iface a v) .nilIface).run P w = .ok false w:=by
 simp[Op.equalIn,run_underlying h]
theorem zM{F:Bool→Addr→Value→Prop}{op:BinOp}{b:Bool}{r:AVal}(h:eqR op b=some r){t:TypeId}{u v:Value}{xo yo:Operand}(hg:(eqGuard op t xo yo u v).run P w = .ok () w)
  (he:(Op.equal t u v).run P w = .ok b w) (hne:binOp .eql t u v=(do pure (.bool (←Op.equal t u v)))∧binOp .neq t u v=(do pure (.bool (!(←Op.equal t u v))))) :
  ∃z,(do eqGuard op t xo yo u v;binOp op t u v:Sem Value).run P w = .ok z w∧V F ρ r z:=by
 unfold eqR at h
 split at h <;> cases h
 ·exact⟨_,by rw[Sem.run_bind,hg,Result.andThen_ok,hne.1,Sem.run_bind,he];rfl,jI _ _⟩
 ·exact⟨_,by rw[Sem.run_bind,hg,Result.andThen_ok,hne.2,Sem.run_bind,he];rfl,jI _ _⟩
theorem D7{F:Bool→Addr→Value→Prop}{ti:TI}{op:BinOp}{t:TypeId}{x y r:AVal}{us:iH}{c:Prop}(h:X6 P ti op t x y=some (r,us,c))(hc:c){u v:Value}(hu:V F ρ x u)(hv:V F ρ y v)(xo yo:Operand):
  us=[]∧∃z,(do eqGuard op t xo yo u v;binOp op t u v:Sem Value).run P w = .ok z w∧V F ρ r z:=by
 have ptr:∀ {b:Bool} {q q':Option Addr},u = .pointer q→v = .pointer q'→(∃e,P.underlying t=some (.pointer e))→(q.isNone=true∧q'.isNone=b∨q.isNone=false∧q'.isNone=true∧b=false)→eqR op b=some r →
   ∃z,(do eqGuard op t xo yo u v;binOp op t u v:Sem Value).run P w = .ok z w∧V F ρ r z:=fun {b q q'} e1 e2 hE hq hr=>by
  subst e1 e2
  obtain⟨e,hE⟩:=hE
  refine zM hr (cU (by intro cs e;cases e) (by intro e;cases e)) ?_ ⟨by cases q <;> cases q' <;> rfl,by cases q <;> cases q' <;> rfl⟩
  unfold Op.equal Op.maxDepth
  cases q with
  | none =>
   rcases hq with⟨_,q2⟩ | ⟨q1,_⟩
   ·subst q2
    exact zI 9999 hE q'
   ·cases q1
  | some a =>
   rcases hq with⟨q1,_⟩ | ⟨_,q2,q3⟩
   ·cases q1
   ·cases q' with
    | none=>subst q3;exact xK 9999 hE a
    | some _=>cases q2
 unfold X6 at h
 split at h
 ·rename_i cs ds
  split at h
  ·rename_i T hT
   split at h
   ·rename_i a b ha hb
    split at h
    ·rename_i r' hr
     cases h
     refine⟨rfl,?_⟩
     simp only[V]at hu hv
     obtain⟨xs,rfl,sx,lx⟩:=hu
     obtain⟨ys,rfl,sy,ly⟩:=hv
     obtain⟨a1,a2,a3⟩:=dE ha lx
     obtain⟨b1,b2,b3⟩:=dE hb ly
     have hl:∀l:List AVal,([]:List AVal)=l.drop T.size→T.size≤l.length→l.length=T.size:=fun l h1 h2=>by
      have:=congrArg List.length h1
      simp only[List.length_nil,List.length_drop]at this
      omega
     have hE:=hc.2 w
     have hsc:T.scalar=false:=hc.1.2
     refine zM hr (run_eqGuard_agg w op t xo yo xs ys hc.1.1) ?_ ⟨rfl,rfl⟩
     refine hE.2.2 (F false) a b _ _ ?_ ?_
     ·unfold N0;rw[hsc];simp only[Bool.false_eq_true,if_false];exact⟨xs,rfl,by rw[sx,hl cs a2 a3],a1⟩
     ·unfold N0;rw[hsc];simp only[Bool.false_eq_true,if_false];exact⟨ys,rfl,by rw[sy,hl ds b2 b3],b1⟩
    ·cases h
   ·cases h
  ·cases h
 ·rename_i A q
  split at h
  ·rename_i r' hr
   cases h
   simp only[V]at hu hv
   cases q with
   | none =>
    have e:u = .pointer none:=hu.2.symm
    exact⟨rfl,ptr e hv hc (.inl ⟨rfl,rfl⟩) hr⟩
   | some y =>
    obtain⟨_,b,e,_⟩:=hu
    exact⟨rfl,ptr e.symm hv hc (.inr ⟨rfl,rfl,rfl⟩) hr⟩
  ·cases h
 ·split at h
  ·rename_i b h1 h2
   split at h
   ·rename_i r' hr
    cases h
    obtain⟨q,e1,e2⟩:=i9 h1 hu
    obtain⟨q',e3,e4⟩:=i9 h2 hv
    exact⟨rfl,ptr e1 e3 hc (.inl ⟨e2,e4⟩) hr⟩
   ·cases h
  ·rename_i h1 h2
   split at h
   ·rename_i r' hr
    cases h
    obtain⟨q,e1,e2⟩:=i9 h1 hu
    obtain⟨q',e3,e4⟩:=i9 h2 hv
    exact⟨rfl,ptr e1 e3 hc (.inr ⟨e2,e4,rfl⟩) hr⟩
   ·cases h
  ·split at h
   ·split at h
    ·rename_i r' hr
     cases h
     simp only[V]at hu hv
     subst hu hv
     obtain⟨ms,hms⟩:=hc
     refine⟨rfl,zM hr (cU (by intro cs e;cases e) (by intro e;cases e)) ?_ ⟨rfl,rfl⟩⟩
     unfold Op.equal Op.maxDepth
     exact zC 9999 hms _ _
    ·cases h
   ·cases h
theorem A6(m:Mem Bw w0 ρ φ h w){o:Oper}{xo:Operand}{xt at':TypeId}{ok:Bool}(ho:o.op = .typeAssert xo xt at' ok){x:AVal}(hx:V (Fr (own φ h) Bw w) ρ x (a.eval xo)){y:AVal}{u:iH}{c:Prop}
  (hd:sE P x at' ok=some (y,u,c)) (hc:c):Good P o a w (Post Bw w0 ρ φ h w new y u):=by
 unfold sE at hd
 split at hd
 ·rename_i t v
  split at hd
  ·rename_i q
   obtain⟨rfl,rfl⟩:=q
   cases hd
   obtain⟨d,hd,hi⟩:=hc
   simp only[V]at hx
   refine Good.of_run (v:= .tuple #[v,.bool true]) (w':=w) ?_ (Post.pure m ?_)
   ·simp only[execOp,ho,hx]
    simp only[Instr.typeAssert,Sem.run_bind,run_underlying hd,Result.andThen_ok]
    cases d <;> first | (simp at hi;done) | (simp;done)
   ·simp only[V,VL]
    exact⟨_,rfl,rfl,⟨v,by simp,C1 v⟩,⟨.bool true,by simp,by simp only[V,Vcells];exact⟨rfl,trivial⟩⟩,trivial⟩
  ·cases hd
 ·cases hd
theorem X5(htb:TabOK P tb)(m:Mem Bw w0 ρ φ h w)(hs:Slots n (Fr (own φ h) Bw w) ρ s a)(hn8:∀j,j<8→ρ (new+j)=none){o:Oper}{asm:Option Bool}{orc:Option Orc}(hdie:aBW orc=none){x:AVal}{u:iH}{c:Prop}
  (hd:mF P tb new asm orc o.op s h=some (x,u,c)) (hc:c):Good P o a w (Post Bw w0 ρ φ h w new x u):=by
 have hn:ρ new=none:=hn8 0 (by omega)
 unfold mF at hd
 split at hd
 ·rename_i x' ho;cases hd;exact xP m (bG hs _) (.inl ho)
 ·rename_i x' ho;cases hd;exact xP m (bG hs _) (.inr ho)
 ·rename_i co xo yo ho
  unfold yM at hd
  split at hd
  ·rename_i b β b' e
   cases hd
   subst hc
   have:=bG hs co
   rw[e]at this
   exact sC m this (bG hs _) ho
  ·rename_i β b' e
   have:=bG hs co
   rw[e]at this
   split at hd
   ·cases hd
    exact sC (b:=true) m this (bG hs _) ho
   ·cases hd
    exact sC (b:=false) m this (bG hs _) ho
  ·cases hd
 ·rename_i t ho
  unfold zT at hd
  split at hd
  ·rename_i ti ht
   cases hd
   exact I2 m hn (htb.find ht) ho
  ·cases hd
 ·rename_i t xo ho
  unfold aAo at hd
  split at hd
  ·rename_i hcell
   cases hd
   exact aAC m hn (bG hs xo) hcell ho _
  ·cases hd
 ·rename_i t ps ho
  unfold A0 at hd
  split at hd
  ·rename_i ti ht
   split at hd
   ·rename_i fs hk
    split at hd
    ·rename_i ds hds
     cases hd
     have:=nI hs (ps.toList.map (·.2))
     simp only[List.map_map]at this
     exact H6 m htb (htb.find ht) hk ho this hds
    ·cases hd
   ·rename_i n e hk
    split at hd
    ·rename_i te hte
     split at hd
     ·rename_i ds hds
      cases hd
      have:=nI hs (ps.toList.map (·.2))
      simp only[List.map_map]at this
      exact z5 m htb (htb.find ht) hk (htb.find hte) ho this hds
     ·cases hd
    ·cases hd
   ·cases hd
  ·cases hd
 ·rename_i t len ps ho
  unfold kV at hd
  split at hd
  ·rename_i e te A het
   obtain⟨ti,h1,_,h2,h3,h4,h5⟩:=dH htb het
   split at hd
   ·rename_i hcond
    split at hd
    ·rename_i ys us hys
     cases hd
     have:=nI hs (ps.toList.map (·.2))
     simp only[List.map_map]at this
     exact tS m hn h1 h2 h3 h4 h5 ho hcond.1 this (fun x hx=>(List.all_eq_true.1 hcond.2.1) x hx) hys hcond.2.2
    ·cases hd
   ·cases hd
  ·cases hd
 ·rename_i t xo ho
  unfold zF at hd
  split at hd
  ·rename_i ti ht
   split at hd
   ·rename_i cs off c' hcs
    split at hd
    ·rename_i y hy
     cases hd
     exact P5 m (htb.find ht) (bG hs xo) ho hcs hc hy
    ·cases hd
   ·split at hd
    ·rename_i r0 hd0
     cases hd
     exact aAm m (htb.find ht) (bG hs xo) ho hd0
    ·exact T2 m hn (htb.find ht) (bG hs xo) ho hd hc
  ·cases hd
 ·rename_i t xo yo ho
  unfold nP at hd
  split at hd
  ·rename_i ti ht
   split at hd
   ·rename_i hcond
    split at hd
    ·rename_i id i sz off ex
     have hx:=bG hs xo
     rw[ex]at hx
     split at hd
     ·rename_i cs hi
      split at hd
      ·rename_i hfit
       cases hd
       exact vG m (htb.find ht) hx (bG hs yo) hcond.1 ho hi hcond.2 hfit
      ·cases hd
     ·rename_i e A xs hi
      split at hd
      ·rename_i hsz
       split at hd
       ·rename_i z us hz
        split at hd
        ·rename_i hus
         cases hd
         rw[hsz.1]at hx
         exact uP m (htb.find ht) hx (bG hs yo) hcond.1 ho hz hi (by rw[wQ hus];exact hi) hcond.2 hsz.2 hc
        ·cases hd
       ·cases hd
      ·cases hd
     ·rename_i e e2 A xss hole hi
      split at hd
      ·rename_i hsz
       obtain⟨rfl,rfl⟩:=hsz
       exact W8 m (htb.find ht) hx (bG hs yo) hcond.2 ho hi hd hc
      ·cases hd
     ·cases hd
    ·exact aAi m (htb.find ht) (bG hs xo) (bG hs yo) ho hd
   ·cases hd
  ·cases hd
 ·rename_i op t xo yo t' ho
  unfold aAJ at hd
  split at hd
  ·rename_i ti ht
   split at hd
   ·rename_i r c' hr
    cases hd
    obtain⟨z,h1,h2⟩:=S7 (P:=P) (w:=w) (htb.find ht) hr hc (bG hs xo) (bG hs yo) xo yo
    exact Good.of_run (v:=z) (w':=w) (by simp only[execOp,ho];rw[Sem.run_bind,h1];rfl) (Post.pure m h2)
   ·obtain⟨hu,z,h1,h2⟩:=D7 (P:=P) (w:=w) hd hc (bG hs xo) (bG hs yo) xo yo
    subst hu
    exact Good.of_run (v:=z) (w':=w) (by simp only[execOp,ho];rw[Sem.run_bind,h1];rfl) (Post.pure m h2)
  ·cases hd
 ·rename_i xo ho
  have hx:=bG hs xo
  unfold Z1 at hd
  split at hd
  ·rename_i id i sz off ex
   cases hd
   rw[ex]at hx
   obtain⟨g,h1,h2⟩:∃g,_∧a.eval xo = .pointer (some ⟨g,i*sz+off,none⟩):=by simpa only [V]using hx
   exact Good.of_run (v:=a.eval xo) (w':=w) (by simp only[execOp,ho,h2];rfl) (Post.pure m hx)
  ·rename_i β cs off ex
   cases hd
   rw[ex]at hx
   obtain⟨ad,h1,h2⟩:∃ad:Addr,a.eval xo = .pointer (some (ad.add off))∧_:=by simpa only [V]using hx
   exact Good.of_run (v:=a.eval xo) (w':=w) (by simp only[execOp,ho,h1];rfl) (Post.pure m hx)
  ·rename_i β A q ex
   cases hd
   rw[ex]at hx
   cases q with
   | none=>cases hc
   | some y =>
    obtain⟨_,b,e,hv⟩:_∧∃b:Addr,Value.pointer (some b)=a.eval xo∧Vcells (Fr (own φ h) Bw w β) A y (fun k v=>Fr (own φ h) Bw w β (b.add k) v):=by simpa only [V,Vcells]using hx
    refine Good.of_run (v:=a.eval xo) (w':=w) (by simp only[execOp,ho,←e];rfl) (Post.pure m ?_)
    simp only[V,Option.getD_some]
    exact⟨b,by rw[←e];unfold Addr.add;simp,jJ β A y _ hv⟩
  ·cases hd
 ·rename_i op t xo ho
  unfold aBR at hd
  split at hd
  ·rename_i r hr
   cases hd
   obtain⟨z,h1,h2⟩:=aAz (P:=P) (w:=w) hr (bG hs xo)
   exact Good.of_run (v:=z) (w':=w) (by simp only[execOp,ho];rw[Sem.run_bind,h1];rfl) (Post.pure m h2)
  ·cases hd
 ·rename_i st dt xo ho
  unfold yP at hd
  split at hd
  ·rename_i si hsi
   split at hd
   ·rename_i di hdi
    split at hd
    ·rename_i r hr
     cases hd
     obtain⟨dd,hd1,hd2⟩:=(htb.find hdi).hu
     unfold X8 at hr
     split at hr
     ·rename_i β l ex
      have hx:=bG hs xo
      rw[ex]at hx
      split at hr
      ·rename_i e hk
       split at hr
       ·rename_i hu8
        cases hr
        rw[hk]at hd2
        simp only[UK]at hd2
        subst hd2
        simp only[aBq]at hu8
        split at hu8
        ·rename_i te hte
         obtain⟨d,q1,q2⟩:=(htb.find hte).hu
         split at hu8
         ·rename_i hk2
          rw[hk2]at q2
          simp only[UK]at q2
          exact H8 m (htb.find hsi) hd1 (by rw[q1,q2]) ho hx
         ·cases hu8
        ·cases hu8
       ·cases hr
      ·cases hr
     ·rename_i β k n ex
      have hx:=bG hs xo
      rw[ex]at hx
      split at hr
      ·rename_i hk
       cases hr
       rw[hk]at hd2
       simp only[UK]at hd2
       subst hd2
       exact Q6 m (htb.find hsi) hd1 ho hx
      ·cases hr
     ·cases hr
    split at hd
    ·rename_i hu8
     split at hd
     ·rename_i r hr
      cases hd
      obtain⟨z,h1,h2⟩:=L3 (P:=P) m (htb.find hsi) (htb.find hdi) (fun e he=>by
       rw[he]at hu8
       simp only[aBq]at hu8
       split at hu8
       ·rename_i te hte
        obtain⟨d,q1,q2⟩:=(htb.find hte).hu
        split at hu8
        ·rename_i hk
         rw[hk]at q2
         simp only[UK]at q2
         rw[q1,q2]
        ·cases hu8
       ·cases hu8) hr (bG hs xo)
      exact Good.of_run (v:=z) (w':=w) (by simp only[execOp,ho];rw[Sem.run_bind,h1];rfl) (Post.pure m h2)
     ·cases hd
    ·cases hd
   ·cases hd
  ·cases hd
 ·rename_i t xo lo hi ho
  unfold mP at hd
  split at hd
  ·rename_i ti ht
   split at hd
   ·rename_i l r hl hr
    have hl':=pN hs hl
    have hr':=pN hs hr
    have hx:=bG hs xo
    split at hd
    ·rename_i β str ex
     rw[ex]at hx
     split at hd
     ·rename_i hk
      cases hd
      exact wN m (htb.find ht) hk ho hx hl' hr' hc.1 hc.2.1 hc.2.2
     ·cases hd
    ·rename_i β A xs ex
     rw[ex]at hx
     split at hd
     ·rename_i _ _ B het
      obtain⟨ti',h1,h1',h2,h3,h4,h5⟩:=dH htb het
      split at hd
      ·rename_i hAB
       subst hAB
       cases hd
       exact mD m h1 h2 h3 h4 ho hx hl' hr' hc.1 hc.2.1 hc.2.2
      ·cases hd
     ·cases hd
    ·rename_i id ex
     rw[ex]at hx
     split at hd
     ·rename_i e A xs hid
      split at hd
      ·rename_i _ _ _ het
       obtain⟨ti',h1,h1',h2,h3,h4,h5⟩:=dH htb het
       split at hd
       ·rename_i k
        cases hd
        cases lo with
        | some _=>exact hl'.elim
        | none =>
         cases hi with
         | none=>exact hr'.elim
         | some hio =>
          obtain⟨β,kk,hv⟩:=hr'
          exact wF m hn h1 h2 h3 (A:=A) ho hid hx hv hc.1 hc.2
       ·cases hd
      ·cases hd
     ·rename_i A xs hid
      split at hd
      ·rename_i _ _ B het
       obtain⟨ti',h1,h1',h2,h3,h4,h5⟩:=dH htb het
       split at hd
       ·rename_i hAB
        subst hAB
        cases hd
        obtain⟨u,q1,q2⟩:=m.ob id _ hid
        simp only[V]at hx
        rw[hx.1]at q1
        cases q1
        exact mD m h1 h2 h3 h4 ho q2 hl' hr' hc.1 hc.2.1 hc.2.2
       ·cases hd
      ·cases hd
     ·cases hd
    ·rename_i ex
     rw[ex]at hx
     split at hd
     ·rename_i _ _ A het
      obtain⟨ti',h1,h1',h2,h3,h4,h5⟩:=dH htb het
      cases hd
      exact uN m h1 h2 h3 ho hx hl' hr' hc.1 hc.2.1 hc.2.2
     ·cases hd
    ·cases hd
   ·cases hd
  ·cases hd
 ·rename_i t xo lo hi mx ho
  unfold rT at hd
  split at hd
  ·rename_i _ _ B l r q het hl hr hq
   obtain⟨ti',h1,h1',h2,h3,h4,h5⟩:=dH htb het
   have hl':=pN hs hl
   obtain⟨β1,k1,hr'⟩:=sZ hr (bG hs hi)
   obtain⟨β2,k2,hq'⟩:=sZ hq (bG hs mx)
   have hx:=bG hs xo
   split at hd
   ·rename_i β A xs ex
    rw[ex]at hx
    split at hd
    ·rename_i hAB
     subst hAB
     cases hd
     exact sO m h1 h2 h3 h4 ho hx hl' hr' hq' hc.1 hc.2.1 hc.2.2.1 hc.2.2.2
    ·cases hd
   ·rename_i id ex
    rw[ex]at hx
    split at hd
    ·rename_i A xs hid
     split at hd
     ·rename_i hAB
      subst hAB
      cases hd
      obtain⟨u,q1,q2⟩:=m.ob id _ hid
      simp only[V]at hx
      rw[hx.1]at q1
      cases q1
      exact sO m h1 h2 h3 h4 ho q2 hl' hr' hq' hc.1 hc.2.1 hc.2.2.1 hc.2.2.2
     ·cases hd
    ·cases hd
   ·cases hd
  ·cases hd
 ·rename_i t xo f ho
  unfold E5 at hd
  split at hd
  ·rename_i ti ht
   split at hd
   ·rename_i fs hk
    split at hd
    ·rename_i off ft hf
     split at hd
     ·rename_i id i sz k ex
      cases hd
      exact m8 m (htb.find ht) (bG hs xo) ho hk hf (.inl ⟨_,_,_,_,ex,rfl⟩)
     ·rename_i β cs k ex
      cases hd
      exact m8 m (htb.find ht) (bG hs xo) ho hk hf (.inr ⟨_,_,_,ex,rfl⟩)
     ·cases hd
    ·cases hd
   ·cases hd
  ·cases hd
 ·rename_i t xo io ho
  split at hd
  case h_2=>exact P2 m htb (bG hs xo) (bG hs io) ho hd hc
  rename_i r0 hd0
  cases hd
  revert hd0
  intro hd
  unfold g6 at hd
  split at hd
  ·rename_i e te A het
   obtain⟨ti',h1,h1',h2,h3,h4,h5⟩:=dH htb het
   split at hd
   ·rename_i β k i ei
    split at hd
    ·rename_i y sz c' hy
     split at hd
     ·rename_i hsz
      subst hsz
      cases hd
      have hi:=bG hs io
      rw[ei]at hi
      exact vO m h1 h2 h3 (bG hs xo) hi ho hy hc
     ·cases hd
    ·cases hd
   ·cases hd
  ·cases hd
 ·rename_i t xo io ho
  unfold D9 at hd
  split at hd
  ·rename_i ti ht
   split at hd
   ·rename_i hk
    split at hd
    ·rename_i β str β' k i ex ei
     cases hd
     have hx:=bG hs xo
     have hi:=bG hs io
     rw[ex]at hx
     rw[ei]at hi
     exact vE m (htb.find ht) hk hx hi ho hc.1 hc.2
    ·cases hd
   ·rename_i n e hk
    split at hd
    ·rename_i te hte
     split at hd
     ·rename_i k hek
      split at hd
      ·rename_i cs β k' j ex ei
       split at hd
       ·rename_i hn
        split at hd
        ·rename_i l hl
         cases hd
         have hx:=bG hs xo
         have hi:=bG hs io
         rw[ex]at hx
         rw[ei]at hi
         exact xM m (htb.find ht) hk (htb.find hte) hek hx hl hn hi ho hc
        ·cases hd
       ·cases hd
      ·cases hd
     ·cases hd
    ·cases hd
   ·cases hd
  ·cases hd
 ·rename_i xo i ho
  unfold uX at hd
  split at hd
  ·rename_i cs ex
   split at hd
   ·rename_i y hy
    cases hd
    have hx:=bG hs xo
    rw[ex]at hx
    exact y8 m hx ho hy
   ·cases hd
  ·cases hd
 ·rename_i xo xt t ok ho
  exact A6 m ho (bG hs xo) hd hc
 ·rename_i fn first caps ho
  unfold M5 at hd
  split at hd
  ·rename_i f e
   cases hd
   have e':first = #[]:=Array.ext' e
   subst e'
   exact xC m ho (nI hs _)
  ·cases hd
 ·rename_i t lo co ho
  unfold L8 at hd
  split at hd
  ·rename_i e te A het
   obtain⟨ti',h1,h1',h2,h3,h4,h5⟩:=dH htb het
   split at hd
   ·rename_i β k l β' k' c' el ec
    cases hd
    have hl:=bG hs lo
    have hcc:=bG hs co
    rw[el]at hl
    rw[ec]at hcc
    exact Q9 m hn h1 h2 h3 h4 h5 ho hl hcc hc.1 hc.2.1 hc.2.2.1 hc.2.2.2
   ·cases hd
  ·cases hd
 ·rename_i t ho
  split at hd
  ·rename_i r hs0
   cases hd
   have hd:=hs0
   unfold vZ at hd
   split at hd
   ·rename_i K A c' hm
    cases hd
    obtain⟨ti,kt,et,te,h1,h2,h3,h5,h6⟩:=lV htb hm hc
    exact zJ m hn h3.isKey ho
   ·cases hd
  ·unfold tR at hd
   split at hd
   ·rename_i K c' hm
    cases hd
    obtain⟨ti,kt,et,te,h1,h2,h3,h5⟩:=l0 htb hm hc
    exact xA m hn h3.isKey ho
   ·cases hd
 ·rename_i t xo ko ok ho
  split at hd
  ·rename_i r hs0
   cases hd
   have hd:=hs0
   unfold lG at hd
   split at hd
   ·rename_i K A c' hm
    split at hd
    ·rename_i id ex
     split at hd
     ·rename_i K1 A1 kv hi
      split at hd
      ·rename_i i hk1
       split at hd
       ·rename_i q
        obtain⟨rfl,rfl⟩:=q
        cases hd
        obtain⟨ti,kt,et,te,h1,h2,h3,h5,h6⟩:=lV htb hm hc
        have hx:=bG hs xo
        have hk:=bG hs ko
        rw[ex]at hx
        exact E6 m h1 h2 h3 h5 h6 ho hi hx (fZ hk1 h3.isKey hk)
       ·cases hd
      ·cases hd
     ·cases hd
    ·cases hd
   ·cases hd
  ·unfold jS at hd
   split at hd
   ·rename_i K c' hm
    split at hd
    ·rename_i id ex
     split at hd
     ·rename_i K1 kv hi
      split at hd
      ·rename_i i j hk1 _
       split at hd
       ·rename_i q
        obtain⟨rfl,rfl⟩:=q
        cases hd
        obtain⟨ti,kt,et,te,h1,h2,h3,h5⟩:=l0 htb hm hc.1
        have hx:=bG hs xo
        have hk:=bG hs ko
        rw[ex]at hx
        rw[←wB hc.2]
        exact y6 m h1 h2 h3 h5 ho hi hx (fZ hk1 h3.isKey hk)
       ·cases hd
      ·cases hd
     ·cases hd
    ·cases hd
   ·cases hd
 ·rename_i t xo ko yo ho
  split at hd
  ·rename_i r hs0
   cases hd
   have hd:=hs0
   unfold eT at hd
   split at hd
   ·rename_i K A c' hm
    split at hd
    ·rename_i id ex
     split at hd
     ·rename_i K1 A1 kv hi
      split at hd
      ·rename_i i hk1
       split at hd
       ·rename_i q
        obtain⟨rfl,rfl,hc1,hc2⟩:=q
        split at hd
        ·rename_i z us hz
         split at hd
         ·rename_i hus
          cases hd
          obtain⟨ti,kt,et,te,h1,h2,h3,h5,h6⟩:=lV htb hm hc
          have hx:=bG hs xo
          have hk:=bG hs ko
          rw[ex]at hx
          exact mZ m h1 h2 h3 (.inl ho) hi (by rw[wQ hus];exact hi) hx (fZ hk1 h3.isKey hk) (bG hs yo) hc1 hc2 hz
         ·cases hd
        ·cases hd
       ·cases hd
      ·cases hd
     ·cases hd
    ·cases hd
   ·cases hd
  ·unfold dX at hd
   split at hd
   ·rename_i K c' hm
    split at hd
    ·rename_i id ex
     split at hd
     ·rename_i K1 kv hi
      split at hd
      ·rename_i i v hk1 hv1
       split at hd
       ·rename_i q
        obtain⟨rfl,q2⟩:=q
        cases hd
        obtain⟨ti,kt,et,te,h1,h2,h3,h5⟩:=l0 htb hm hc
        have hx:=bG hs xo
        have hk:=bG hs ko
        rw[ex]at hx
        refine mG m h1 h2 h3 (.inl ho) hi hx (fZ hk1 h3.isKey hk) (sS hv1 (bG hs yo)) (fun p hp e=> ?_)
        have:=List.all_eq_true.1 q2 p hp
        rw[(bO h3.isKey).2 e]at this
        cases this
       ·cases hd
      ·cases hd
     ·cases hd
    ·cases hd
   ·cases hd
 ·rename_i t xo ko yo ho
  split at hd
  ·rename_i r hs0
   cases hd
   have hd:=hs0
   unfold eT at hd
   split at hd
   ·rename_i K A c' hm
    split at hd
    ·rename_i id ex
     split at hd
     ·rename_i K1 A1 kv hi
      split at hd
      ·rename_i i hk1
       split at hd
       ·rename_i q
        obtain⟨rfl,rfl,hc1,hc2⟩:=q
        split at hd
        ·rename_i z us hz
         split at hd
         ·rename_i hus
          cases hd
          obtain⟨ti,kt,et,te,h1,h2,h3,h5,h6⟩:=lV htb hm hc
          have hx:=bG hs xo
          have hk:=bG hs ko
          rw[ex]at hx
          exact mZ m h1 h2 h3 (.inr ho) hi (by rw[wQ hus];exact hi) hx (fZ hk1 h3.isKey hk) (bG hs yo) hc1 hc2 hz
         ·cases hd
        ·cases hd
       ·cases hd
      ·cases hd
     ·cases hd
    ·cases hd
   ·cases hd
  ·unfold dX at hd
   split at hd
   ·rename_i K c' hm
    split at hd
    ·rename_i id ex
     split at hd
     ·rename_i K1 kv hi
      split at hd
      ·rename_i i v hk1 hv1
       split at hd
       ·rename_i q
        obtain⟨rfl,q2⟩:=q
        cases hd
        obtain⟨ti,kt,et,te,h1,h2,h3,h5⟩:=l0 htb hm hc
        have hx:=bG hs xo
        have hk:=bG hs ko
        rw[ex]at hx
        refine mG m h1 h2 h3 (.inr ho) hi hx (fZ hk1 h3.isKey hk) (sS hv1 (bG hs yo)) (fun p hp e=> ?_)
        have:=List.all_eq_true.1 q2 p hp
        rw[(bO h3.isKey).2 e]at this
        cases this
       ·cases hd
      ·cases hd
     ·cases hd
    ·cases hd
   ·cases hd
 ·rename_i c ho
  obtain⟨callee,args,tys⟩:=c
  unfold n9 at hd
  simp only at hd
  split at hd
  ·rename_i b
   unfold o5 at hd
   split at hd
   ·rename_i x0 t ex et
    obtain⟨xo,eargs,rfl⟩:∃xo,args = #[xo]∧ev s xo=x0:=by
     match hargs:args.toList,ex with
     | [xo],ex=>exact⟨xo,Array.ext' hargs,by simpa using ex⟩
    have etys:tys = #[t]:=Array.ext' et
    subst eargs etys
    split at hd
    ·unfold sD at hd
     split at hd
     ·rename_i ti ht
      split at hd
      ·rename_i kt et id hk ex
       split at hd
       ·rename_i K A kv hi
        cases hd
        have hx:=bG hs xo
        rw[ex]at hx
        exact yY m (htb.find ht) hk hi hx ho
       ·cases hd
      ·cases hd
     ·cases hd
    unfold J0 at hd
    split at hd
    ·rename_i ti ht
     split at hd
     ·rename_i k hk
      split at hd
      ·rename_i e he
       split at hd
       ·cases hd
       ·rename_i hstr
        cases hd
        refine H3 m (htb.find ht) (.inl ⟨e,he⟩) (bG hs xo) ho hk ⟨fun h=>(by rw[he]at h;cases h),fun⟨β,str,ex⟩=> ?_⟩
        rw[ex]at hstr
        exact absurd rfl hstr
      ·rename_i he
       split at hd
       ·rename_i hstr
        cases hd
        refine H3 m (htb.find ht) (.inr he) (bG hs xo) ho hk ⟨fun _=> ?_,fun _=>he⟩
        unfold aAl at hstr
        split at hstr
        ·rename_i β str ex;exact⟨β,str,ex⟩
        ·cases hstr
       ·cases hd
      ·cases hd
     ·cases hd
    ·cases hd
   ·rename_i x0 y0 ex
    obtain⟨xo,yo,eargs,rfl,rfl⟩:∃xo yo,args = #[xo,yo]∧ev s xo=x0∧ev s yo=y0:=by
     match hargs:args.toList,ex with
     | [xo,yo],ex=>exact⟨xo,yo,Array.ext' hargs,by simp at ex;exact ex.1,by simp at ex;exact ex.2⟩
    subst eargs
    unfold O3 at hd
    split at hd
    ·rename_i β k i β' k' j ex ey
     split at hd
     ·rename_i hkk
      subst hkk
      cases hd
      have hx:=bG hs xo
      have hy:=bG hs yo
      rw[ex]at hx
      rw[ey]at hy
      exact aAk m hx hy ho
     ·cases hd
    ·cases hd
   ·rename_i x0 y0 ex
    obtain⟨xo,yo,eargs,rfl,rfl⟩:∃xo yo,args = #[xo,yo]∧ev s xo=x0∧ev s yo=y0:=by
     match hargs:args.toList,ex with
     | [xo,yo],ex=>exact⟨xo,yo,Array.ext' hargs,by simp at ex;exact ex.1,by simp at ex;exact ex.2⟩
    subst eargs
    unfold O3 at hd
    split at hd
    ·rename_i β k i β' k' j ex ey
     split at hd
     ·rename_i hkk
      subst hkk
      cases hd
      have hx:=bG hs xo
      have hy:=bG hs yo
      rw[ex]at hx
      rw[ey]at hy
      exact aAh m hx hy ho
     ·cases hd
    ·cases hd
   ·rename_i x0 y0 t t' ex et
    obtain⟨xo,yo,eargs,rfl,rfl⟩:∃xo yo,args = #[xo,yo]∧ev s xo=x0∧ev s yo=y0:=by
     match hargs:args.toList,ex with
     | [xo,yo],ex=>exact⟨xo,yo,Array.ext' hargs,by simp at ex;exact ex.1,by simp at ex;exact ex.2⟩
    have etys:tys = #[t,t']:=Array.ext' et
    subst eargs etys
    split at hd
    ·rename_i htt
     subst htt
     unfold lN at hd
     split at hd
     ·rename_i e te A het
      obtain⟨ti',h1,h1',h2,h3,h4,h5⟩:=dH htb het
      split at hd
      ·rename_i ys hys
       split at hd
       ·rename_i ex
        cases hd
        exact tL m hn h1 h2 h3 h4 h5 (bG hs xo) (bG hs yo) ho (xs:=[]) (.inl ⟨ex,rfl,rfl,rfl⟩) hys hc.1 hc.2
       ·rename_i id ex
        split at hd
        ·rename_i e' B xs hid
         split at hd
         ·rename_i hBA
          subst hBA
          split at hd
          ·rename_i hee
           subst hee
           simp only[Option.some.injEq,Prod.mk.injEq]at hd
           obtain⟨rfl,rfl,rfl⟩:=hd
           exact tL m hn h1 h2 h3 h4 h5 (bG hs xo) (bG hs yo) ho (xs:=xs) (.inr ⟨id,ex,hid,rfl,rfl⟩) hys hc.1 hc.2
          ·cases hd
         ·cases hd
        ·cases hd
       ·cases hd
      ·cases hd
     ·cases hd
    ·cases hd
   ·rename_i x0 y0 t t' ex et
    obtain⟨xo,yo,eargs,rfl,rfl⟩:∃xo yo,args = #[xo,yo]∧ev s xo=x0∧ev s yo=y0:=by
     match hargs:args.toList,ex with
     | [xo,yo],ex=>exact⟨xo,yo,Array.ext' hargs,by simp at ex;exact ex.1,by simp at ex;exact ex.2⟩
    have etys:tys = #[t,t']:=Array.ext' et
    subst eargs etys
    unfold q9 at hd
    split at hd
    ·rename_i e te A het
     obtain⟨ti',h1,h1',h2,h3,h4,h5⟩:=dH htb het
     split at hd
     ·rename_i ys hys
      split at hd
      ·rename_i id ex
       split at hd
       ·rename_i e' B xs hid
        split at hd
        ·rename_i hBA
         subst hBA
         simp only[Option.some.injEq,Prod.mk.injEq]at hd
         obtain⟨rfl,rfl,rfl⟩:=hd
         have hx:=bG hs xo
         rw[ex]at hx
         exact P3 m h1 h2 h3 h4 hx (bG hs yo) ho hid hys
        ·cases hd
       ·cases hd
      ·cases hd
     ·cases hd
    ·cases hd
   ·cases hd
  ·rename_i fo
   unfold uE at hd
   split at hd
   ·rename_i fid caps q ef
    split at hd
    ·rename_i ys u' hfz
     have hf:=wG (bG hs fo)
     rw[ef]at hf
     obtain⟨q1,q2,q3⟩:=l7 m hfz
     split at hd
     ·split at hd
      ·split at hd
       ·rename_i args' hin hl hi
        split at hd
        ·rename_i hok
         cases hd
         have hc:Owns P fid args' hin q.r q.hout:=by
          unfold vI at hc
          rw[show q.die=none from hdie]at hc
          exact hc
         have hg:=aAq (new:=new) q1 hn8 ho (V.mono q2 (fun _ _ h=>h) hf) (q3 _ (j9 (nI hs args.toList))) hl hi hok hc
         refine fun K Q hk=>hg K Q fun v w' hp=>hk v w' ?_
         exact Post.after (h:=h) (u1:=u') rfl q2 hp
        ·cases hd
       ·cases hd
      ·cases hd
     ·split at hd
      ·rename_i args' hl
       cases hd
       have hg:=R8 (new:=new) q1 ho (V.mono q2 (fun _ _ h=>h) hf) (q3 _ (j9 (nI hs args.toList))) hl hc
       refine fun K Q hk=>hg K Q fun v w' hp=>hk v w' ?_
       have:=Post.after (h:=h) (u1:=u) rfl q2 hp
       simpa using this
      ·cases hd
    ·cases hd
   ·cases hd
  ·cases hd
 ·cases hd
def aBP:AVal→Bool
 | .unk=>true
 | _=>false
def aAA(op:Op)(orc:Option Orc):Option Value :=
 match op,orc with
 | .call c,some q=>match c.callee with
  | .value _=>if q.own && aBP q.r && q.hout.isEmpty then q.die else none
  | _=>none
 | _,_=>none
theorem aA0(m:Mem Bw w0 ρ φ h w)(hs:Slots n (Fr (own φ h) Bw w) ρ s a)(hn8:∀j,j<8→ρ (new+j)=none){o:Oper}{asm:Option Bool}{orc:Option Orc}{y:Value}(hdy:aAA o.op orc=some y){x:AVal}{u:iH}{c:Prop}
  (hd:mF P tb new asm orc o.op s h=some (x,u,c)) (hc:c):Bad P o a w y (fun w'=>∃v,Post Bw w0 ρ φ h w new .unk u v w'):=by
 unfold aAA at hdy
 split at hdy
 ·rename_i c0 q ho
  split at hdy
  ·rename_i fo hfo
   split at hdy
   ·rename_i hcond
    simp only[Bool.and_eq_true,List.isEmpty_iff]at hcond
    obtain⟨⟨hown,hunk⟩,hout⟩:=hcond
    obtain⟨callee,args,tys⟩:=c0
    simp only at hfo
    subst hfo
    have hr:q.r = .unk:=by
     unfold aBP at hunk
     split at hunk
     ·assumption
     ·cases hunk
    rw[ho]at hd
    simp only[mF,n9]at hd
    unfold uE at hd
    split at hd
    ·rename_i fid caps q' ef eq
     cases eq
     split at hd
     ·rename_i ys u' hfz
      have hf:=wG (bG hs fo)
      rw[ef]at hf
      obtain⟨q1,q2,q3⟩:=l7 m hfz
      rw[if_pos hown]at hd
      split at hd
      ·split at hd
       ·rename_i args' hin hl hi
        split at hd
        ·rename_i hok
         cases hd
         rw[hr,hout]at hok
         have hc:Dies P fid args' hin y:=by
          unfold vI at hc
          rw[hdy]at hc
          exact hc
         have hg:=aBx (new:=new) q1 hn8 ho (V.mono q2 (fun _ _ h=>h) hf) (q3 _ (j9 (nI hs args.toList))) hl hi hok hc
         refine fun K Q hk=>hg K Q fun w' ⟨v,hp⟩=>hk w' ⟨v,?_⟩
         rw[hout]
         exact Post.after (h:=h) (u1:=u') rfl q2 hp
        ·cases hd
       ·cases hd
      ·cases hd
     ·cases hd
    ·cases hd
   ·cases hdy
  ·cases hdy
 ·cases hdy
end
end Go.Tv
