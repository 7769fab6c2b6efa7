/- What an operation comes to, by a function. -/
import Derived.Test.YtbedjpdfkmfplaaGreatDoorTvKhm
namespace Go.Tv
open Go Go.RowKit
def vV(s:Nat→AVal):Option Operand→Option (Option Int)
 | none=>some none
 | some x=>match ev s x with
  | .p _ (.int _) n=>some (some n)
  | _=>none
def iT(tb:Tab)(t:TypeId):Option (TypeId×TI×Ty) :=
 match tb.find t with
 | some ti=>match ti.k with
  | .sl e=>match tb.find e with
   | some te=>match te.T with
    | some A=>if 0<A.size then some (e,te,A)else none
    | none=>none
   | none=>none
  | _=>none
 | none=>none
def aDP(tb:Tab)(new:Nat)(t:TypeId):Option iH :=
 match tb.find t with
 | some ti=>some (.adr new 0 ti.size 0,[(new,some (.box ti.z))],True)
 | none=>none
def aGS(new:Nat)(x:AVal):Option iH :=
 if(cellsOf x).all AVal.cell then some (.adr new 0 (cellsOf x).length 0,[(new,some (.box (cellsOf x)))],True)else none
def uJ(tb:Tab)(t:TypeId)(is:List Nat)(xs:List AVal):Option iH :=
 match tb.find t with
 | some ti=>match ti.k with
  | .st fs=>match fQ tb fs (is.zip xs) ti.z with
   | some ds=>some (.agg ds,[],True)
   | none=>none
  | .ar n e=>match tb.find e with
   | some te=>match fQ tb ((List.range n).map fun i=>(i*te.size,e)) (is.zip xs) ti.z with
    | some ds=>some (.agg ds,[],True)
    | none=>none
   | none=>none
  | _=>none
 | none=>none
def o5(tb:Tab)(new:Nat)(t:TypeId)(len:Nat)(is:List Nat)(xs:List AVal)(h:Nat→Option Obj):Option iH :=
 match iT tb t with
 | some (e,te,A) =>
  if is=List.range len∧xs.all AVal.cellOk=true∧len*te.size≤16777216 then
   match aDL A h xs with
   | some (ys,us)=>some (.sl new,us++[(new,some (.arr e A ys))],True)
   | none=>none
  else none
 | none=>none
def pP(ti:TI)(x:AVal)(h:Nat→Option Obj):Option iH :=
 match x,ti.k with
 | .ada id b n i,.int k=>match h id with
  | some (.box cs)=>if b+n≤cs.length then(match zA k ((cs.drop b).take n)with
   | some l=>some (.p false (.int k) (l.getD i 0),[],True)
   | none=>none)else none
  | _=>none
 | _,_=>none
def mK(ti:TI)(x y:AVal)(h:Nat→Option Obj):Option iH :=
 match x,y with
 | .ada id b n i,.p _ (.int k) v=>match h id with
  | some (.box cs)=>if b+n≤cs.length∧ti.size=1 then(match zA k ((cs.drop b).take n)with
   | some l=>some (.unk,[(id,some (.box (cs.take b++U9 k i v 0 l++cs.drop (b+n))))],True)
   | none=>none)else none
  | _=>none
 | _,_=>none
def mJ(tb:Tab)(t:TypeId)(x i:AVal)(h:Nat→Option Obj):Option iH :=
 match tb.find t with
 | some ti=>match ti.k with
  | .ar n e=>match tb.find e with
   | some te=>if te.size=1 then(match x,i with
    | .adr id j sz off,.p _ (.int _) m=>match h id with
     | some (.box _)=>some (.ada id (j*sz+off) n (show Int from m).toNat,[],0≤(show Int from m)∧(show Int from m)<(n:Int))
     | _=>none
    | .ada id b N p,.p _ (.int _) m=>some (.ada id b N (p+(show Int from m).toNat),[],(0≤(show Int from m)∧(show Int from m)<(n:Int))∧p+(show Int from m).toNat<N)
    | _,_=>none)else if 0<te.size then(match x,i with
    | .adr id j sz off,.p _ (.int _) m=>match h id with
     | some (.box _)=>some (.ada id (j*sz+off) (n*te.size) ((show Int from m).toNat*te.size),[],0≤(show Int from m)∧(show Int from m)<(n:Int))
     | _=>none
    | _,_=>none)else none
   | none=>none
  | _=>none
 | none=>none
def oF(new:Nat)(ti:TI)(x:AVal)(h:Nat→Option Obj):Option iH :=
 match x with
 | .adr id i sz off=>if sz=1∧off=0∧ti.k.agg=false then
   match h id with
   | some (.mat e e2 A xss none)=>some (.sl new,[(id,some (.mat e e2 A xss (some (i,new)))),(new,some (.arr e2 A (xss.getD i [])))],i<xss.length)
   | some (.mat e e2 A xss (some (k,j)))=>match h j with
    | some (.arr e3 B ys)=>if q:B=A then(if e3=e2 then
      some (.sl new,[(j,none),(id,some (.mat e e2 A (xss.set k (q ▸ ys:List A.den)) none))]++[(id,some (.mat e e2 A (xss.set k (q ▸ ys:List A.den)) (some (i,new)))),(new,some (.arr e2 A ((xss.set k (q ▸ ys:List A.den)).getD i [])))],i<xss.length)else none)else none
    | _=>none
   | _=>none
  else none
 | _=>none
def aBt(tb:Tab)(new:Nat)(t:TypeId)(x:AVal)(h:Nat→Option Obj):Option iH :=
 match tb.find t with
 | some ti=>match mE h x with
  | some (cs,off,c)=>match eY ti cs off with
   | some y=>some (y,[],c)
   | none=>none
  | none=>match pP ti x h with
   | some r=>some r
   | none=>oF new ti x h
 | none=>none
def B2(id i:Nat)(e e2:TypeId)(A:Ty)(xss:List (List A.den))(hole:Option (Nat×Nat))(y:AVal)(h:Nat→Option Obj):Option iH :=
 match y with
 | .sl r=>match h r with
  | some (.arr e3 B _)=>if B=A∧e3=e2 then
    match hole with
    | none=>some (.unk,[(id,some (.mat e e2 A xss (some (i,r))))],i<xss.length)
    | some (k,j)=>match h j with
     | none=>some (.unk,[(id,some (.mat e e2 A xss (some (i,r))))],k=i∧i<xss.length)
     | some (.arr e4 C ys)=>if q:C=A then(if e4=e2∧j≠r then
       some (.unk,[(j,none),(id,some (.mat e e2 A (xss.set k (q ▸ ys:List A.den)) none))]++[(id,some (.mat e e2 A (xss.set k (q ▸ ys:List A.den)) (some (i,r))))],i<xss.length)else none)else none
     | _=>none
   else none
  | _=>none
 | _=>none
def uV(tb:Tab)(t:TypeId)(x y:AVal)(h:Nat→Option Obj):Option iH :=
 match tb.find t with
 | some ti =>
  if(cellsOf y).all AVal.cell=true∧(cellsOf y).length=ti.size then
   match x with
   | .adr id i sz off=>match h id with
    | some (.box cs)=>if i*sz+off+ti.size≤cs.length then some (.unk,[(id,some (.box (wr cs (i*sz+off) (cellsOf y))))],True)else none
    | some (.arr e A xs) =>
     if sz=A.size∧off+ti.size≤A.size then
      match aCI A h xs i off y with
      | some (z,us)=>if us.all (fun p=>p.1 != id)then some (.unk,us++[(id,some (.arr e A (xs.set i z)))],i<xs.length)else none
      | none=>none
     else none
    | some (.mat e e2 A xss hole)=>if sz=1∧off=0 then B2 id i e e2 A xss hole y h else none
    | some (.bytes e xs)=>if sz=1∧off=0∧ti.size=1 then(match y with
     | .p _ (.int .u8) v=>some (.unk,[(id,some (.bytes e (xs.set i v)))],i<xs.length)
     | _=>none)else none
    | _=>none
   | _=>mK ti x y h
  else none
 | none=>none
def aGY(x:AVal):Option iH :=
 match x with
 | .adr id i sz off=>some (.adr id i sz off,[],True)
 | .fad β cs off=>some (.fad β cs off,[],True)
 | .p β (.ptr A) q=>some (.fad β (gS β A (q.getD A.zero)) 0,[],q.isSome=true)
 | _=>none
def aBc:AVal→Option Bool
 | .nilp=>some true
 | .adr _ _ _ _=>some false
 | .fad _ _ _=>some false
 | _=>none
def eqR(op:BinOp)(b:Bool):Option AVal :=
 match op with
 | .eql=>some (.p false .bool b)
 | .neq=>some (.p false .bool (!b))
 | _=>none
def aHy(P:Program)(ti:TI)(op:BinOp)(t:TypeId)(x y:AVal):Option iH :=
 match x,y with
 | .agg cs,.agg ds=>match ti.T with
  | some T=>match jO T cs,jO T ds with
   | some (a,[]),some (b,[])=>match eqR op (eqE T a b)with
    | some r=>some (r,[],aJc P t T)
    | none=>none
   | _,_=>none
  | none=>none
 | .p _ (.ptr _) q,.nilp=>match eqR op q.isNone with
  | some r=>some (r,[],∃e,P.underlying t=some (.pointer e))
  | none=>none
 | x,y=>match aBc x,aBc y with
  | some true,some b=>match eqR op b with
   | some r=>some (r,[],∃e,P.underlying t=some (.pointer e))
   | none=>none
  | some false,some true=>match eqR op false with
   | some r=>some (r,[],∃e,P.underlying t=some (.pointer e))
   | none=>none
  | _,_=>match x,y with
   | .lit (.iface _ _),.lit .nilIface=>match eqR op false with
    | some r=>some (r,[],∃ms,P.underlying t=some (.interface ms))
    | none=>none
   | _,_=>none
def E9(P:Program)(x:AVal)(at':TypeId)(ok:Bool):Option iH :=
 match x with
 | .lit (.iface t v)=>if t=at'∧ok=true then some (.tup [aBm v,.p false .bool true],[],∃d,P.underlying at'=some d∧(match d with | .interface _=>false | _=>true)=true)else none
 | _=>none
def aHl(P:Program)(tb:Tab)(op:BinOp)(t:TypeId)(x y:AVal):Option iH :=
 match tb.find t with
 | some ti=>match bin ti.k op x y with
  | some (r,c)=>some (r,[],c)
  | none=>aHy P ti op t x y
 | none=>none
def aIO(op:UnOp)(x:AVal):Option iH :=
 match un op x with
 | some r=>some (r,[],True)
 | none=>none
def aFH(tb:Tab)(k:TK):Bool :=
 match k with
 | .sl e=>match tb.find e with
  | some te=>match te.k with
   | .int .u8=>true
   | _=>false
  | none=>false
 | _=>true
def aHg(tb:Tab)(dk:TK)(x:AVal):Option AVal :=
 match x with
 | .p _ .str l=>match dk with
  | .sl e=>if aFH tb (.sl e)then some (.p false (.slice (.int .u8)) (cV l))else none
  | _=>none
 | .p _ (.int _) n=>match dk with
  | .str=>some (.p false .str (aHI n))
  | _=>none
 | _=>none
def aBz(tb:Tab)(st dt:TypeId)(x:AVal)(h:Nat→Option Obj):Option iH :=
 match tb.find st with
 | some si=>match tb.find dt with
  | some di=>match aHg tb di.k x with
   | some r=>some (r,[],True)
   | none=>if aFH tb si.k then(match conv si.k di.k h x with
    | some r=>some (r,[],True)
    | none=>none)else none
  | none=>none
 | none=>none
def aCo(tb:Tab)(new:Nat)(st dt:TypeId)(x:AVal):Option iH :=
 match tb.find st with
 | some _=>match tb.find dt with
  | some di=>match x with
   | .p _ .str l=>match di.k with
    | .sl e=>if aFH tb (.sl e)then some (.sl new,[(new,some (.bytes e (cV l)))],True)else none
    | _=>none
   | _=>none
  | none=>none
 | none=>none
def uQ(tb:Tab)(new:Nat)(t:TypeId)(x:AVal)(lo hi:Option (Option Int))(h:Nat→Option Obj):Option iH :=
 match tb.find t with
 | some ti=>match lo,hi with
  | some l,some r=>match x with
   | .p _ .str s=>match ti.k with
    | .str=>some (.p false .str ((s.take (r.getD s.length).toNat).drop (l.getD 0).toNat),[],0≤l.getD 0∧l.getD 0≤r.getD s.length∧r.getD s.length≤s.length)
    | _=>none
   | .p β (.slice A) xs=>match iT tb t with
    | some (_,_,B)=>if A=B then some (.p β (.slice A) ((xs.take (r.getD xs.length).toNat).drop (l.getD 0).toNat),[],0≤l.getD 0∧l.getD 0≤r.getD xs.length∧r.getD xs.length≤xs.length)else none
    | none=>none
   | .sl id=>match h id with
    | some (.arr e A xs)=>match iT tb t with
     | some (_,_,_)=>match l,r with
      | none,some k=>some (.sl new,[(id,none),(new,some (.arr e A (xs.take k.toNat)))],0≤k∧k≤xs.length)
      | _,_=>none
     | none=>none
    | some (.fz A xs)=>match iT tb t with
     | some (_,_,B)=>if A=B then some (.p false (.slice A) ((xs.take (r.getD xs.length).toNat).drop (l.getD 0).toNat),[],0≤l.getD 0∧l.getD 0≤r.getD xs.length∧r.getD xs.length≤xs.length)else none
     | none=>none
    | _=>none
   | .nils=>match iT tb t with
    | some (_,_,_)=>some (.nils,[],0≤l.getD 0∧l.getD 0≤r.getD 0∧r.getD 0≤0)
    | none=>none
   | _=>none
  | _,_=>none
 | none=>none
def aAL:AVal→Option Int
 | .p _ (.int _) n=>some n
 | _=>none
def D6(tb:Tab)(t:TypeId)(x:AVal)(lo:Option (Option Int))(hi mx:AVal)(h:Nat→Option Obj):Option iH :=
 match iT tb t,lo,aAL hi,aAL mx with
 | some (_,_,B),some l,some r,some q=>match x with
  | .p β (.slice A) xs=>if A=B then some (.p β (.slice A) ((xs.take r.toNat).drop (l.getD 0).toNat),[],0≤l.getD 0∧l.getD 0≤r∧r≤q∧q≤xs.length)else none
  | .sl id=>match h id with
   | some (.fz A xs)=>if A=B then some (.p false (.slice A) ((xs.take r.toNat).drop (l.getD 0).toNat),[],0≤l.getD 0∧l.getD 0≤r∧r≤q∧q≤xs.length)else none
   | _=>none
  | _=>none
 | _,_,_,_=>none
def aEB(tb:Tab)(new:Nat)(t:TypeId)(x:AVal)(lo:Option (Option Int))(hi mx:AVal)(h:Nat→Option Obj):Option iH :=
 match iT tb t,lo,aAL hi,aAL mx with
 | some (_,_,B),some none,some r,some q=>match fY h x with
  | some (.p false (.slice A) xs,u)=>if A=B then some (.sl new,u++[(new,some (.cutz A (xs.take r.toNat)))],0≤r∧r=q∧r≤xs.length)else none
  | _=>none
 | _,_,_,_=>none
def aDx(tb:Tab)(t:TypeId)(x:AVal)(f:Nat):Option iH :=
 match tb.find t with
 | some ti=>match ti.k with
  | .st fs=>match fs[f]? with
   | some (off,_)=>match x with
    | .adr id i sz k=>some (.adr id i sz (k+off),[],True)
    | .fad β cs k=>some (.fad β cs (k+off),[],True)
    | _=>none
   | none=>none
  | _=>none
 | none=>none
def jV(tb:Tab)(t:TypeId)(x i:AVal)(h:Nat→Option Obj):Option iH :=
 match iT tb t with
 | some (_,te,_)=>match i with
  | .p _ (.int _) n=>match aAV h x n with
   | some (y,sz,c)=>if sz=te.size then some (y,[],c)else none
   | none=>none
  | _=>none
 | none=>none
def aCp(tb:Tab)(t:TypeId)(x i:AVal):Option iH :=
 match tb.find t with
 | some ti=>match ti.k with
  | .str=>match x,i with
   | .p _ .str s,.p _ (.int _) n=>some (.p false (.int .u8) ((s.getD n.toNat 0).toNat:Int),[],0≤n∧n<s.length)
   | _,_=>none
  | .ar n e=>match tb.find e with
   | some te=>match te.k with
    | .int k=>match x,i with
     | .agg cs,.p _ (.int _) m=>if cs.length=n then(match zA k cs with
      | some l=>some (.p false (.int k) (l.getD (show Int from m).toNat 0),[],0≤(show Int from m)∧(show Int from m)<(n:Int))
      | none=>none)else none
     | _,_=>none
    | _=>none
   | none=>none
  | _=>none
 | none=>none
def Q7(x:AVal)(i:Nat):Option iH :=
 match x with
 | .tup cs=>match cs[i]? with
  | some y=>some (y,[],True)
  | none=>none
 | _=>none
def aGx(e:TypeId)(te:TI)(A:Ty)(n:Nat):Obj :=
 match A with
 | .slice B=>match te.k,te.z with
  | .sl e2,[.nils]=>if 0<B.size then .mat e e2 B (List.replicate n []) none else .arr e (.slice B) (List.replicate n [])
  | _,_=> .arr e (.slice B) (List.replicate n [])
 | A=> .arr e A (List.replicate n A.zero)
def aEW(tb:Tab)(new:Nat)(t:TypeId)(l c:AVal):Option iH :=
 match iT tb t with
 | some (e,te,A)=>match l,c with
  | .p _ (.int _) n,.p _ (.int _) k=>some (.sl new,[(new,some (aGx e te A n.toNat))],0≤n∧n≤k∧(te.bytes:Int)*k≤281474976710656∧k≤9223372036854775807)
  | _,_=>none
 | none=>none
def aHF:AVal→Bool
 | .p _ .str _=>true
 | _=>false
def aEo(tb:Tab)(t:TypeId)(x:AVal)(h:Nat→Option Obj):Option iH :=
 match tb.find t with
 | some ti=>match lenOf h x with
  | some n=>match ti.k with
   | .sl _=>if aHF x then none else some (.p false (.int .i64) n,[],True)
   | .str=>if aHF x then some (.p false (.int .i64) n,[],True)else none
   | _=>none
  | none=>none
 | none=>none
def pG(tb:Tab)(new:Nat)(t:TypeId)(x y:AVal)(h:Nat→Option Obj):Option iH :=
 match iT tb t with
 | some (e,te,A)=>match eU h A y with
  | some ys=>match x with
   | .nils=>some (.sl new,[(new,some (.arr e A ys))],(([]:List A.den).length+ys.length)*te.bytes≤140737488355328∧([]:List A.den).length+ys.length≤9223372036854775807)
   | .sl id=>match h id with
    | some (.arr e' B xs)=>if q:B=A then(if e'=e then some (.sl new,[(id,none),(new,some (.arr e A ((q ▸ xs:List A.den)++ys)))],((q ▸ xs:List A.den).length+ys.length)*te.bytes≤140737488355328∧(q ▸ xs:List A.den).length+ys.length≤9223372036854775807)else none)else none
    | some (.cutz B xs)=>if q:B=A then some (.sl new,[(new,some (.arr e A ((q ▸ xs:List A.den)++ys)))],0<ys.length∧((q ▸ xs:List A.den).length+ys.length)*te.bytes≤140737488355328∧(q ▸ xs:List A.den).length+ys.length≤9223372036854775807)else none
    | _=>none
   | _=>none
  | none=>none
 | none=>none
def zI(tb:Tab)(t:TypeId)(x y:AVal)(h:Nat→Option Obj):Option iH :=
 match iT tb t with
 | some (_,_,A)=>match eU h A y with
  | some ys=>match x with
   | .sl id=>match h id with
    | some (.arr e' B xs)=>if q:B=A then some (.p false (.int .i64) ((min ys.length (q ▸ xs:List A.den).length:Nat):Int),[(id,some (.arr e' A (ys.take (q ▸ xs:List A.den).length++(q ▸ xs:List A.den).drop ys.length)))],True)else none
    | _=>none
   | _=>none
  | none=>none
 | none=>none
def aH8(P:Program)(kt:TypeId)(ki:TI):Option (Ty×Prop) :=
 match aH4 ki.k with
 | some K=>some (K,True)
 | none=>match ki.T with
  | some K=>if K.scalar=false then some (K,KeyOk P kt K)else none
  | none=>none
def aHN(P:Program)(tb:Tab)(t:TypeId):Option (Ty×Ty×Prop) :=
 match tb.find t with
 | some ti=>match ti.k with
  | .mp kt et=>match tb.find kt,tb.find et with
   | some ki,some te=>match aH8 P kt ki,te.T with
    | some (K,c),some A=>some (K,A,c)
    | _,_=>none
   | _,_=>none
  | _=>none
 | none=>none
def B8(K:Ty)(x:AVal):Option K.den :=
 match x with
 | .p _ K2 i=>if q:K2=K then(if K.scalar=true then some (q ▸ i)else none)else none
 | .agg cs=>if K.scalar=false∧cs.length=K.size then match jO K cs with
  | some (k,_)=>some k
  | none=>none
  else none
 | .lag k n xs []=>if q:Ty.arr k n=K then some (q ▸ (show(Ty.arr k n).den from xs))else none
 | _=>none
def Q2(P:Program)(tb:Tab)(new:Nat)(t:TypeId):Option iH :=
 match aHN P tb t with
 | some (K,A,c)=>some (.mp new,[(new,some (.mpo K A []))],c)
 | none=>none
def pJ(P:Program)(tb:Tab)(t:TypeId)(x k:AVal)(ok:Bool)(h:Nat→Option Obj):Option iH :=
 match aHN P tb t with
 | some (K,A,c)=>match x with
  | .mp id=>match h id with
   | some (.mpo K1 A1 kv)=>match B8 K1 k with
    | some i=>if K1=K∧A1=A then
     some (if ok then .tup [enc false A1 ((bI K1 kv i).getD A1.zero),.p false .bool (bI K1 kv i).isSome]else enc false A1 ((bI K1 kv i).getD A1.zero),[],c)else none
    | none=>none
   | _=>none
  | _=>none
 | none=>none
def fZ(P:Program)(tb:Tab)(t:TypeId)(x k y:AVal)(h:Nat→Option Obj):Option iH :=
 match aHN P tb t with
 | some (K,A,c)=>match x with
  | .mp id=>match h id with
   | some (.mpo K1 A1 kv)=>match B8 K1 k with
    | some i=>if K1=K∧A1=A∧(cellsOf y).all AVal.cell=true∧mC A1 y=true then
     match toT A1 h y with
     | some (z,us)=>if us.all (fun p=>p.1 != id)then some (.unk,us++[(id,some (.mpo K1 A1 (eS K1 kv i z)))],c)else none
     | none=>none
     else none
    | none=>none
   | _=>none
  | _=>none
 | none=>none
def aGM(P:Program)(tb:Tab)(t:TypeId):Option (Ty×Prop) :=
 match tb.find t with
 | some ti=>match ti.k with
  | .mp kt et=>match tb.find kt,tb.find et with
   | some ki,some te=>match te.T with
    | none=>aH8 P kt ki
    | some _=>none
   | _,_=>none
  | _=>none
 | none=>none
def H7(P:Program)(tb:Tab)(new:Nat)(t:TypeId):Option iH :=
 match aGM P tb t with
 | some (K,c)=>some (.mp new,[(new,some (.mpl K []))],c)
 | none=>none
def aGR:AVal→Option Value
 | .lit v=>some v
 | .fn f []=>some (.func (.func f) #[] #[])
 | _=>none
def fF(P:Program)(tb:Tab)(t:TypeId)(x k y:AVal)(h:Nat→Option Obj):Option iH :=
 match aGM P tb t with
 | some (K,c)=>match x with
  | .mp id=>match h id with
   | some (.mpl K1 kv)=>match B8 K1 k,aGR y with
    | some i,some v=>if K1=K∧kv.all (fun p=> !eQ K1 p.1 i)=true then some (.unk,[(id,some (.mpl K1 (kv++[(i,v)])))],c)else none
    | _,_=>none
   | _=>none
  | _=>none
 | none=>none
def mS(P:Program)(tb:Tab)(t:TypeId)(g:List Nat)(x k:AVal)(ok:Bool)(h:Nat→Option Obj):Option iH :=
 match aGM P tb t with
 | some (K,c)=>match x with
  | .mp id=>match h id with
   | some (.mpl K1 kv)=>match B8 K1 k,g with
    | some i,[j]=>if K1=K∧ok=true then some (aE0 ((kv[j]?).map (·.2)),[],c∧zW K1 kv i j)else none
    | _,_=>none
   | _=>none
  | _=>none
 | none=>none
def E5(tb:Tab)(t:TypeId)(x:AVal)(h:Nat→Option Obj):Option iH :=
 match tb.find t with
 | some ti=>match ti.k,x with
  | .mp _ _,.mp id=>match h id with
   | some (.mpo _ _ kv)=>some (.p false (.int .i64) (kv.length:Int),[],True)
   | _=>none
  | _,_=>none
 | none=>none
def aE2(b:Bool)(x y:AVal):Option iH :=
 match x,y with
 | .p _ (.int k) i,.p _ (.int k') j=>if k'=k then some (.p false (.int k) (if b then max (show Int from i) j else min (show Int from i) j),[],True)else none
 | _,_=>none
def aL4:AVal→Bool
 | .mp _=>true
 | _=>false
def aBv:Ty→List Ty
 | .unit=>[]
 | .prod a b=>aBv a++aBv b
 | .tree k1 k2=>[.int k1,.int k2,.slice (.tree k1 k2)]
 | T=>[T]
def C5:Ty→AVal→AVal
 | .slice A,.nils=> .p false (.slice A) []
 | .ptr A,.nilp=> .p false (.ptr A) none
 | _,x=>x
def n6:List Ty→List AVal→List AVal
 | T::Ts,c::cs=>C5 T c::n6 Ts cs
 | _,cs=>cs
def aEG(T:Ty):AVal→AVal
 | .agg cs=> .agg (n6 (aBv T) cs)
 | x=>C5 T x
def V9(tb:Tab)(t:TypeId)(x:AVal):AVal :=
 match tb.find t with
 | some ti=>match ti.T with
  | some T=>aEG T x
  | none=>x
 | none=>x
def iP(tb:Tab):List Bool→List TypeId→List AVal→List AVal
 | true::bs,t::ts,x::xs=>V9 tb t x::iP tb bs ts xs
 | false::bs,_::ts,x::xs=>x::iP tb bs ts xs
 | _,_,xs=>xs
section
variable{P:Program}{Bw:Nat→Prop}{w0:Base P}{ρ:Nat→Option Value}{φ:Nat→Nat→Prop}{h:Nat→Option Obj}{w:World}{new:Nat}
theorem aHs(m:Mem Bw w0 ρ φ h w){o:Oper}{a:Act}{t:TypeId}{ti:TI}(ht:TIok P t ti){xo:Operand}{x:AVal}(hx:V (Fr (own φ h) Bw w) ρ x (a.eval xo))(ho:o.op = .load t xo)
  {r:AVal} {u:jB} {c:Prop} (hd:pP ti x h=some (r,u,c)):Good P o a w (Post Bw w0 ρ φ h w new r u):=by
 unfold pP at hd
 split at hd
 ·rename_i id b n i k hk
  split at hd
  ·rename_i cs hb
   split at hd
   ·rename_i hn
    split at hd
    ·rename_i l hl
     cases hd
     exact aBd m ht hk hx ho hb hl hn
    ·cases hd
   ·cases hd
  ·cases hd
 ·cases hd
theorem aHh(m:Mem Bw w0 ρ φ h w){o:Oper}{a:Act}{t:TypeId}{ti:TI}(ht:TIok P t ti){xo yo:Operand}{x y:AVal}(hx:V (Fr (own φ h) Bw w) ρ x (a.eval xo))(hy:V (Fr (own φ h) Bw w) ρ y (a.eval yo))(ho:o.op = .store t xo yo)
  {r:AVal} {u:jB} {c:Prop} (hd:mK ti x y h=some (r,u,c)):Good P o a w (Post Bw w0 ρ φ h w new r u):=by
 unfold mK at hd
 split at hd
 ·rename_i id b n i β k v
  split at hd
  ·rename_i cs hb
   split at hd
   ·rename_i hn
    split at hd
    ·rename_i l hl
     cases hd
     exact aAr m ht hn.2 hx hy ho hb hl hn.1
    ·cases hd
   ·cases hd
  ·cases hd
 ·cases hd
theorem aGd{tb:Tab}(m:Mem Bw w0 ρ φ h w)(htb:TabOK P tb){o:Oper}{a:Act}{t:TypeId}{xo io:Operand}{x i:AVal}(hx:V (Fr (own φ h) Bw w) ρ x (a.eval xo))(hi:V (Fr (own φ h) Bw w) ρ i (a.eval io))(ho:o.op = .indexAddr t xo io)
  {r:AVal} {u:jB} {c:Prop} (hd:mJ tb t x i h=some (r,u,c)) (hc:c):Good P o a w (Post Bw w0 ρ φ h w new r u):=by
 unfold mJ at hd
 split at hd
 ·rename_i ti ht
  split at hd
  ·rename_i n e hk
   split at hd
   ·rename_i te hte
    split at hd
    ·rename_i hsz
     split at hd
     ·rename_i id j sz off β k mm
      split at hd
      ·rename_i cs hb
       cases hd
       exact aAb m (htb.find ht) hk (htb.find hte) hsz hx hb hi ho hc
      ·cases hd
     ·rename_i id b N p β k mm
      cases hd
      exact R2 m (htb.find ht) hk (htb.find hte) hsz hx hi ho hc
     ·cases hd
    ·split at hd
     ·rename_i hsz
      split at hd
      ·rename_i id j sz off β k mm
       split at hd
       ·rename_i cs hb
        cases hd
        exact T5 m (htb.find ht) hk (htb.find hte) hsz hx hb hi ho hc
       ·cases hd
      ·cases hd
     ·cases hd
   ·cases hd
  ·cases hd
 ·cases hd
theorem aF4(m:Mem Bw w0 ρ φ h w)(hn:ρ new=none){o:Oper}{a:Act}{t:TypeId}{ti:TI}(ht:TIok P t ti){xo:Operand}{x:AVal}(hx:V (Fr (own φ h) Bw w) ρ x (a.eval xo))(ho:o.op = .load t xo)
  {r:AVal} {u:jB} {c:Prop} (hd:oF new ti x h=some (r,u,c)) (hc:c):Good P o a w (Post Bw w0 ρ φ h w new r u):=by
 unfold oF at hd
 split at hd
 ·rename_i id i sz off
  split at hd
  ·rename_i hcond
   obtain⟨rfl,rfl,hk⟩:=hcond
   split at hd
   ·rename_i e e2 A xss hi
    cases hd
    exact yI m hn ht hk hx ho hi hc
   ·rename_i e e2 A xss k j hi
    split at hd
    ·rename_i e3 B ys hj
     split at hd
     ·rename_i q
      subst q
      split at hd
      ·rename_i he
       subst he
       simp only[Option.some.injEq,Prod.mk.injEq]at hd
       obtain⟨rfl,rfl,rfl⟩:=hd
       obtain⟨m',hF⟩:=m.closeRow hi hj
       have hg:=yI (new:=new) m' hn ht hk (V.mono hF (fun _ _ h=>h) hx) ho (aH _ _ _) (i:=i) (by rw[List.length_set];exact hc)
       exact fun K Q hk'=>hg K Q fun v w' hp=>hk' v w' (Post.after' rfl hF hp)
      ·cases hd
     ·cases hd
    ·cases hd
   ·cases hd
  ·cases hd
 ·cases hd
theorem aHd(m:Mem Bw w0 ρ φ h w){o:Oper}{a:Act}{t:TypeId}{ti:TI}(ht:TIok P t ti){xo yo:Operand}{id i:Nat}(hx:V (Fr (own φ h) Bw w) ρ (.adr id i 1 0) (a.eval xo)){y:AVal}(hy:V (Fr (own φ h) Bw w) ρ y (a.eval yo))(hsz:(cellsOf y).length=ti.size)
  (ho:o.op = .store t xo yo) {e e2:TypeId} {A:Ty} {xss:List (List A.den)} {hole:Option (Nat×Nat)} (hi:h id=some (.mat e e2 A xss hole)) {r:AVal} {u:jB} {c:Prop} (hd:B2 id i e e2 A xss hole y h=some (r,u,c)) (hc:c) :
  Good P o a w (Post Bw w0 ρ φ h w new r u):=by
 unfold B2 at hd
 split at hd
 ·rename_i rr
  have hs1:ti.size=1:=hsz.symm
  split at hd
  ·split at hd
   ·split at hd
    ·cases hd
     exact uB m ht hs1 hx hy ho hi hc (fun k j e=>by cases e)
    ·rename_i k j
     split at hd
     ·cases hd
      exact uB m ht hs1 hx hy ho hi hc.2 (fun k' j' e=>by cases e;exact hc.1)
     ·rename_i e4 C ys hj
      split at hd
      ·rename_i q
       subst q
       split at hd
       ·rename_i he
        obtain⟨rfl,_⟩:=he
        simp only[Option.some.injEq,Prod.mk.injEq]at hd
        obtain⟨rfl,rfl,rfl⟩:=hd
        obtain⟨m',hF⟩:=m.closeRow hi hj
        have hg:=uB (new:=new) m' ht hs1 (V.mono hF (fun _ _ h=>h) hx) (V.mono hF (fun _ _ h=>h) hy) ho (aH _ _ _) (i:=i) (by rw[List.length_set];exact hc) (fun k j e=>by cases e)
        exact fun K Q hk'=>hg K Q fun v w' hp=>hk' v w' (Post.after' rfl hF hp)
       ·cases hd
      ·cases hd
     ·cases hd
   ·cases hd
  ·cases hd
 ·cases hd
theorem aFI(m:Mem Bw w0 ρ φ h w)(hn:ρ new=none){o:Oper}{a:Act}{t e:TypeId}{ti te:TI}(ht:TIok P t ti)(hk:ti.k = .sl e)(hte:TIok P e te){A:Ty}(hT:te.T=some A)(h0:0<A.size)
  {lo co:Operand} (ho:o.op = .makeSlice t lo co) {β β':Bool} {kl kc:IntKind} {l c:Int} (hl:V (Fr (own φ h) Bw w) ρ (.p β (.int kl) l) (a.eval lo)) (hc:V (Fr (own φ h) Bw w) ρ (.p β' (.int kc) c) (a.eval co))
  (h1:0≤l) (h2:l≤c) (h3:(te.bytes:Int)*c≤281474976710656) (h4:c≤9223372036854775807) :
  Good P o a w (Post Bw w0 ρ φ h w new (.sl new) [(new,some (aGx e te A l.toNat))]):=by
 have key:=N1 (new:=new) m hn ht hk hte hT h0 ho hl hc h1 h2 h3 h4
 unfold aGx
 split
 ·rename_i B
  split
  ·rename_i e2 hk2 hz
   split
   ·rename_i hB
    exact aBj m hn ht hk hte hT hz hB ho hl hc h1 h2 h3 h4
   ·exact key
  ·exact key
 ·exact key
end
theorem aCU{F:Bool→Addr→Value→Prop}{ρ:Nat→Option Value}{T:Ty}{x:AVal}{v:Value}(h:V F ρ x v):V F ρ (C5 T x) v:=by
 unfold C5
 split
 ·simp only[V]at h ⊢
  exact⟨rfl,none,0,0,h.symm,⟨rfl,Nat.le_refl _⟩,fun i hi=>absurd hi (by simp)⟩
 ·simp only[V]at h ⊢
  exact⟨rfl,h.symm⟩
 ·exact h
theorem T8{T:Ty}{x:AVal}:cE (C5 T x)=cE x:=by
 unfold C5
 split <;> simp[cE]
theorem N5{F:Bool→Addr→Value→Prop}{ρ:Nat→Option Value}:∀ {Ts:List Ty} {cs:List AVal} {g:Nat→Value→Prop},VL F ρ cs g→VL F ρ (n6 Ts cs) g
 | [],cs,g,h=>by cases cs <;> exact h
 | T::Ts,[],g,h=>h
 | T::Ts,c::cs,g,h=>by
  simp only[n6,VL]at h ⊢
  obtain⟨⟨u,q1,q2⟩,q3⟩:=h
  exact⟨⟨u,q1,aCU q2⟩,N5 q3⟩
theorem sJ:∀ {Ts:List Ty} {cs:List AVal},(n6 Ts cs).length=cs.length
 | [],cs=>by cases cs <;> rfl
 | T::Ts,[]=>rfl
 | T::Ts,c::cs=>by simp[n6,sJ (Ts:=Ts) (cs:=cs)]
theorem H6:∀ {Ts:List Ty} {cs:List AVal},bR (n6 Ts cs)=bR cs
 | [],cs=>by cases cs <;> rfl
 | T::Ts,[]=>rfl
 | T::Ts,c::cs=>by simp[n6,bR,T8,H6 (Ts:=Ts) (cs:=cs)]
theorem aHj{tb:Tab}{t:TypeId}{F:Bool→Addr→Value→Prop}{ρ:Nat→Option Value}{x:AVal}{v:Value}(h:V F ρ x v):V F ρ (V9 tb t x) v:=by
 unfold V9
 split
 ·split
  ·unfold aEG
   split
   ·simp only[V]at h ⊢
    obtain⟨vs,e,hs,hl⟩:=h
    exact⟨vs,e,by rw[sJ];exact hs,N5 hl⟩
   ·exact aCU h
  ·exact h
 ·exact h
theorem aDS{tb:Tab}{t:TypeId}{x:AVal}:cE (V9 tb t x)=cE x:=by
 unfold V9
 split
 ·split
  ·unfold aEG
   split
   ·simp only[cE,H6]
   ·exact T8
  ·rfl
 ·rfl
theorem kE{tb:Tab}{F:Bool→Addr→Value→Prop}{ρ:Nat→Option Value}:∀ {bs:List Bool} {ts:List TypeId} {xs:List AVal} {vs:List Value},VVs F ρ xs vs→VVs F ρ (iP tb bs ts xs) vs
 | true::bs,t::ts,x::xs,vs,h=>by
  cases vs with
  | nil=>exact h.elim
  | cons v vs=>exact⟨aHj h.1,kE h.2⟩
 | false::bs,t::ts,x::xs,vs,h=>by
  cases vs with
  | nil=>exact h.elim
  | cons v vs=>exact⟨h.1,kE h.2⟩
 | [],ts,xs,vs,h=>by simpa only [iP]using h
 | b::bs,[],xs,vs,h=>by cases b <;> simpa only [iP]using h
 | b::bs,t::ts,[],vs,h=>by cases b <;> simpa only [iP]using h
theorem qO{tb:Tab}:∀ {bs:List Bool} {ts:List TypeId} {xs:List AVal},bR (iP tb bs ts xs)=bR xs
 | true::bs,t::ts,x::xs=>by simp only[iP,bR,aDS,qO (bs:=bs) (ts:=ts) (xs:=xs)]
 | false::bs,t::ts,x::xs=>by simp only[iP,bR,qO (bs:=bs) (ts:=ts) (xs:=xs)]
 | [],ts,xs=>by simp only[iP]
 | b::bs,[],xs=>by cases b <;> simp only[iP]
 | b::bs,t::ts,[]=>by cases b <;> simp only[iP]
def X9(h:Nat→Option Obj)(x:AVal):Option (AVal×jB) :=
 match x with
 | .agg cs=>match wP h cs with
  | some (ds,u)=>some (.agg ds,u)
  | none=>none
 | x=>fY h x
def frzL(h:Nat→Option Obj):List Bool→List AVal→Option (List AVal×jB)
 | _,[]=>some ([],[])
 | [],xs=>some (xs,[])
 | false::bs,x::xs=>match frzL h bs xs with
  | some (ys,u)=>some (x::ys,u)
  | none=>none
 | true::bs,x::xs=>match X9 h x with
  | some (y,u)=>match frzL (apply u h) bs xs with
   | some (ys,us)=>some (y::ys,u++us)
   | none=>none
  | none=>none
structure Orc where
 r:AVal
 fl:List Bool
 own:Bool
 cn:List Bool
 g:List Nat
 hout:List (Nat×Obj)
 die:Option Value
def aGv:Option Orc→Option Value
 | some q=>q.die
 | none=>none
def V4(P:Program)(f:FuncId)(args:List AVal)(hin:List (Nat×Obj))(q:Orc):Prop :=
 match q.die with
 | none=>Owns P f args hin q.r q.hout
 | some x=>Dies P f args hin x
def gOf:Option Orc→List Nat
 | some q=>q.g
 | none=>[]
def aCT:AVal→AVal
 | .lit (.func (.func f) fs cs)=>if fs.isEmpty && cs.isEmpty then .fn f []else .unk
 | x=>x
def aIf:Option Orc→List Bool
 | some q=>q.cn
 | none=>[]
def L0(P:Program)(new:Nat)(orc:Option Orc)(f:AVal)(xs:List AVal)(h:Nat→Option Obj):Option iH :=
 match f,orc with
 | .fn fid caps,some q=>match frzL h q.fl xs with
  | some (ys,u) =>
   if q.own then
    if q.g.all (fun i=>(U3 h (f::xs)).contains i)then
     match zL q.g (less q.g (apply u h)) (ys++caps),kT q.g (apply u h) 0 q.g with
     | some args,some hin=>if G6 q.g q.hout q.r then some (oH (A4 q.g new) q.r,u++K6 q.g new q.hout,V4 P fid args hin q)else none
     | _,_=>none
    else none
   else match rS (apply u h) (ys++caps)with
   | some args=>some (q.r,u,Pure P fid args q.r)
   | none=>none
  | none=>none
 | _,_=>none
def aBA(asm:Option Bool)(c:AVal)(s:Nat→AVal)(x y:Operand):Option iH :=
 match asm,c with
 | some b,.p _ .bool b'=>some (ev s (if b then x else y),[],b'=b)
 | none,.p _ .bool b'=>match b' with
  | true=>some (ev s x,[],True)
  | false=>some (ev s y,[],True)
 | _,_=>none
def aFk(fn:Fn)(first:List Operand)(caps:List AVal):Option iH :=
 match fn,first with
 | .func f,[]=>some (.fn f caps,[],True)
 | _,_=>none
def xL(tb:Tab)(new:Nat)(b:Builtin)(xs:List AVal)(ts:List TypeId)(h:Nat→Option Obj):Option iH :=
 match b,xs,ts with
 | .len,[x],[t]=>if aL4 x then E5 tb t x h else aEo tb t x h
 | .min,[x,y],_=>aE2 false x y
 | .max,[x,y],_=>aE2 true x y
 | .append,[x,y],[t,t']=>if t=t' then pG tb new t x y h else none
 | .copy,[x,y],[t,_]=>zI tb t x y h
 | _,_,_=>none
def vI(P:Program)(tb:Tab)(new:Nat)(orc:Option Orc)(c:Call)(s:Nat→AVal)(h:Nat→Option Obj):Option iH :=
 match c.callee with
 | .builtin b=>xL tb new b (c.args.toList.map (ev s)) c.argTypes.toList h
 | .value f=>L0 P new orc (aCT (ev s f)) (iP tb (aIf orc) c.argTypes.toList (c.args.toList.map (ev s))) h
 | _=>none
def iR(P:Program)(tb:Tab)(new:Nat)(asm:Option Bool)(orc:Option Orc)(op:Op)(s:Nat→AVal)(h:Nat→Option Obj):Option iH :=
 match op with
 | .move x=>some (ev s x,[],True)
 | .assign x=>some (ev s x,[],True)
 | .pick c x y=>aBA asm (ev s c) s x y
 | .alloc t=>aDP tb new t
 | .box _ x=>aGS new (ev s x)
 | .build t ps=>uJ tb t (ps.toList.map (·.1)) (ps.toList.map fun p=>ev s p.2)
 | .buildSlice t len ps=>o5 tb new t len (ps.toList.map (·.1)) (ps.toList.map fun p=>ev s p.2) h
 | .load t x=>aBt tb new t (ev s x) h
 | .store t x y=>uV tb t (ev s x) (ev s y) h
 | .binOp op t x y _=>aHl P tb op t (ev s x) (ev s y)
 | .nilCheck x=>aGY (ev s x)
 | .unOp op _ x=>aIO op (ev s x)
 | .convert st dt x=>match orc with
  | none=>aBz tb st dt (ev s x) h
  | some _=>aCo tb new st dt (ev s x)
 | .slice t x lo hi none=>uQ tb new t (ev s x) (vV s lo) (vV s hi) h
 | .slice t x lo (some hi) (some mx)=>match orc with
  | none=>D6 tb t (ev s x) (vV s lo) (ev s hi) (ev s mx) h
  | some _=>aEB tb new t (ev s x) (vV s lo) (ev s hi) (ev s mx) h
 | .fieldAddr t x f=>aDx tb t (ev s x) f
 | .indexAddr t x i=>match jV tb t (ev s x) (ev s i) h with
  | some r=>some r
  | none=>mJ tb t (ev s x) (ev s i) h
 | .index t x i=>aCp tb t (ev s x) (ev s i)
 | .extract x i=>Q7 (ev s x) i
 | .typeAssert x _ t ok=>E9 P (ev s x) t ok
 | .makeFunc fn first caps=>aFk fn first.toList (caps.toList.map (ev s))
 | .makeSlice t l c=>aEW tb new t (ev s l) (ev s c)
 | .makeMap t none=>match Q2 P tb new t with
  | some r=>some r
  | none=>H7 P tb new t
 | .lookup t x k ok=>match pJ P tb t (ev s x) (ev s k) ok h with
  | some r=>some r
  | none=>mS P tb t (gOf orc) (ev s x) (ev s k) ok h
 | .mapUpdate t x k y=>match fZ P tb t (ev s x) (ev s k) (ev s y) h with
  | some r=>some r
  | none=>fF P tb t (ev s x) (ev s k) (ev s y) h
 | .insert t x k y=>match fZ P tb t (ev s x) (ev s k) (ev s y) h with
  | some r=>some r
  | none=>fF P tb t (ev s x) (ev s k) (ev s y) h
 | .call c=>vI P tb new orc c s h
 | _=>none
section
variable{P:Program}{tb:Tab}{Bw:Nat→Prop}{w0:Base P}{ρ:Nat→Option Value}{φ:Nat→Nat→Prop}{h:Nat→Option Obj}{w:World}{new:Nat}{n:NS}{s:Nat→AVal}{a:Act}
theorem cJ(htb:TabOK P tb){t e:TypeId}{te:TI}{A:Ty}(h:iT tb t=some (e,te,A)):∃ti,TIok P t ti∧tb.find t=some ti∧ti.k = .sl e∧TIok P e te∧te.T=some A∧0<A.size:=by
 unfold iT at h
 split at h
 ·rename_i ti h1
  split at h
  ·rename_i e' h2
   split at h
   ·rename_i te' h3
    split at h
    ·rename_i A' h4
     split at h
     ·rename_i h5
      cases h
      exact⟨ti,htb.find h1,h1,h2,htb.find h3,h4,h5⟩
     ·cases h
    ·cases h
   ·cases h
  ·cases h
 ·cases h
theorem rC(htb:TabOK P tb){t:TypeId}{K A:Ty}{c:Prop}(h:aHN P tb t=some (K,A,c))(hc:c):∃ti kt et te,TIok P t ti∧ti.k = .mp kt et∧KeyOk P kt K∧TIok P et te∧te.T=some A:=by
 unfold aHN at h
 split at h
 ·rename_i ti h1
  split at h
  ·rename_i kt et h2
   split at h
   ·rename_i ki te h3 h4
    split at h
    ·rename_i K' c' A' h5 h6
     cases h
     refine⟨ti,kt,et,te,htb.find h1,h2,?_,htb.find h4,h6⟩
     unfold aH8 at h5
     split at h5
     ·rename_i K2 h7
      cases h5
      exact KeyOk.of_kk (htb.find h3) h7
     ·split at h5
      ·split at h5
       ·cases h5
        exact hc
       ·cases h5
      ·cases h5
    ·cases h
   ·cases h
  ·cases h
 ·cases h
theorem rE(htb:TabOK P tb){t:TypeId}{K:Ty}{c:Prop}(h:aGM P tb t=some (K,c))(hc:c):∃ti kt et te,TIok P t ti∧ti.k = .mp kt et∧KeyOk P kt K∧TIok P et te:=by
 unfold aGM at h
 split at h
 ·rename_i ti h1
  split at h
  ·rename_i kt et h2
   split at h
   ·rename_i ki te h3 h4
    split at h
    ·refine⟨ti,kt,et,te,htb.find h1,h2,?_,htb.find h4⟩
     unfold aH8 at h
     split at h
     ·rename_i K2 h7
      cases h
      exact KeyOk.of_kk (htb.find h3) h7
     ·split at h
      ·split at h
       ·cases h
        exact hc
       ·cases h
      ·cases h
    ·cases h
   ·cases h
  ·cases h
 ·cases h
theorem F5{F:Bool→Addr→Value→Prop}{ρ:Nat→Option Value}{x:AVal}{v u:Value}(h:aGR x=some v)(hv:V F ρ x u):u=v:=by
 unfold aGR at h
 split at h
 ·cases h
  simpa only [V]using hv
 ·cases h
  simp only[V]at hv
  obtain⟨vs,e,hs,_⟩:=hv
  have:vs = #[]:=Array.eq_empty_of_size_eq_zero (by simpa using hs)
  subst this
  exact e
 ·cases h
theorem Q4{F:Bool→Addr→Value→Prop}{ρ:Nat→Option Value}{x:AVal}{u:Value}(hv:V F ρ x u):V F ρ (aCT x) u:=by
 unfold aCT
 split
 ·rename_i f fs cs
  split
  ·rename_i hc
   simp only[Bool.and_eq_true,Array.isEmpty_iff]at hc
   obtain⟨rfl,rfl⟩:=hc
   simp only[V]at hv ⊢
   exact⟨#[],hv,rfl,by simp only[VL]⟩
  ·trivial
 ·exact hv
theorem aCQ{x:AVal}:∀i∈cE (aCT x),i∈cE x:=by
 unfold aCT
 split
 ·split
  ·intro i hi
   simp[cE,bR]at hi
  ·intro i hi
   simp[cE]at hi
 ·exact fun i hi=>hi
theorem hU{F:Bool→Addr→Value→Prop}{ρ:Nat→Option Value}{K:Ty}{x:AVal}{k:K.den}{v:Value}(h:B8 K x=some k)(hK:K.isKey=true)(hv:V F ρ x v):v=aY K k:=by
 unfold B8 at h
 split at h
 ·rename_i β K2 i
  split at h
  ·rename_i q
   subst q
   split at h
   ·rename_i hs
    cases h
    exact zF hK hs hv
   ·cases h
  ·cases h
 ·rename_i cs
  split at h
  ·rename_i hs
   split at h
   ·rename_i k' r hu
    cases h
    simp only[V]at hv
    obtain⟨vs,rfl,hsz,hvl⟩:=hv
    obtain⟨h1,h2,h3⟩:=dD hu hvl
    rw[kN hK hs.1]
    congr 1
    refine Array.ext_getElem? fun i=> ?_
    rw[List.getElem?_toArray,←Array.getElem?_toList]
    rcases Nat.lt_or_ge i K.size with hi | hi
    ·have:=lK (l:=vs.toList) (o:=0) hK (Vcells.mono (fun _ _ h=>h) (fun j u hj=>by rw[Nat.zero_add,Array.getElem?_toList];exact hj) h1) i hi
     rw[Nat.zero_add]at this
     exact this
    ·rw[List.getElem?_eq_none (by rw[Array.length_toList,hsz,hs.2];exact hi)]
     rw[List.getElem?_eq_none (by rw[dH hK];exact hi)]
   ·cases h
  ·cases h
 ·rename_i k0 n0 xs
  split at h
  ·rename_i q
   subst q
   cases h
   simp only[V]at hv
   obtain⟨vs,rfl,hl,-⟩:=hv
   rw[kN hK rfl]
   cases vs with
   | nil=>simp[cY]
   | cons _ _=>simp at hl
  ·cases h
 ·cases h
theorem xH{F:Bool→Addr→Value→Prop}(hs:Slots n F ρ s a){lo:Option Operand}{l:Option Int}(h:vV s lo=some l):F3 F ρ a lo l:=by
 unfold vV at h
 cases lo with
 | none=>cases h;trivial
 | some x =>
  simp only at h
  split at h
  ·rename_i β k m e
   cases h
   have:=bF hs x
   rw[e]at this
   exact⟨_,_,this⟩
  ·cases h
theorem oR{F:Bool→Addr→Value→Prop}{x:AVal}{n:Int}(h:aAL x=some n){v:Value}(hv:V F ρ x v):∃β k,V F ρ (.p β (.int k) n) v:=by
 unfold aAL at h
 split at h
 ·cases h;exact⟨_,_,hv⟩
 ·cases h
theorem aEO(m:Mem Bw w0 ρ φ h w){x y:AVal}{u:jB}(hd:X9 h x=some (y,u)):
  Mem Bw w0 ρ φ (apply u h) w∧(∀β a v,Fr (own φ h) Bw w β a v→Fr (own φ (apply u h)) Bw w β a v)∧∀v,V (Fr (own φ h) Bw w) ρ x v→V (Fr (own φ (apply u h)) Bw w) ρ y v:=by
 unfold X9 at hd
 split at hd
 ·split at hd
  ·rename_i ds u' h1
   cases hd
   obtain⟨q1,q2,q3,q4⟩:=uK m h1
   refine⟨q1,q2,fun v hv=> ?_⟩
   simp only[V]at hv ⊢
   obtain⟨vs,e,hs,hl⟩:=hv
   exact⟨vs,e,by rw[q3];exact hs,q4 _ hl⟩
  ·cases hd
 ·exact iJ m hd
theorem rJ:∀ {bs:List Bool} {xs ys:List AVal} {h:Nat→Option Obj} {u:jB},Mem Bw w0 ρ φ h w→frzL h bs xs=some (ys,u) →
  Mem Bw w0 ρ φ (apply u h) w∧(∀β a v,Fr (own φ h) Bw w β a v→Fr (own φ (apply u h)) Bw w β a v)∧∀vs,VVs (Fr (own φ h) Bw w) ρ xs vs→VVs (Fr (own φ (apply u h)) Bw w) ρ ys vs
 | _,[],ys,h,u,m,hd=>by
  simp only[frzL]at hd
  cases hd
  exact⟨m,fun _ _ _ h=>h,fun _ h=>h⟩
 | [],x::xs,ys,h,u,m,hd=>by
  simp only[frzL]at hd
  cases hd
  exact⟨m,fun _ _ _ h=>h,fun _ h=>h⟩
 | false::bs,x::xs,ys,h,u,m,hd=>by
  simp only[frzL]at hd
  split at hd
  ·rename_i ys' u' h1
   cases hd
   obtain⟨q1,q2,q3⟩:=rJ m h1
   refine⟨q1,q2,fun vs hv=> ?_⟩
   cases vs with
   | nil=>exact hv.elim
   | cons v vs=>exact⟨V.mono q2 (fun _ _ h=>h) hv.1,q3 vs hv.2⟩
  ·cases hd
 | true::bs,x::xs,ys,h,u,m,hd=>by
  simp only[frzL]at hd
  split at hd
  ·rename_i y u1 h1
   split at hd
   ·rename_i ys' us h2
    cases hd
    obtain⟨q1,q2,q3⟩:=aEO m h1
    obtain⟨r1,r2,r3⟩:=rJ q1 h2
    rw[iE]
    refine⟨r1,fun β a v hh=>r2 _ _ _ (q2 _ _ _ hh),fun vs hv=> ?_⟩
    cases vs with
    | nil=>exact hv.elim
    | cons v vs=>exact⟨V.mono r2 (fun _ _ h=>h) (q3 v hv.1),r3 vs (VVs.mono q2 (fun _ _ h=>h) hv.2)⟩
   ·cases hd
  ·cases hd
theorem P0{us:jB}{i:Nat}(hu:us.all (fun p=>p.1 != i)=true):∀ {h:Nat→Option Obj},apply us h i=h i:=by
 induction us with
 | nil=>intro h;rfl
 | cons p us ih =>
  intro h
  obtain⟨j,o⟩:=p
  simp only[List.all_cons,Bool.and_eq_true,bne_iff_ne,ne_eq]at hu
  simp only[apply]
  rw[ih hu.2,aP _ _ (Ne.symm hu.1)]
theorem mB{F:Bool→Addr→Value→Prop}{x:AVal}{b:Bool}(h:aBc x=some b){u:Value}(hu:V F ρ x u):∃q,u = .pointer q∧q.isNone=b:=by
 cases x <;> simp only[aBc]at h <;> first | (cases h;done) | skip
 ·cases h
  simp only[V]at hu
  exact⟨none,hu,rfl⟩
 ·cases h
  simp only[V]at hu
  obtain⟨g,_,e⟩:=hu
  exact⟨_,e,rfl⟩
 ·cases h
  simp only[V]at hu
  obtain⟨ad,e,_⟩:=hu
  exact⟨_,e,rfl⟩
theorem aBg(d:Nat){t e:TypeId}(h:P.underlying t=some (.pointer e))(q:Option Addr):(Op.equalIn (d+1) t (.pointer none) (.pointer q)).run P w = .ok q.isNone w:=by
 simp[Op.equalIn,run_underlying h]
theorem aAf(d:Nat){t e:TypeId}(h:P.underlying t=some (.pointer e))(a:Addr):(Op.equalIn (d+1) t (.pointer (some a)) (.pointer none)).run P w = .ok false w:=by
 simp[Op.equalIn,run_underlying h]
theorem aBY(d:Nat){t:TypeId}{ms:Array (String×TypeId)}(h:P.underlying t=some (.interface ms))(a:TypeId)(v:Value):(Op.equalIn (d+1) t (.iface a v) .nilIface).run P w = .ok false w:=by
 simp[Op.equalIn,run_underlying h]
theorem L5{F:Bool→Addr→Value→Prop}{op:BinOp}{b:Bool}{r:AVal}(h:eqR op b=some r){t:TypeId}{u v:Value}{xo yo:Operand}(hg:(eqGuard op t xo yo u v).run P w = .ok () w)
  (he:(Op.equal t u v).run P w = .ok b w) (hne:binOp .eql t u v=(do pure (.bool (←Op.equal t u v)))∧binOp .neq t u v=(do pure (.bool (!(←Op.equal t u v))))) :
  ∃z,(do eqGuard op t xo yo u v;binOp op t u v:Sem Value).run P w = .ok z w∧V F ρ r z:=by
 unfold eqR at h
 split at h <;> cases h
 ·exact⟨_,by rw[Sem.run_bind,hg,Result.andThen_ok,hne.1,Sem.run_bind,he];rfl,j7 _ _⟩
 ·exact⟨_,by rw[Sem.run_bind,hg,Result.andThen_ok,hne.2,Sem.run_bind,he];rfl,j7 _ _⟩
theorem aDy{F:Bool→Addr→Value→Prop}{ti:TI}{op:BinOp}{t:TypeId}{x y r:AVal}{us:jB}{c:Prop}(h:aHy P ti op t x y=some (r,us,c))(hc:c){u v:Value}(hu:V F ρ x u)(hv:V F ρ y v)(xo yo:Operand):
  us=[]∧∃z,(do eqGuard op t xo yo u v;binOp op t u v:Sem Value).run P w = .ok z w∧V F ρ r z:=by
 have ptr:∀ {b:Bool} {q q':Option Addr},u = .pointer q→v = .pointer q'→(∃e,P.underlying t=some (.pointer e))→(q.isNone=true∧q'.isNone=b∨q.isNone=false∧q'.isNone=true∧b=false)→eqR op b=some r →
   ∃z,(do eqGuard op t xo yo u v;binOp op t u v:Sem Value).run P w = .ok z w∧V F ρ r z:=fun {b q q'} e1 e2 hE hq hr=>by
  subst e1 e2
  obtain⟨e,hE⟩:=hE
  refine L5 hr (b9 (by intro cs e;cases e) (by intro e;cases e)) ?_ ⟨by cases q <;> cases q' <;> rfl,by cases q <;> cases q' <;> rfl⟩
  unfold Op.equal Op.maxDepth
  cases q with
  | none =>
   rcases hq with⟨_,q2⟩ | ⟨q1,_⟩
   ·subst q2
    exact aBg 9999 hE q'
   ·cases q1
  | some a =>
   rcases hq with⟨q1,_⟩ | ⟨_,q2,q3⟩
   ·cases q1
   ·cases q' with
    | none=>subst q3;exact aAf 9999 hE a
    | some _=>cases q2
 unfold aHy at h
 split at h
 ·rename_i cs ds
  split at h
  ·rename_i T hT
   split at h
   ·rename_i a b ha hb
    split at h
    ·rename_i r' hr
     cases h
     refine⟨rfl,?_⟩
     simp only[V]at hu hv
     obtain⟨xs,rfl,sx,lx⟩:=hu
     obtain⟨ys,rfl,sy,ly⟩:=hv
     obtain⟨a1,a2,a3⟩:=dD ha lx
     obtain⟨b1,b2,b3⟩:=dD hb ly
     have hl:∀l:List AVal,([]:List AVal)=l.drop T.size→T.size≤l.length→l.length=T.size:=fun l h1 h2=>by
      have:=congrArg List.length h1
      simp only[List.length_nil,List.length_drop]at this
      omega
     have hE:=hc.2 w
     have hsc:T.scalar=false:=hc.1.2
     refine L5 hr (run_eqGuard_agg w op t xo yo xs ys hc.1.1) ?_ ⟨rfl,rfl⟩
     refine hE.2.2 (F false) a b _ _ ?_ ?_
     ·unfold rY;rw[hsc];simp only[Bool.false_eq_true,if_false];exact⟨xs,rfl,by rw[sx,hl cs a2 a3],a1⟩
     ·unfold rY;rw[hsc];simp only[Bool.false_eq_true,if_false];exact⟨ys,rfl,by rw[sy,hl ds b2 b3],b1⟩
    ·cases h
   ·cases h
  ·cases h
 ·rename_i A q
  split at h
  ·rename_i r' hr
   cases h
   simp only[V]at hu hv
   cases q with
   | none =>
    have e:u = .pointer none:=hu.2.symm
    exact⟨rfl,ptr e hv hc (.inl ⟨rfl,rfl⟩) hr⟩
   | some y =>
    obtain⟨_,b,e,_⟩:=hu
    exact⟨rfl,ptr e.symm hv hc (.inr ⟨rfl,rfl,rfl⟩) hr⟩
  ·cases h
 ·split at h
  ·rename_i b h1 h2
   split at h
   ·rename_i r' hr
    cases h
    obtain⟨q,e1,e2⟩:=mB h1 hu
    obtain⟨q',e3,e4⟩:=mB h2 hv
    exact⟨rfl,ptr e1 e3 hc (.inl ⟨e2,e4⟩) hr⟩
   ·cases h
  ·rename_i h1 h2
   split at h
   ·rename_i r' hr
    cases h
    obtain⟨q,e1,e2⟩:=mB h1 hu
    obtain⟨q',e3,e4⟩:=mB h2 hv
    exact⟨rfl,ptr e1 e3 hc (.inr ⟨e2,e4,rfl⟩) hr⟩
   ·cases h
  ·split at h
   ·split at h
    ·rename_i r' hr
     cases h
     simp only[V]at hu hv
     subst hu hv
     obtain⟨ms,hms⟩:=hc
     refine⟨rfl,L5 hr (b9 (by intro cs e;cases e) (by intro e;cases e)) ?_ ⟨rfl,rfl⟩⟩
     unfold Op.equal Op.maxDepth
     exact aBY 9999 hms _ _
    ·cases h
   ·cases h
theorem aDf(m:Mem Bw w0 ρ φ h w){o:Oper}{xo:Operand}{xt at':TypeId}{ok:Bool}(ho:o.op = .typeAssert xo xt at' ok){x:AVal}(hx:V (Fr (own φ h) Bw w) ρ x (a.eval xo)){y:AVal}{u:jB}{c:Prop}
  (hd:E9 P x at' ok=some (y,u,c)) (hc:c):Good P o a w (Post Bw w0 ρ φ h w new y u):=by
 unfold E9 at hd
 split at hd
 ·rename_i t v
  split at hd
  ·rename_i q
   obtain⟨rfl,rfl⟩:=q
   cases hd
   obtain⟨d,hd,hi⟩:=hc
   simp only[V]at hx
   refine Good.of_run (v:= .tuple #[v,.bool true]) (w':=w) ?_ (Post.pure m ?_)
   ·simp only[execOp,ho,hx]
    simp only[Instr.typeAssert,Sem.run_bind,run_underlying hd,Result.andThen_ok]
    cases d <;> first | (simp at hi;done) | (simp;done)
   ·simp only[V,VL]
    exact⟨_,rfl,rfl,⟨v,by simp,aDq v⟩,⟨.bool true,by simp,by simp only[V,Vcells];exact⟨rfl,trivial⟩⟩,trivial⟩
  ·cases hd
 ·cases hd
theorem aFt(htb:TabOK P tb)(m:Mem Bw w0 ρ φ h w)(hs:Slots n (Fr (own φ h) Bw w) ρ s a)(hn8:∀j,j<8→ρ (new+j)=none){o:Oper}{asm:Option Bool}{orc:Option Orc}(hdie:aGv orc=none){x:AVal}{u:jB}{c:Prop}
  (hd:iR P tb new asm orc o.op s h=some (x,u,c)) (hc:c):Good P o a w (Post Bw w0 ρ φ h w new x u):=by
 have hn:ρ new=none:=hn8 0 (by omega)
 unfold iR at hd
 split at hd
 ·rename_i x' ho;cases hd;exact aA3 m (bF hs _) (.inl ho)
 ·rename_i x' ho;cases hd;exact aA3 m (bF hs _) (.inr ho)
 ·rename_i co xo yo ho
  unfold aBA at hd
  split at hd
  ·rename_i b β b' e
   cases hd
   subst hc
   have:=bF hs co
   rw[e]at this
   exact C6 m this (bF hs _) ho
  ·rename_i β b' e
   have:=bF hs co
   rw[e]at this
   split at hd
   ·cases hd
    exact C6 (b:=true) m this (bF hs _) ho
   ·cases hd
    exact C6 (b:=false) m this (bF hs _) ho
  ·cases hd
 ·rename_i t ho
  unfold aDP at hd
  split at hd
  ·rename_i ti ht
   cases hd
   exact aEy m hn (htb.find ht) ho
  ·cases hd
 ·rename_i t xo ho
  unfold aGS at hd
  split at hd
  ·rename_i hcell
   cases hd
   exact aHw m hn (bF hs xo) hcell ho _
  ·cases hd
 ·rename_i t ps ho
  unfold uJ at hd
  split at hd
  ·rename_i ti ht
   split at hd
   ·rename_i fs hk
    split at hd
    ·rename_i ds hds
     cases hd
     have:=kK hs (ps.toList.map (·.2))
     simp only[List.map_map]at this
     exact R8 m htb (htb.find ht) hk ho this hds
    ·cases hd
   ·rename_i n e hk
    split at hd
    ·rename_i te hte
     split at hd
     ·rename_i ds hds
      cases hd
      have:=kK hs (ps.toList.map (·.2))
      simp only[List.map_map]at this
      exact I7 m htb (htb.find ht) hk (htb.find hte) ho this hds
     ·cases hd
    ·cases hd
   ·cases hd
  ·cases hd
 ·rename_i t len ps ho
  unfold o5 at hd
  split at hd
  ·rename_i e te A het
   obtain⟨ti,h1,_,h2,h3,h4,h5⟩:=cJ htb het
   split at hd
   ·rename_i hcond
    split at hd
    ·rename_i ys us hys
     cases hd
     have:=kK hs (ps.toList.map (·.2))
     simp only[List.map_map]at this
     exact J6 m hn h1 h2 h3 h4 h5 ho hcond.1 this (fun x hx=>aEK ((List.all_eq_true.1 hcond.2.1) x hx)) hys hcond.2.2
    ·cases hd
   ·cases hd
  ·cases hd
 ·rename_i t xo ho
  unfold aBt at hd
  split at hd
  ·rename_i ti ht
   split at hd
   ·rename_i cs off c' hcs
    split at hd
    ·rename_i y hy
     cases hd
     exact aGf m (htb.find ht) (bF hs xo) ho hcs hc hy
    ·cases hd
   ·split at hd
    ·rename_i r0 hd0
     cases hd
     exact aHs m (htb.find ht) (bF hs xo) ho hd0
    ·exact aF4 m hn (htb.find ht) (bF hs xo) ho hd hc
  ·cases hd
 ·rename_i t xo yo ho
  unfold uV at hd
  split at hd
  ·rename_i ti ht
   split at hd
   ·rename_i hcond
    split at hd
    ·rename_i id i sz off ex
     have hx:=bF hs xo
     rw[ex]at hx
     split at hd
     ·rename_i cs hi
      split at hd
      ·rename_i hfit
       cases hd
       exact M3 m (htb.find ht) hx (bF hs yo) hcond.1 ho hi hcond.2 hfit
      ·cases hd
     ·rename_i e A xs hi
      split at hd
      ·rename_i hsz
       split at hd
       ·rename_i z us hz
        split at hd
        ·rename_i hus
         cases hd
         rw[hsz.1]at hx
         exact N7 m (htb.find ht) hx (bF hs yo) hcond.1 ho hz hi (by rw[P0 hus];exact hi) hcond.2 hsz.2 hc
        ·cases hd
       ·cases hd
      ·cases hd
     ·rename_i e e2 A xss hole hi
      split at hd
      ·rename_i hsz
       obtain⟨rfl,rfl⟩:=hsz
       exact aHd m (htb.find ht) hx (bF hs yo) hcond.2 ho hi hd hc
      ·cases hd
     ·rename_i e xs hi
      split at hd
      ·rename_i hsz
       obtain⟨rfl,rfl,hs1⟩:=hsz
       split at hd
       ·rename_i β v ey
        have hy:=bF hs yo
        rw[ey]at hy
        cases hd
        exact B3 m (htb.find ht) hs1 hx hy ho hi hc
       ·cases hd
      ·cases hd
     ·cases hd
    ·exact aHh m (htb.find ht) (bF hs xo) (bF hs yo) ho hd
   ·cases hd
  ·cases hd
 ·rename_i op t xo yo t' ho
  unfold aHl at hd
  split at hd
  ·rename_i ti ht
   split at hd
   ·rename_i r c' hr
    cases hd
    obtain⟨z,h1,h2⟩:=aFU (P:=P) (w:=w) (htb.find ht) hr hc (bF hs xo) (bF hs yo) xo yo
    exact Good.of_run (v:=z) (w':=w) (by simp only[execOp,ho];rw[Sem.run_bind,h1];rfl) (Post.pure m h2)
   ·obtain⟨hu,z,h1,h2⟩:=aDy (P:=P) (w:=w) hd hc (bF hs xo) (bF hs yo) xo yo
    subst hu
    exact Good.of_run (v:=z) (w':=w) (by simp only[execOp,ho];rw[Sem.run_bind,h1];rfl) (Post.pure m h2)
  ·cases hd
 ·rename_i xo ho
  have hx:=bF hs xo
  unfold aGY at hd
  split at hd
  ·rename_i id i sz off ex
   cases hd
   rw[ex]at hx
   obtain⟨g,h1,h2⟩:∃g,_∧a.eval xo = .pointer (some ⟨g,i*sz+off,none⟩):=by simpa only [V]using hx
   exact Good.of_run (v:=a.eval xo) (w':=w) (by simp only[execOp,ho,h2];rfl) (Post.pure m hx)
  ·rename_i β cs off ex
   cases hd
   rw[ex]at hx
   obtain⟨ad,h1,h2⟩:∃ad:Addr,a.eval xo = .pointer (some (ad.add off))∧_:=by simpa only [V]using hx
   exact Good.of_run (v:=a.eval xo) (w':=w) (by simp only[execOp,ho,h1];rfl) (Post.pure m hx)
  ·rename_i β A q ex
   cases hd
   rw[ex]at hx
   cases q with
   | none=>cases hc
   | some y =>
    obtain⟨_,b,e,hv⟩:_∧∃b:Addr,Value.pointer (some b)=a.eval xo∧Vcells (Fr (own φ h) Bw w β) A y (fun k v=>Fr (own φ h) Bw w β (b.add k) v):=by simpa only [V,Vcells]using hx
    refine Good.of_run (v:=a.eval xo) (w':=w) (by simp only[execOp,ho,←e];rfl) (Post.pure m ?_)
    simp only[V,Option.getD_some]
    exact⟨b,by rw[←e];unfold Addr.add;simp,kQ β A y _ hv⟩
  ·cases hd
 ·rename_i op t xo ho
  unfold aIO at hd
  split at hd
  ·rename_i r hr
   cases hd
   obtain⟨z,h1,h2⟩:=aDb (P:=P) (w:=w) hr (bF hs xo)
   exact Good.of_run (v:=z) (w':=w) (by simp only[execOp,ho];rw[Sem.run_bind,h1];rfl) (Post.pure m h2)
  ·cases hd
 ·rename_i st dt xo ho
  split at hd
  ·unfold aBz at hd
   split at hd
   ·rename_i si hsi
    split at hd
    ·rename_i di hdi
     split at hd
     ·rename_i r hr
      cases hd
      obtain⟨dd,hd1,hd2⟩:=(htb.find hdi).hu
      unfold aHg at hr
      split at hr
      ·rename_i β l ex
       have hx:=bF hs xo
       rw[ex]at hx
       split at hr
       ·rename_i e hk
        split at hr
        ·rename_i hu8
         cases hr
         rw[hk]at hd2
         simp only[UK]at hd2
         subst hd2
         simp only[aFH]at hu8
         split at hu8
         ·rename_i te hte
          obtain⟨d,q1,q2⟩:=(htb.find hte).hu
          split at hu8
          ·rename_i hk2
           rw[hk2]at q2
           simp only[UK]at q2
           exact aEH m (htb.find hsi) hd1 (by rw[q1,q2]) ho hx
          ·cases hu8
         ·cases hu8
        ·cases hr
       ·cases hr
      ·rename_i β k n ex
       have hx:=bF hs xo
       rw[ex]at hx
       split at hr
       ·rename_i hk
        cases hr
        rw[hk]at hd2
        simp only[UK]at hd2
        subst hd2
        exact aFW m (htb.find hsi) hd1 ho hx
       ·cases hr
      ·cases hr
     split at hd
     ·rename_i hu8
      split at hd
      ·rename_i r hr
       cases hd
       obtain⟨z,h1,h2⟩:=aEa (P:=P) m (htb.find hsi) (htb.find hdi) (fun e he=>by
        rw[he]at hu8
        simp only[aFH]at hu8
        split at hu8
        ·rename_i te hte
         obtain⟨d,q1,q2⟩:=(htb.find hte).hu
         split at hu8
         ·rename_i hk
          rw[hk]at q2
          simp only[UK]at q2
          rw[q1,q2]
         ·cases hu8
        ·cases hu8) hr (bF hs xo)
       exact Good.of_run (v:=z) (w':=w) (by simp only[execOp,ho];rw[Sem.run_bind,h1];rfl) (Post.pure m h2)
      ·cases hd
     ·cases hd
    ·cases hd
   ·cases hd
  ·unfold aCo at hd
   split at hd
   ·rename_i si hsi
    split at hd
    ·rename_i di hdi
     obtain⟨dd,hd1,hd2⟩:=(htb.find hdi).hu
     split at hd
     ·rename_i β l ex
      have hx:=bF hs xo
      rw[ex]at hx
      split at hd
      ·rename_i e hk
       split at hd
       ·rename_i hu8
        cases hd
        rw[hk]at hd2
        simp only[UK]at hd2
        subst hd2
        simp only[aFH]at hu8
        split at hu8
        ·rename_i te hte
         obtain⟨d,q1,q2⟩:=(htb.find hte).hu
         split at hu8
         ·rename_i hk2
          rw[hk2]at q2
          simp only[UK]at q2
          exact aCM m hn (htb.find hsi) hd1 (by rw[q1,q2]) ho hx
         ·cases hu8
        ·cases hu8
       ·cases hd
      ·cases hd
     ·cases hd
    ·cases hd
   ·cases hd
 ·rename_i t xo lo hi ho
  unfold uQ at hd
  split at hd
  ·rename_i ti ht
   split at hd
   ·rename_i l r hl hr
    have hl':=xH hs hl
    have hr':=xH hs hr
    have hx:=bF hs xo
    split at hd
    ·rename_i β str ex
     rw[ex]at hx
     split at hd
     ·rename_i hk
      cases hd
      exact U5 m (htb.find ht) hk ho hx hl' hr' hc.1 hc.2.1 hc.2.2
     ·cases hd
    ·rename_i β A xs ex
     rw[ex]at hx
     split at hd
     ·rename_i _ _ B het
      obtain⟨ti',h1,h1',h2,h3,h4,h5⟩:=cJ htb het
      split at hd
      ·rename_i hAB
       subst hAB
       cases hd
       exact rT m h1 h2 h3 h4 ho hx hl' hr' hc.1 hc.2.1 hc.2.2
      ·cases hd
     ·cases hd
    ·rename_i id ex
     rw[ex]at hx
     split at hd
     ·rename_i e A xs hid
      split at hd
      ·rename_i _ _ _ het
       obtain⟨ti',h1,h1',h2,h3,h4,h5⟩:=cJ htb het
       split at hd
       ·rename_i k
        cases hd
        cases lo with
        | some _=>exact hl'.elim
        | none =>
         cases hi with
         | none=>exact hr'.elim
         | some hio =>
          obtain⟨β,kk,hv⟩:=hr'
          exact V8 m hn h1 h2 h3 (A:=A) ho hid hx hv hc.1 hc.2
       ·cases hd
      ·cases hd
     ·rename_i A xs hid
      split at hd
      ·rename_i _ _ B het
       obtain⟨ti',h1,h1',h2,h3,h4,h5⟩:=cJ htb het
       split at hd
       ·rename_i hAB
        subst hAB
        cases hd
        obtain⟨u,q1,q2⟩:=m.ob id _ hid
        simp only[V]at hx
        rw[hx.1]at q1
        cases q1
        exact rT m h1 h2 h3 h4 ho q2 hl' hr' hc.1 hc.2.1 hc.2.2
       ·cases hd
      ·cases hd
     ·cases hd
    ·rename_i ex
     rw[ex]at hx
     split at hd
     ·rename_i _ _ A het
      obtain⟨ti',h1,h1',h2,h3,h4,h5⟩:=cJ htb het
      cases hd
      exact P3 m h1 h2 h3 ho hx hl' hr' hc.1 hc.2.1 hc.2.2
     ·cases hd
    ·cases hd
   ·cases hd
  ·cases hd
 ·rename_i t xo lo hi mx ho
  split at hd
  ·unfold D6 at hd
   split at hd
   ·rename_i _ _ B l r q het hl hr hq
    obtain⟨ti',h1,h1',h2,h3,h4,h5⟩:=cJ htb het
    have hl':=xH hs hl
    obtain⟨β1,k1,hr'⟩:=oR hr (bF hs hi)
    obtain⟨β2,k2,hq'⟩:=oR hq (bF hs mx)
    have hx:=bF hs xo
    split at hd
    ·rename_i β A xs ex
     rw[ex]at hx
     split at hd
     ·rename_i hAB
      subst hAB
      cases hd
      exact G2 m h1 h2 h3 h4 ho hx hl' hr' hq' hc.1 hc.2.1 hc.2.2.1 hc.2.2.2
     ·cases hd
    ·rename_i id ex
     rw[ex]at hx
     split at hd
     ·rename_i A xs hid
      split at hd
      ·rename_i hAB
       subst hAB
       cases hd
       obtain⟨u,q1,q2⟩:=m.ob id _ hid
       simp only[V]at hx
       rw[hx.1]at q1
       cases q1
       exact G2 m h1 h2 h3 h4 ho q2 hl' hr' hq' hc.1 hc.2.1 hc.2.2.1 hc.2.2.2
      ·cases hd
     ·cases hd
    ·cases hd
   ·cases hd
  ·unfold aEB at hd
   split at hd
   ·rename_i _ _ B r q het hl hr hq
    obtain⟨ti',h1,h1',h2,h3,h4,h5⟩:=cJ htb het
    obtain⟨β1,k1,hr'⟩:=oR hr (bF hs hi)
    obtain⟨β2,k2,hq'⟩:=oR hq (bF hs mx)
    have hx:=bF hs xo
    have hlo:lo=none:=by
     cases lo with
     | none=>rfl
     | some y =>
      simp only[vV]at hl
      split at hl <;> cases hl
    subst hlo
    split at hd
    ·rename_i A xs u' ed
     split at hd
     ·rename_i hAB
      subst hAB
      cases hd
      obtain⟨c1,rfl,c3⟩:=hc
      obtain⟨m',hF,hv⟩:=iJ m ed
      have:=aBw (new:=new) m' hn h1 h2 h3 h4 ho (hv _ hx) (V.mono hF (fun _ _ h=>h) hr') (V.mono hF (fun _ _ h=>h) hq') c1 c3
      exact fun K Q hk'=>this K Q fun v w' hp=>hk' v w' (Post.after rfl hF hp)
     ·cases hd
    ·cases hd
   ·cases hd
 ·rename_i t xo f ho
  unfold aDx at hd
  split at hd
  ·rename_i ti ht
   split at hd
   ·rename_i fs hk
    split at hd
    ·rename_i off ft hf
     split at hd
     ·rename_i id i sz k ex
      cases hd
      exact sO m (htb.find ht) (bF hs xo) ho hk hf (.inl ⟨_,_,_,_,ex,rfl⟩)
     ·rename_i β cs k ex
      cases hd
      exact sO m (htb.find ht) (bF hs xo) ho hk hf (.inr ⟨_,_,_,ex,rfl⟩)
     ·cases hd
    ·cases hd
   ·cases hd
  ·cases hd
 ·rename_i t xo io ho
  split at hd
  case h_2=>exact aGd m htb (bF hs xo) (bF hs io) ho hd hc
  rename_i r0 hd0
  cases hd
  revert hd0
  intro hd
  unfold jV at hd
  split at hd
  ·rename_i e te A het
   obtain⟨ti',h1,h1',h2,h3,h4,h5⟩:=cJ htb het
   split at hd
   ·rename_i β k i ei
    split at hd
    ·rename_i y sz c' hy
     split at hd
     ·rename_i hsz
      subst hsz
      cases hd
      have hi:=bF hs io
      rw[ei]at hi
      exact P6 m h1 h2 h3 (bF hs xo) hi ho hy hc
     ·cases hd
    ·cases hd
   ·cases hd
  ·cases hd
 ·rename_i t xo io ho
  unfold aCp at hd
  split at hd
  ·rename_i ti ht
   split at hd
   ·rename_i hk
    split at hd
    ·rename_i β str β' k i ex ei
     cases hd
     have hx:=bF hs xo
     have hi:=bF hs io
     rw[ex]at hx
     rw[ei]at hi
     exact M1 m (htb.find ht) hk hx hi ho hc.1 hc.2
    ·cases hd
   ·rename_i n e hk
    split at hd
    ·rename_i te hte
     split at hd
     ·rename_i k hek
      split at hd
      ·rename_i cs β k' j ex ei
       split at hd
       ·rename_i hn
        split at hd
        ·rename_i l hl
         cases hd
         have hx:=bF hs xo
         have hi:=bF hs io
         rw[ex]at hx
         rw[ei]at hi
         exact aAq m (htb.find ht) hk (htb.find hte) hek hx hl hn hi ho hc
        ·cases hd
       ·cases hd
      ·cases hd
     ·cases hd
    ·cases hd
   ·cases hd
  ·cases hd
 ·rename_i xo i ho
  unfold Q7 at hd
  split at hd
  ·rename_i cs ex
   split at hd
   ·rename_i y hy
    cases hd
    have hx:=bF hs xo
    rw[ex]at hx
    exact aBh m hx ho hy
   ·cases hd
  ·cases hd
 ·rename_i xo xt t ok ho
  exact aDf m ho (bF hs xo) hd hc
 ·rename_i fn first caps ho
  unfold aFk at hd
  split at hd
  ·rename_i f e
   cases hd
   have e':first = #[]:=Array.ext' e
   subst e'
   exact Z0 m ho (kK hs _)
  ·cases hd
 ·rename_i t lo co ho
  unfold aEW at hd
  split at hd
  ·rename_i e te A het
   obtain⟨ti',h1,h1',h2,h3,h4,h5⟩:=cJ htb het
   split at hd
   ·rename_i β k l β' k' c' el ec
    cases hd
    have hl:=bF hs lo
    have hcc:=bF hs co
    rw[el]at hl
    rw[ec]at hcc
    exact aFI m hn h1 h2 h3 h4 h5 ho hl hcc hc.1 hc.2.1 hc.2.2.1 hc.2.2.2
   ·cases hd
  ·cases hd
 ·rename_i t ho
  split at hd
  ·rename_i r hs0
   cases hd
   have hd:=hs0
   unfold Q2 at hd
   split at hd
   ·rename_i K A c' hm
    cases hd
    obtain⟨ti,kt,et,te,h1,h2,h3,h5,h6⟩:=rC htb hm hc
    exact aBr m hn h3.isKey ho
   ·cases hd
  ·unfold H7 at hd
   split at hd
   ·rename_i K c' hm
    cases hd
    obtain⟨ti,kt,et,te,h1,h2,h3,h5⟩:=rE htb hm hc
    exact aAa m hn h3.isKey ho
   ·cases hd
 ·rename_i t xo ko ok ho
  split at hd
  ·rename_i r hs0
   cases hd
   have hd:=hs0
   unfold pJ at hd
   split at hd
   ·rename_i K A c' hm
    split at hd
    ·rename_i id ex
     split at hd
     ·rename_i K1 A1 kv hi
      split at hd
      ·rename_i i hk1
       split at hd
       ·rename_i q
        obtain⟨rfl,rfl⟩:=q
        cases hd
        obtain⟨ti,kt,et,te,h1,h2,h3,h5,h6⟩:=rC htb hm hc
        have hx:=bF hs xo
        have hk:=bF hs ko
        rw[ex]at hx
        exact aDh m h1 h2 h3 h5 h6 ho hi hx (hU hk1 h3.isKey hk)
       ·cases hd
      ·cases hd
     ·cases hd
    ·cases hd
   ·cases hd
  ·unfold mS at hd
   split at hd
   ·rename_i K c' hm
    split at hd
    ·rename_i id ex
     split at hd
     ·rename_i K1 kv hi
      split at hd
      ·rename_i i j hk1 _
       split at hd
       ·rename_i q
        obtain⟨rfl,rfl⟩:=q
        cases hd
        obtain⟨ti,kt,et,te,h1,h2,h3,h5⟩:=rE htb hm hc.1
        have hx:=bF hs xo
        have hk:=bF hs ko
        rw[ex]at hx
        rw[←V0 hc.2]
        exact aBf m h1 h2 h3 h5 ho hi hx (hU hk1 h3.isKey hk)
       ·cases hd
      ·cases hd
     ·cases hd
    ·cases hd
   ·cases hd
 ·rename_i t xo ko yo ho
  split at hd
  ·rename_i r hs0
   cases hd
   have hd:=hs0
   unfold fZ at hd
   split at hd
   ·rename_i K A c' hm
    split at hd
    ·rename_i id ex
     split at hd
     ·rename_i K1 A1 kv hi
      split at hd
      ·rename_i i hk1
       split at hd
       ·rename_i q
        obtain⟨rfl,rfl,hc1,hc2⟩:=q
        split at hd
        ·rename_i z us hz
         split at hd
         ·rename_i hus
          cases hd
          obtain⟨ti,kt,et,te,h1,h2,h3,h5,h6⟩:=rC htb hm hc
          have hx:=bF hs xo
          have hk:=bF hs ko
          rw[ex]at hx
          exact uR m h1 h2 h3 (.inl ho) hi (by rw[P0 hus];exact hi) hx (hU hk1 h3.isKey hk) (bF hs yo) hc1 hc2 hz
         ·cases hd
        ·cases hd
       ·cases hd
      ·cases hd
     ·cases hd
    ·cases hd
   ·cases hd
  ·unfold fF at hd
   split at hd
   ·rename_i K c' hm
    split at hd
    ·rename_i id ex
     split at hd
     ·rename_i K1 kv hi
      split at hd
      ·rename_i i v hk1 hv1
       split at hd
       ·rename_i q
        obtain⟨rfl,q2⟩:=q
        cases hd
        obtain⟨ti,kt,et,te,h1,h2,h3,h5⟩:=rE htb hm hc
        have hx:=bF hs xo
        have hk:=bF hs ko
        rw[ex]at hx
        refine rW m h1 h2 h3 (.inl ho) hi hx (hU hk1 h3.isKey hk) (F5 hv1 (bF hs yo)) (fun p hp e=> ?_)
        have:=List.all_eq_true.1 q2 p hp
        rw[(fP h3.isKey).2 e]at this
        cases this
       ·cases hd
      ·cases hd
     ·cases hd
    ·cases hd
   ·cases hd
 ·rename_i t xo ko yo ho
  split at hd
  ·rename_i r hs0
   cases hd
   have hd:=hs0
   unfold fZ at hd
   split at hd
   ·rename_i K A c' hm
    split at hd
    ·rename_i id ex
     split at hd
     ·rename_i K1 A1 kv hi
      split at hd
      ·rename_i i hk1
       split at hd
       ·rename_i q
        obtain⟨rfl,rfl,hc1,hc2⟩:=q
        split at hd
        ·rename_i z us hz
         split at hd
         ·rename_i hus
          cases hd
          obtain⟨ti,kt,et,te,h1,h2,h3,h5,h6⟩:=rC htb hm hc
          have hx:=bF hs xo
          have hk:=bF hs ko
          rw[ex]at hx
          exact uR m h1 h2 h3 (.inr ho) hi (by rw[P0 hus];exact hi) hx (hU hk1 h3.isKey hk) (bF hs yo) hc1 hc2 hz
         ·cases hd
        ·cases hd
       ·cases hd
      ·cases hd
     ·cases hd
    ·cases hd
   ·cases hd
  ·unfold fF at hd
   split at hd
   ·rename_i K c' hm
    split at hd
    ·rename_i id ex
     split at hd
     ·rename_i K1 kv hi
      split at hd
      ·rename_i i v hk1 hv1
       split at hd
       ·rename_i q
        obtain⟨rfl,q2⟩:=q
        cases hd
        obtain⟨ti,kt,et,te,h1,h2,h3,h5⟩:=rE htb hm hc
        have hx:=bF hs xo
        have hk:=bF hs ko
        rw[ex]at hx
        refine rW m h1 h2 h3 (.inr ho) hi hx (hU hk1 h3.isKey hk) (F5 hv1 (bF hs yo)) (fun p hp e=> ?_)
        have:=List.all_eq_true.1 q2 p hp
        rw[(fP h3.isKey).2 e]at this
        cases this
       ·cases hd
      ·cases hd
     ·cases hd
    ·cases hd
   ·cases hd
 ·rename_i c ho
  obtain⟨callee,args,tys⟩:=c
  unfold vI at hd
  simp only at hd
  split at hd
  ·rename_i b
   unfold xL at hd
   split at hd
   ·rename_i x0 t ex et
    obtain⟨xo,eargs,rfl⟩:∃xo,args = #[xo]∧ev s xo=x0:=by
     match hargs:args.toList,ex with
     | [xo],ex=>exact⟨xo,Array.ext' hargs,by simpa using ex⟩
    have etys:tys = #[t]:=Array.ext' et
    subst eargs etys
    split at hd
    ·unfold E5 at hd
     split at hd
     ·rename_i ti ht
      split at hd
      ·rename_i kt et id hk ex
       split at hd
       ·rename_i K A kv hi
        cases hd
        have hx:=bF hs xo
        rw[ex]at hx
        exact aBP m (htb.find ht) hk hi hx ho
       ·cases hd
      ·cases hd
     ·cases hd
    unfold aEo at hd
    split at hd
    ·rename_i ti ht
     split at hd
     ·rename_i k hk
      split at hd
      ·rename_i e he
       split at hd
       ·cases hd
       ·rename_i hstr
        cases hd
        refine aCZ m (htb.find ht) (.inl ⟨e,he⟩) (bF hs xo) ho hk ⟨fun h=>(by rw[he]at h;cases h),fun⟨β,str,ex⟩=> ?_⟩
        rw[ex]at hstr
        exact absurd rfl hstr
      ·rename_i he
       split at hd
       ·rename_i hstr
        cases hd
        refine aCZ m (htb.find ht) (.inr he) (bF hs xo) ho hk ⟨fun _=> ?_,fun _=>he⟩
        unfold aHF at hstr
        split at hstr
        ·rename_i β str ex;exact⟨β,str,ex⟩
        ·cases hstr
       ·cases hd
      ·cases hd
     ·cases hd
    ·cases hd
   ·rename_i x0 y0 ex
    obtain⟨xo,yo,eargs,rfl,rfl⟩:∃xo yo,args = #[xo,yo]∧ev s xo=x0∧ev s yo=y0:=by
     match hargs:args.toList,ex with
     | [xo,yo],ex=>exact⟨xo,yo,Array.ext' hargs,by simp at ex;exact ex.1,by simp at ex;exact ex.2⟩
    subst eargs
    unfold aE2 at hd
    split at hd
    ·rename_i β k i β' k' j ex ey
     split at hd
     ·rename_i hkk
      subst hkk
      cases hd
      have hx:=bF hs xo
      have hy:=bF hs yo
      rw[ex]at hx
      rw[ey]at hy
      exact aG0 m hx hy ho
     ·cases hd
    ·cases hd
   ·rename_i x0 y0 ex
    obtain⟨xo,yo,eargs,rfl,rfl⟩:∃xo yo,args = #[xo,yo]∧ev s xo=x0∧ev s yo=y0:=by
     match hargs:args.toList,ex with
     | [xo,yo],ex=>exact⟨xo,yo,Array.ext' hargs,by simp at ex;exact ex.1,by simp at ex;exact ex.2⟩
    subst eargs
    unfold aE2 at hd
    split at hd
    ·rename_i β k i β' k' j ex ey
     split at hd
     ·rename_i hkk
      subst hkk
      cases hd
      have hx:=bF hs xo
      have hy:=bF hs yo
      rw[ex]at hx
      rw[ey]at hy
      exact aGX m hx hy ho
     ·cases hd
    ·cases hd
   ·rename_i x0 y0 t t' ex et
    obtain⟨xo,yo,eargs,rfl,rfl⟩:∃xo yo,args = #[xo,yo]∧ev s xo=x0∧ev s yo=y0:=by
     match hargs:args.toList,ex with
     | [xo,yo],ex=>exact⟨xo,yo,Array.ext' hargs,by simp at ex;exact ex.1,by simp at ex;exact ex.2⟩
    have etys:tys = #[t,t']:=Array.ext' et
    subst eargs etys
    split at hd
    ·rename_i htt
     subst htt
     unfold pG at hd
     split at hd
     ·rename_i e te A het
      obtain⟨ti',h1,h1',h2,h3,h4,h5⟩:=cJ htb het
      split at hd
      ·rename_i ys hys
       split at hd
       ·rename_i ex
        cases hd
        exact H8 m hn h1 h2 h3 h4 h5 (bF hs xo) (bF hs yo) ho (xs:=[]) (.inl ⟨ex,rfl,rfl,rfl⟩) hys hc.1 hc.2
       ·rename_i id ex
        split at hd
        ·rename_i e' B xs hid
         split at hd
         ·rename_i hBA
          subst hBA
          split at hd
          ·rename_i hee
           subst hee
           simp only[Option.some.injEq,Prod.mk.injEq]at hd
           obtain⟨rfl,rfl,rfl⟩:=hd
           exact H8 m hn h1 h2 h3 h4 h5 (bF hs xo) (bF hs yo) ho (xs:=xs) (.inr ⟨id,ex,hid,rfl,rfl⟩) hys hc.1 hc.2
          ·cases hd
         ·cases hd
        ·rename_i B xs hid
         split at hd
         ·rename_i hBA
          subst hBA
          simp only[Option.some.injEq,Prod.mk.injEq]at hd
          obtain⟨rfl,rfl,rfl⟩:=hd
          have hx:=bF hs xo
          rw[ex]at hx
          exact N9 m hn h1 h2 h3 h4 h5 hx (bF hs yo) ho hid hys hc.1 hc.2.1 hc.2.2
         ·cases hd
        ·cases hd
       ·cases hd
      ·cases hd
     ·cases hd
    ·cases hd
   ·rename_i x0 y0 t t' ex et
    obtain⟨xo,yo,eargs,rfl,rfl⟩:∃xo yo,args = #[xo,yo]∧ev s xo=x0∧ev s yo=y0:=by
     match hargs:args.toList,ex with
     | [xo,yo],ex=>exact⟨xo,yo,Array.ext' hargs,by simp at ex;exact ex.1,by simp at ex;exact ex.2⟩
    have etys:tys = #[t,t']:=Array.ext' et
    subst eargs etys
    unfold zI at hd
    split at hd
    ·rename_i e te A het
     obtain⟨ti',h1,h1',h2,h3,h4,h5⟩:=cJ htb het
     split at hd
     ·rename_i ys hys
      split at hd
      ·rename_i id ex
       split at hd
       ·rename_i e' B xs hid
        split at hd
        ·rename_i hBA
         subst hBA
         simp only[Option.some.injEq,Prod.mk.injEq]at hd
         obtain⟨rfl,rfl,rfl⟩:=hd
         have hx:=bF hs xo
         rw[ex]at hx
         exact aFN m h1 h2 h3 h4 hx (bF hs yo) ho hid hys
        ·cases hd
       ·cases hd
      ·cases hd
     ·cases hd
    ·cases hd
   ·cases hd
  ·rename_i fo
   unfold L0 at hd
   split at hd
   ·rename_i fid caps q ef
    split at hd
    ·rename_i ys u' hfz
     have hf:=Q4 (bF hs fo)
     rw[ef]at hf
     obtain⟨q1,q2,q3⟩:=rJ m hfz
     split at hd
     ·split at hd
      ·split at hd
       ·rename_i args' hin hl hi
        split at hd
        ·rename_i hok
         cases hd
         have hc:Owns P fid args' hin q.r q.hout:=by
          unfold V4 at hc
          rw[show q.die=none from hdie]at hc
          exact hc
         have hg:=aGH (new:=new) q1 hn8 ho (V.mono q2 (fun _ _ h=>h) hf) (q3 _ (kE (kK hs args.toList))) hl hi hok hc
         refine fun K Q hk=>hg K Q fun v w' hp=>hk v w' ?_
         exact Post.after (h:=h) (u1:=u') rfl q2 hp
        ·cases hd
       ·cases hd
      ·cases hd
     ·split at hd
      ·rename_i args' hl
       cases hd
       have hg:=aFQ (new:=new) q1 ho (V.mono q2 (fun _ _ h=>h) hf) (q3 _ (kE (kK hs args.toList))) hl hc
       refine fun K Q hk=>hg K Q fun v w' hp=>hk v w' ?_
       have:=Post.after (h:=h) (u1:=u) rfl q2 hp
       simpa using this
      ·cases hd
    ·cases hd
   ·cases hd
  ·cases hd
 ·cases hd
def aIV:AVal→Bool
 | .unk=>true
 | _=>false
def aCG(op:Op)(orc:Option Orc):Option Value :=
 match op,orc with
 | .call c,some q=>match c.callee with
  | .value _=>if q.own && aIV q.r && q.hout.isEmpty then q.die else none
  | _=>none
 | _,_=>none
theorem aGV(m:Mem Bw w0 ρ φ h w)(hs:Slots n (Fr (own φ h) Bw w) ρ s a)(hn8:∀j,j<8→ρ (new+j)=none){o:Oper}{asm:Option Bool}{orc:Option Orc}{y:Value}(hdy:aCG o.op orc=some y){x:AVal}{u:jB}{c:Prop}
  (hd:iR P tb new asm orc o.op s h=some (x,u,c)) (hc:c):Bad P o a w y (fun w'=>∃v,Post Bw w0 ρ φ h w new .unk u v w'):=by
 unfold aCG at hdy
 split at hdy
 ·rename_i c0 q ho
  split at hdy
  ·rename_i fo hfo
   split at hdy
   ·rename_i hcond
    simp only[Bool.and_eq_true,List.isEmpty_iff]at hcond
    obtain⟨⟨hown,hunk⟩,hout⟩:=hcond
    obtain⟨callee,args,tys⟩:=c0
    simp only at hfo
    subst hfo
    have hr:q.r = .unk:=by
     unfold aIV at hunk
     split at hunk
     ·assumption
     ·cases hunk
    rw[ho]at hd
    simp only[iR,vI]at hd
    unfold L0 at hd
    split at hd
    ·rename_i fid caps q' ef eq
     cases eq
     split at hd
     ·rename_i ys u' hfz
      have hf:=Q4 (bF hs fo)
      rw[ef]at hf
      obtain⟨q1,q2,q3⟩:=rJ m hfz
      rw[if_pos hown]at hd
      split at hd
      ·split at hd
       ·rename_i args' hin hl hi
        split at hd
        ·rename_i hok
         cases hd
         rw[hr,hout]at hok
         have hc:Dies P fid args' hin y:=by
          unfold V4 at hc
          rw[hdy]at hc
          exact hc
         have hg:=aIg (new:=new) q1 hn8 ho (V.mono q2 (fun _ _ h=>h) hf) (q3 _ (kE (kK hs args.toList))) hl hi hok hc
         refine fun K Q hk=>hg K Q fun w' ⟨v,hp⟩=>hk w' ⟨v,?_⟩
         rw[hout]
         exact Post.after (h:=h) (u1:=u') rfl q2 hp
        ·cases hd
       ·cases hd
      ·cases hd
     ·cases hd
    ·cases hd
   ·cases hdy
  ·cases hdy
 ·cases hdy
end
end Go.Tv
