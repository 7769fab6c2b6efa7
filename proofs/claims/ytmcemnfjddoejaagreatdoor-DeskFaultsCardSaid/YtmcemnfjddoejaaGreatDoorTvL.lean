import Derived.Test.YtmcemnfjddoejaaGreatDoorTvKhm
namespace Go.Tv
open Go Go.RowKit
def qA(s:Nat→ag):Option Operand→Option (Option Int)
 | none=>some none
 | some x=>match ev s x with
  | .p _ (.int _) n=>some (some n)
  | _=>none
def ib(tb:bP)(t:TypeId):Option (TypeId×TI×Ty) :=
 match tb.find t with
 | some ti=>match ti.k with
  | .sl e=>match tb.find e with
   | some c=>match c.T with
    | some A=>if 0<A.size then some (e,c,A)else none
    | none=>none
   | none=>none
  | _=>none
 | none=>none
def CF(tb:bP)(new:Nat)(t:TypeId):Qk :=
 match tb.find t with
 | some ti=>some (.adr new 0 ti.size 0,[(new,some (.box ti.z))],True)
 | none=>none
def IJ(new:Nat)(x:ag):Qk :=
 if(cellsOf x).all ag.cell then some (.adr new 0 (cellsOf x).length 0,[(new,some (.box (cellsOf x)))],True)else none
def pG(tb:bP)(t:TypeId)(f:QV)(xs:List ag):Qk :=
 match tb.find t with
 | some ti=>match ti.k with
  | .st j=>match parts tb j (f.zip xs) ti.z with
   | some c=>some (.agg c,[],True)
   | none=>none
  | .ar n e=>match tb.find e with
   | some p=>match parts tb ((List.range n).map fun i=>(i*p.size,e)) (f.zip xs) ti.z with
    | some c=>some (.agg c,[],True)
    | none=>none
   | none=>none
  | _=>none
 | none=>none
def mS(tb:bP)(new:Nat)(t:TypeId)(len:Nat)(c:QV)(xs:List ag)(h:Nat→Qz):Qk :=
 match ib tb t with
 | some (e,j,A) =>
  if c=List.range len∧xs.all ag.E9=true∧len*j.size≤16777216 then
   match BP A h xs with
   | some (p,q)=>some (.sl new,q++[(new,some (.arr e A p))],True)
   | none=>none
  else none
 | none=>none
def nm(ti:TI)(x:ag)(h:Nat→Qz):Qk :=
 match x,ti.k with
 | .ada id b n i,.int k=>match h id with
  | some (.box c)=>if b+n≤c.length then(match tC k ((c.drop b).take n)with
   | some l=>some (.p false (.int k) (l.getD i 0),[],True)
   | none=>none)else none
  | _=>none
 | _,_=>none
def kV(ti:TI)(x y:ag)(h:Nat→Qz):Qk :=
 match x,y with
 | .ada id b n i,.p _ (.int k) v=>match h id with
  | some (.box c)=>if b+n≤c.length∧ti.size=1 then(match tC k ((c.drop b).take n)with
   | some l=>some (.unk,[(id,some (.box (c.take b++wM k i v 0 l++c.drop (b+n))))],True)
   | none=>none)else none
  | _=>none
 | _,_=>none
def kX(tb:bP)(t:TypeId)(x i:ag)(h:Nat→Qz):Qk :=
 match tb.find t with
 | some ti=>match ti.k with
  | .ar n e=>match tb.find e with
   | some c=>if c.size=1 then(match x,i with
    | .adr id j sz off,.p _ (.int _) m=>match h id with
     | some (.box _)=>some (.ada id (j*sz+off) n (show Int from m).toNat,[],0≤(show Int from m)∧(show Int from m)<(n:Int))
     | _=>none
    | .ada id b N p,.p _ (.int _) m=>some (.ada id b N (p+(show Int from m).toNat),[],(0≤(show Int from m)∧(show Int from m)<(n:Int))∧p+(show Int from m).toNat<N)
    | _,_=>none)else if 0<c.size then(match x,i with
    | .adr id j sz off,.p _ (.int _) m=>match h id with
     | some (.box _)=>some (.ada id (j*sz+off) (n*c.size) ((show Int from m).toNat*c.size),[],0≤(show Int from m)∧(show Int from m)<(n:Int))
     | _=>none
    | _,_=>none)else none
   | none=>none
  | _=>none
 | none=>none
def mE(new:Nat)(ti:TI)(x:ag)(h:Nat→Qz):Qk :=
 match x with
 | .adr id i sz off=>if sz=1∧off=0∧ti.k.agg=false then
   match h id with
   | some (.mat e p A c none)=>some (.sl new,[(id,some (.mat e p A c (some (i,new)))),(new,some (.arr p A (c.getD i [])))],i<c.length)
   | some (.mat e p A c (some (k,j)))=>match h j with
    | some (.arr v B u)=>if q:B=A then(if v=p then
      some (.sl new,[(j,none),(id,some (.mat e p A (c.set k (q ▸ u:List A.den)) none))]++[(id,some (.mat e p A (c.set k (q ▸ u:List A.den)) (some (i,new)))),(new,some (.arr p A ((c.set k (q ▸ u:List A.den)).getD i [])))],i<c.length)else none)else none
    | _=>none
   | _=>none
  else none
 | _=>none
def AQ(tb:bP)(new:Nat)(t:TypeId)(x:ag)(h:Nat→Qz):Qk :=
 match tb.find t with
 | some ti=>match kN h x with
  | some (e,off,c)=>match eR ti e off with
   | some y=>some (y,[],c)
   | none=>none
  | none=>match nm ti x h with
   | some r=>some r
   | none=>mE new ti x h
 | none=>none
def uH(id i:Nat)(e f:TypeId)(A:Ty)(c:List (List A.den))(hole:Option (Nat×Nat))(y:ag)(h:Nat→Qz):Qk :=
 match y with
 | .sl r=>match h r with
  | some (.arr u B _)=>if B=A∧u=f then
    match hole with
    | none=>some (.unk,[(id,some (.mat e f A c (some (i,r))))],i<c.length)
    | some (k,j)=>match h j with
     | none=>some (.unk,[(id,some (.mat e f A c (some (i,r))))],k=i∧i<c.length)
     | some (.arr v C p)=>if q:C=A then(if v=f∧j≠r then
       some (.unk,[(j,none),(id,some (.mat e f A (c.set k (q ▸ p:List A.den)) none))]++[(id,some (.mat e f A (c.set k (q ▸ p:List A.den)) (some (i,r))))],i<c.length)else none)else none
     | _=>none
   else none
  | _=>none
 | _=>none
def pt(tb:bP)(t:TypeId)(x y:ag)(h:Nat→Qz):Qk :=
 match tb.find t with
 | some ti =>
  if(cellsOf y).all ag.cell=true∧(cellsOf y).length=ti.size then
   match x with
   | .adr id i sz off=>match h id with
    | some (.box c)=>if i*sz+off+ti.size≤c.length then some (.unk,[(id,some (.box (wr c (i*sz+off) (cellsOf y))))],True)else none
    | some (.arr e A xs) =>
     if sz=A.size∧off+ti.size≤A.size then
      match CW A h xs i off y with
      | some (z,f)=>if f.all (fun p=>p.1 != id)then some (.unk,f++[(id,some (.arr e A (xs.set i z)))],i<xs.length)else none
      | none=>none
     else none
    | some (.mat e e2 A xss hole)=>if sz=1∧off=0 then uH id i e e2 A xss hole y h else none
    | some (.bytes e xs)=>if sz=1∧off=0∧ti.size=1 then(match y with
     | .p _ (.int .u8) v=>some (.unk,[(id,some (.bytes e (xs.set i v)))],i<xs.length)
     | _=>none)else none
    | _=>none
   | _=>kV ti x y h
  else none
 | none=>none
def IE(x:ag):Qk :=
 match x with
 | .adr id i sz off=>some (.adr id i sz off,[],True)
 | .fad β c off=>some (.fad β c off,[],True)
 | .p β (.ptr A) q=>some (.fad β (flat β A (q.getD A.zero)) 0,[],q.isSome=true)
 | _=>none
def AY:ag→Option Bool
 | .nilp=>some true
 | .adr _ _ _ _=>some false
 | .fad _ _ _=>some false
 | _=>none
def HI(op:BinOp)(b:Bool):Option ag :=
 match op with
 | .eql=>some (.p false .bool b)
 | .neq=>some (.p false .bool (!b))
 | _=>none
def Jc(P:Program)(ti:TI)(op:BinOp)(t:TypeId)(x y:ag):Qk :=
 match x,y with
 | .agg c,.agg f=>match ti.T with
  | some T=>match ix T c,ix T f with
   | some (a,[]),some (b,[])=>match HI op (Ii T a b)with
    | some r=>some (r,[],JY P t T)
    | none=>none
   | _,_=>none
  | none=>none
 | .p _ (.ptr _) q,.nilp=>match HI op q.isNone with
  | some r=>some (r,[],∃e,P.underlying t=some (.pointer e))
  | none=>none
 | x,y=>match AY x,AY y with
  | some true,some b=>match HI op b with
   | some r=>some (r,[],∃e,P.underlying t=some (.pointer e))
   | none=>none
  | some false,some true=>match HI op false with
   | some r=>some (r,[],∃e,P.underlying t=some (.pointer e))
   | none=>none
  | _,_=>match x,y with
   | .lit (.iface _ _),.lit .nilIface=>match HI op false with
    | some r=>some (r,[],∃j,P.underlying t=some (.interface j))
    | none=>none
   | _,_=>none
def uj(P:Program)(x:ag)(c:TypeId)(ok:Bool):Qk :=
 match x with
 | .lit (.iface t v)=>if t=c∧ok=true then some (.tup [AP v,.p false .bool true],[],∃d,P.underlying c=some d∧(match d with | .interface _=>false | _=>true)=true)else none
 | _=>none
def IL(P:Program)(tb:bP)(op:BinOp)(t:TypeId)(x y:ag):Qk :=
 match tb.find t with
 | some ti=>match bin ti.k op x y with
  | some (r,c)=>some (r,[],c)
  | none=>Jc P ti op t x y
 | none=>none
def KW(op:UnOp)(x:ag):Qk :=
 match un op x with
 | some r=>some (r,[],True)
 | none=>none
def GA(tb:bP)(k:TK):Bool :=
 match k with
 | .sl e=>match tb.find e with
  | some c=>match c.k with
   | .int .u8=>true
   | _=>false
  | none=>false
 | _=>true
def I2(tb:bP)(c:TK)(x:ag):Option ag :=
 match x with
 | .p _ .str l=>match c with
  | .sl e=>if GA tb (.sl e)then some (.p false (.slice (.int .u8)) (cR l))else none
  | _=>none
 | .p _ (.int _) n=>match c with
  | .str=>some (.p false .str (IH n))
  | _=>none
 | _=>none
def Ap(tb:bP)(st j:TypeId)(x:ag)(h:Nat→Qz):Qk :=
 match tb.find st with
 | some c=>match tb.find j with
  | some e=>match I2 tb e.k x with
   | some r=>some (r,[],True)
   | none=>if GA tb c.k then(match conv c.k e.k h x with
    | some r=>some (r,[],True)
    | none=>none)else none
  | none=>none
 | none=>none
def BL(tb:bP)(new:Nat)(st c:TypeId)(x:ag):Qk :=
 match tb.find st with
 | some _=>match tb.find c with
  | some f=>match x with
   | .p _ .str l=>match f.k with
    | .sl e=>if GA tb (.sl e)then some (.sl new,[(new,some (.bytes e (cR l)))],True)else none
    | _=>none
   | _=>none
  | none=>none
 | none=>none
def pH(tb:bP)(new:Nat)(t:TypeId)(x:ag)(c hi:Option (Option Int))(h:Nat→Qz):Qk :=
 match tb.find t with
 | some ti=>match c,hi with
  | some l,some r=>match x with
   | .p _ .str s=>match ti.k with
    | .str=>some (.p false .str ((s.take (r.getD s.length).toNat).drop (l.getD 0).toNat),[],0≤l.getD 0∧l.getD 0≤r.getD s.length∧r.getD s.length≤s.length)
    | _=>none
   | .p β (.slice A) xs=>match ib tb t with
    | some (_,_,B)=>if A=B then some (.p β (.slice A) ((xs.take (r.getD xs.length).toNat).drop (l.getD 0).toNat),[],0≤l.getD 0∧l.getD 0≤r.getD xs.length∧r.getD xs.length≤xs.length)else none
    | none=>none
   | .sl id=>match h id with
    | some (.arr e A xs)=>match ib tb t with
     | some (_,_,_)=>match l,r with
      | none,some k=>some (.sl new,[(id,none),(new,some (.arr e A (xs.take k.toNat)))],0≤k∧k≤xs.length)
      | _,_=>none
     | none=>none
    | some (.fz A xs)=>match ib tb t with
     | some (_,_,B)=>if A=B then some (.p false (.slice A) ((xs.take (r.getD xs.length).toNat).drop (l.getD 0).toNat),[],0≤l.getD 0∧l.getD 0≤r.getD xs.length∧r.getD xs.length≤xs.length)else none
     | none=>none
    | _=>none
   | .nils=>match ib tb t with
    | some (_,_,_)=>some (.nils,[],0≤l.getD 0∧l.getD 0≤r.getD 0∧r.getD 0≤0)
    | none=>none
   | _=>none
  | _,_=>none
 | none=>none
def intOf:ag→Option Int
 | .p _ (.int _) n=>some n
 | _=>none
def uP(tb:bP)(t:TypeId)(x:ag)(c:Option (Option Int))(hi mx:ag)(h:Nat→Qz):Qk :=
 match ib tb t,c,intOf hi,intOf mx with
 | some (_,_,B),some l,some r,some q=>match x with
  | .p β (.slice A) xs=>if A=B then some (.p β (.slice A) ((xs.take r.toNat).drop (l.getD 0).toNat),[],0≤l.getD 0∧l.getD 0≤r∧r≤q∧q≤xs.length)else none
  | .sl id=>match h id with
   | some (.fz A xs)=>if A=B then some (.p false (.slice A) ((xs.take r.toNat).drop (l.getD 0).toNat),[],0≤l.getD 0∧l.getD 0≤r∧r≤q∧q≤xs.length)else none
   | _=>none
  | _=>none
 | _,_,_,_=>none
def Ez(tb:bP)(new:Nat)(t:TypeId)(x:ag)(c:Option (Option Int))(hi mx:ag)(h:Nat→Qz):Qk :=
 match ib tb t,c,intOf hi,intOf mx with
 | some (_,_,B),some none,some r,some q=>match gf h x with
  | some (.p false (.slice A) xs,u)=>if A=B then some (.sl new,u++[(new,some (.cutz A (xs.take r.toNat)))],0≤r∧r=q∧r≤xs.length)else none
  | _=>none
 | _,_,_,_=>none
def Dk(tb:bP)(t:TypeId)(x:ag)(f:Nat):Qk :=
 match tb.find t with
 | some ti=>match ti.k with
  | .st c=>match c[f]? with
   | some (off,_)=>match x with
    | .adr id i sz k=>some (.adr id i sz (k+off),[],True)
    | .fad β e k=>some (.fad β e (k+off),[],True)
    | _=>none
   | none=>none
  | _=>none
 | none=>none
def iT(tb:bP)(t:TypeId)(x i:ag)(h:Nat→Qz):Qk :=
 match ib tb t with
 | some (_,e,_)=>match i with
  | .p _ (.int _) n=>match zG h x n with
   | some (y,sz,c)=>if sz=e.size then some (y,[],c)else none
   | none=>none
  | _=>none
 | none=>none
def CY(tb:bP)(t:TypeId)(x i:ag):Qk :=
 match tb.find t with
 | some ti=>match ti.k with
  | .str=>match x,i with
   | .p _ .str s,.p _ (.int _) n=>some (.p false (.int .u8) ((s.getD n.toNat 0).toNat:Int),[],0≤n∧n<s.length)
   | _,_=>none
  | .ar n e=>match tb.find e with
   | some f=>match f.k with
    | .int k=>match x,i with
     | .agg c,.p _ (.int _) m=>if c.length=n then(match tC k c with
      | some l=>some (.p false (.int k) (l.getD (show Int from m).toNat 0),[],0≤(show Int from m)∧(show Int from m)<(n:Int))
      | none=>none)else none
     | _,_=>none
    | _=>none
   | none=>none
  | _=>none
 | none=>none
def xr(x:ag)(i:Nat):Qk :=
 match x with
 | .tup c=>match c[i]? with
  | some y=>some (y,[],True)
  | none=>none
 | _=>none
def IV(e:TypeId)(c:TI)(A:Ty)(n:Nat):Obj :=
 match A with
 | .slice B=>match c.k,c.z with
  | .sl f,[.nils]=>if 0<B.size then .mat e f B (List.replicate n []) none else .arr e (.slice B) (List.replicate n [])
  | _,_=> .arr e (.slice B) (List.replicate n [])
 | A=> .arr e A (List.replicate n A.zero)
def FN(tb:bP)(new:Nat)(t:TypeId)(l c:ag):Qk :=
 match ib tb t with
 | some (e,f,A)=>match l,c with
  | .p _ (.int _) n,.p _ (.int _) k=>some (.sl new,[(new,some (IV e f A n.toNat))],0≤n∧n≤k∧(f.bytes:Int)*k≤281474976710656∧k≤9223372036854775807)
  | _,_=>none
 | none=>none
def isStr:ag→Bool
 | .p _ .str _=>true
 | _=>false
def EC(tb:bP)(t:TypeId)(x:ag)(h:Nat→Qz):Qk :=
 match tb.find t with
 | some ti=>match lenOf h x with
  | some n=>match ti.k with
   | .sl _=>if isStr x then none else some (.p false (.int .i64) n,[],True)
   | .str=>if isStr x then some (.p false (.int .i64) n,[],True)else none
   | _=>none
  | none=>none
 | none=>none
def nH(tb:bP)(new:Nat)(t:TypeId)(x y:ag)(h:Nat→Qz):Qk :=
 match ib tb t with
 | some (e,f,A)=>match eT h A y with
  | some c=>match x with
   | .nils=>some (.sl new,[(new,some (.arr e A c))],(([]:List A.den).length+c.length)*f.bytes≤140737488355328∧([]:List A.den).length+c.length≤9223372036854775807)
   | .sl id=>match h id with
    | some (.arr j B xs)=>if q:B=A then(if j=e then some (.sl new,[(id,none),(new,some (.arr e A ((q ▸ xs:List A.den)++c)))],((q ▸ xs:List A.den).length+c.length)*f.bytes≤140737488355328∧(q ▸ xs:List A.den).length+c.length≤9223372036854775807)else none)else none
    | some (.cutz B xs)=>if q:B=A then some (.sl new,[(new,some (.arr e A ((q ▸ xs:List A.den)++c)))],0<c.length∧((q ▸ xs:List A.den).length+c.length)*f.bytes≤140737488355328∧(q ▸ xs:List A.den).length+c.length≤9223372036854775807)else none
    | _=>none
   | _=>none
  | none=>none
 | none=>none
def sL(tb:bP)(t:TypeId)(x y:ag)(h:Nat→Qz):Qk :=
 match ib tb t with
 | some (_,_,A)=>match eT h A y with
  | some c=>match x with
   | .sl id=>match h id with
    | some (.arr e B xs)=>if q:B=A then some (.p false (.int .i64) ((min c.length (q ▸ xs:List A.den).length:Nat):Int),[(id,some (.arr e A (c.take (q ▸ xs:List A.den).length++(q ▸ xs:List A.den).drop c.length)))],True)else none
    | _=>none
   | _=>none
  | none=>none
 | none=>none
def J7(P:Program)(e:TypeId)(c:TI):Option (Ty×Prop) :=
 match KJ c.k with
 | some K=>some (K,True)
 | none=>match c.T with
  | some K=>if K.scalar=false then some (K,fC P e K)else none
  | none=>none
def H6(P:Program)(tb:bP)(t:TypeId):Option (Ty×Ty×Prop) :=
 match tb.find t with
 | some ti=>match ti.k with
  | .mp e f=>match tb.find e,tb.find f with
   | some j,some p=>match J7 P e j,p.T with
    | some (K,c),some A=>some (K,A,c)
    | _,_=>none
   | _,_=>none
  | _=>none
 | none=>none
def uy(K:Ty)(x:ag):Option K.den :=
 match x with
 | .p _ e i=>if q:e=K then(if K.scalar=true then some (q ▸ i)else none)else none
 | .agg c=>if K.scalar=false∧c.length=K.size then match ix K c with
  | some (k,_)=>some k
  | none=>none
  else none
 | .lag k n f []=>if q:Ty.arr k n=K then some (q ▸ (show(Ty.arr k n).den from f))else none
 | _=>none
def yj(P:Program)(tb:bP)(new:Nat)(t:TypeId):Qk :=
 match H6 P tb t with
 | some (K,A,c)=>some (.mp new,[(new,some (.mpo K A []))],c)
 | none=>none
def mZ(P:Program)(tb:bP)(t:TypeId)(x k:ag)(ok:Bool)(h:Nat→Qz):Qk :=
 match H6 P tb t with
 | some (K,A,c)=>match x with
  | .mp id=>match h id with
   | some (.mpo e f j)=>match uy e k with
    | some i=>if e=K∧f=A then
     some (if ok then .tup [enc false f ((aU e j i).getD f.zero),.p false .bool (aU e j i).isSome]else enc false f ((aU e j i).getD f.zero),[],c)else none
    | none=>none
   | _=>none
  | _=>none
 | none=>none
def fN(P:Program)(tb:bP)(t:TypeId)(x k y:ag)(h:Nat→Qz):Qk :=
 match H6 P tb t with
 | some (K,A,c)=>match x with
  | .mp id=>match h id with
   | some (.mpo e f q)=>match uy e k with
    | some i=>if e=K∧f=A∧(cellsOf y).all ag.cell=true∧kP f y=true then
     match HA f h y with
     | some (z,j)=>if j.all (fun p=>p.1 != id)then some (.unk,j++[(id,some (.mpo e f (cj e q i z)))],c)else none
     | none=>none
     else none
    | none=>none
   | _=>none
  | _=>none
 | none=>none
def Ij(P:Program)(tb:bP)(t:TypeId):Option (Ty×Prop) :=
 match tb.find t with
 | some ti=>match ti.k with
  | .mp c e=>match tb.find c,tb.find e with
   | some f,some j=>match j.T with
    | none=>J7 P c f
    | some _=>none
   | _,_=>none
  | _=>none
 | none=>none
def Ms(tb:bP)(t:TypeId):ag :=
 match tb.find t with
 | some ti=>match ti.k with
  | .mp _ c=>match tb.find c with
   | some e=>zV e
   | none=> .unk
  | _=> .unk
 | none=> .unk
def uU(P:Program)(tb:bP)(new:Nat)(t:TypeId):Qk :=
 match Ij P tb t with
 | some (K,c)=>some (.mp new,[(new,some (.mpl K []))],c)
 | none=>none
def valOf:ag→QW
 | .lit v=>some v
 | .fn f []=>some (.func (.func f) #[] #[])
 | .agg [.fn f []]=>some (.agg #[.func (.func f) #[] #[]])
 | _=>none
def eW(P:Program)(tb:bP)(t:TypeId)(x k y:ag)(h:Nat→Qz):Qk :=
 match Ij P tb t with
 | some (K,c)=>match x with
  | .mp id=>match h id with
   | some (.mpl e f)=>match uy e k,valOf y with
    | some i,some v=>if e=K∧f.all (fun p=> !cJ e p.1 i)=true then some (.unk,[(id,some (.mpl e (f++[(i,v)])))],c)else none
    | _,_=>none
   | _=>none
  | _=>none
 | none=>none
def lW(P:Program)(tb:bP)(t:TypeId)(g:QV)(x k:ag)(ok:Bool)(h:Nat→Qz):Qk :=
 match Ij P tb t with
 | some (K,c)=>match x with
  | .mp id=>match h id with
   | some (.mpl e f)=>match uy e k,g with
    | some i,[j]=>if e=K∧ok=true then some (FI (Ms tb t) ((f[j]?).map (·.2)),[],c∧jV e f i j)else none
    | _,_=>none
   | _=>none
  | _=>none
 | none=>none
def uL(tb:bP)(t:TypeId)(x:ag)(h:Nat→Qz):Qk :=
 match tb.find t with
 | some ti=>match ti.k,x with
  | .mp _ _,.mp id=>match h id with
   | some (.mpo _ _ c)=>some (.p false (.int .i64) (c.length:Int),[],True)
   | _=>none
  | _,_=>none
 | none=>none
def FB(b:Bool)(x y:ag):Qk :=
 match x,y with
 | .p _ (.int k) i,.p _ (.int c) j=>if c=k then some (.p false (.int k) (if b then max (show Int from i) j else min (show Int from i) j),[],True)else none
 | _,_=>none
def NT:ag→Bool
 | .mp _=>true
 | _=>false
def Ba:Ty→List Ty
 | .unit=>[]
 | .prod a b=>Ba a++Ba b
 | .tree c e=>[.int c,.int e,.slice (.tree c e)]
 | T=>[T]
def uB:Ty→ag→ag
 | .slice A,.nils=> .p false (.slice A) []
 | .ptr A,.nilp=> .p false (.ptr A) none
 | _,x=>x
def mg:List Ty→List ag→List ag
 | T::Ts,c::cs=>uB T c::mg Ts cs
 | _,cs=>cs
def Ef(T:Ty):ag→ag
 | .agg c=> .agg (mg (Ba T) c)
 | x=>uB T x
def wE(tb:bP)(t:TypeId)(x:ag):ag :=
 match tb.find t with
 | some ti=>match ti.T with
  | some T=>Ef T x
  | none=>x
 | none=>x
def gY(tb:bP):List Bool→List TypeId→List ag→List ag
 | true::bs,t::ts,x::xs=>wE tb t x::gY tb bs ts xs
 | false::bs,_::ts,x::xs=>x::gY tb bs ts xs
 | _,_,xs=>xs
section
variable{P:Program}{Bw:Nat→Prop}{w0:cu P}{ρ:Nat→QW}{φ:Nat→Nat→Prop}{h:Nat→Qz}{w:World}{new:Nat}
theorem HK(m:Mem Bw w0 ρ φ h w){o:Oper}{a:Act}{t:TypeId}{ti:TI}(ht:aP P t ti){e:Operand}{x:ag}(f:V (Fr (own φ h) Bw w) ρ x (a.eval e))(j:o.op = .load t e)
  {r:ag} {u:hD} {c:Prop} (hd:nm ti x h=some (r,u,c)):Good P o a w (aG Bw w0 ρ φ h w new r u):=by
 unfold nm at hd;split at hd
 ·rename_i id b n i k hk;split at hd
  ·rename_i p hb;split at hd
   ·rename_i hn;split at hd
    ·rename_i l hl;cases hd;exact AU m ht hk f j hb hl hn
    ·cases hd
   ·cases hd
  ·cases hd
 ·cases hd
theorem H7(m:Mem Bw w0 ρ φ h w){o:Oper}{a:Act}{t:TypeId}{ti:TI}(ht:aP P t ti){e f:Operand}{x y:ag}(j:V (Fr (own φ h) Bw w) ρ x (a.eval e))(p:V (Fr (own φ h) Bw w) ρ y (a.eval f))(q:o.op = .store t e f)
  {r:ag} {u:hD} {c:Prop} (hd:kV ti x y h=some (r,u,c)):Good P o a w (aG Bw w0 ρ φ h w new r u):=by
 unfold kV at hd;split at hd
 ·rename_i id b n i β k v;split at hd
  ·rename_i z hb;split at hd
   ·rename_i hn;split at hd
    ·rename_i l hl;cases hd;exact yN m ht hn.2 j p q hb hl hn.1
    ·cases hd
   ·cases hd
  ·cases hd
 ·cases hd
theorem G6{tb:bP}(m:Mem Bw w0 ρ φ h w)(f:bV P tb){o:Oper}{a:Act}{t:TypeId}{E io:Operand}{x i:ag}(B:V (Fr (own φ h) Bw w) ρ x (a.eval E))(hi:V (Fr (own φ h) Bw w) ρ i (a.eval io))(C:o.op = .indexAddr t E io)
  {r:ag} {u:hD} {c:Prop} (hd:kX tb t x i h=some (r,u,c)) (D:c):Good P o a w (aG Bw w0 ρ φ h w new r u):=by
 unfold kX at hd;split at hd
 ·rename_i ti ht;split at hd
  ·rename_i n e hk;split at hd
   ·rename_i L z;split at hd
    ·rename_i q;split at hd
     ·rename_i id j sz off β k I;split at hd
      ·rename_i J hb;cases hd;exact zm m (f.find ht) hk (f.find z) q B hb hi C D
      ·cases hd
     ·rename_i id b N p β k I;cases hd;exact xT m (f.find ht) hk (f.find z) q B hi C D
     ·cases hd
    ·split at hd
     ·rename_i q;split at hd
      ·rename_i id j sz off β k I;split at hd
       ·rename_i J hb;cases hd;exact wK m (f.find ht) hk (f.find z) q B hb hi C D
       ·cases hd
      ·cases hd
     ·cases hd
   ·cases hd
  ·cases hd
 ·cases hd
theorem GW(m:Mem Bw w0 ρ φ h w)(hn:ρ new=none){o:Oper}{a:Act}{t:TypeId}{ti:TI}(ht:aP P t ti){C:Operand}{x:ag}(D:V (Fr (own φ h) Bw w) ρ x (a.eval C))(E:o.op = .load t C)
  {r:ag} {u:hD} {c:Prop} (hd:mE new ti x h=some (r,u,c)) (I:c):Good P o a w (aG Bw w0 ρ φ h w new r u):=by
 unfold mE at hd;split at hd
 ·rename_i id i sz off;split at hd
  ·rename_i f;obtain⟨rfl,rfl,hk⟩:=f;split at hd
   ·rename_i e L A p hi;cases hd;exact su m hn ht hk D E hi I
   ·rename_i e L A p k j hi;split at hd
    ·rename_i Z B ys M;split at hd
     ·rename_i q;subst q;split at hd
      ·rename_i N;subst N;simp only[Option.some.injEq,Prod.mk.injEq]at hd;obtain⟨rfl,rfl,rfl⟩:=hd;obtain⟨O,J⟩:=m.wW hi M;have X:=su (new:=new) O hn ht hk (V.mono J (fun _ _ h=>h) D) E (ao _ _ _) (i:=i) (by rw[List.length_set];exact I);exact fun K Q z=>X K Q fun v w' Y=>z v w' (aG.Jb rfl J Y)
      ·cases hd
     ·cases hd
    ·cases hd
   ·cases hd
  ·cases hd
 ·cases hd
theorem Jn(m:Mem Bw w0 ρ φ h w){o:Oper}{a:Act}{t:TypeId}{ti:TI}(ht:aP P t ti){L M:Operand}{id i:Nat}(z:V (Fr (own φ h) Bw w) ρ (.adr id i 1 0) (a.eval L)){y:ag}(B:V (Fr (own φ h) Bw w) ρ y (a.eval M))(D:(cellsOf y).length=ti.size)
  (E:o.op = .store t L M) {e N:TypeId} {A:Ty} {p:List (List A.den)} {hole:Option (Nat×Nat)} (hi:h id=some (.mat e N A p hole)) {r:ag} {u:hD} {c:Prop} (hd:uH id i e N A p hole y h=some (r,u,c)) (x:c) :
  Good P o a w (aG Bw w0 ρ φ h w new r u):=by
 unfold uH at hd;split at hd
 ·rename_i rr;have f:ti.size=1:=D.symm;split at hd
  ·split at hd
   ·split at hd
    ·cases hd;exact pM m ht f z B E hi x (fun k j e=>by cases e)
    ·rename_i k j;split at hd
     ·cases hd;exact pM m ht f z B E hi x.2 (fun k' j' e=>by cases e;exact x.1)
     ·rename_i e4 C ys O;split at hd
      ·rename_i q;subst q;split at hd
       ·rename_i X;obtain⟨rfl,_⟩:=X;simp only[Option.some.injEq,Prod.mk.injEq]at hd;obtain⟨rfl,rfl,rfl⟩:=hd;obtain⟨Y,I⟩:=m.wW hi O;have Z:=pM (new:=new) Y ht f (V.mono I (fun _ _ h=>h) z) (V.mono I (fun _ _ h=>h) B) E (ao _ _ _) (i:=i) (by rw[List.length_set];exact x) (fun k j e=>by cases e);exact fun K Q J=>Z K Q fun v w' hp=>J v w' (aG.Jb rfl I hp)
       ·cases hd
      ·cases hd
     ·cases hd
   ·cases hd
  ·cases hd
 ·cases hd
theorem Hu(m:Mem Bw w0 ρ φ h w)(hn:ρ new=none){o:Oper}{a:Act}{t e:TypeId}{ti j:TI}(ht:aP P t ti)(hk:ti.k = .sl e)(f:aP P e j){A:Ty}(hT:j.T=some A)(J:0<A.size)
  {u co:Operand} (x:o.op = .makeSlice t u co) {β q:Bool} {L M:IntKind} {l c:Int} (hl:V (Fr (own φ h) Bw w) ρ (.p β (.int L) l) (a.eval u)) (z:V (Fr (own φ h) Bw w) ρ (.p q (.int M) c) (a.eval co))
  (C:0≤l) (D:l≤c) (E:(j.bytes:Int)*c≤281474976710656) (I:c≤9223372036854775807) :
  Good P o a w (aG Bw w0 ρ φ h w new (.sl new) [(new,some (IV e j A l.toNat))]):=by
 have key:=ye (new:=new) m hn ht hk f hT J x hl z C D E I;unfold IV;split
 ·rename_i B;split
  ·rename_i O N hz;split
   ·rename_i hB;exact AK m hn ht hk f hT hz hB x hl z C D E I
   ·exact key
  ·exact key
 ·exact key
end
theorem Dx{F:Bool→Addr→Value→Prop}{ρ:Nat→QW}{T:Ty}{x:ag}{v:Value}(h:V F ρ x v):V F ρ (uB T x) v:=by
 unfold uB;split
 ·simp only[V]at h ⊢;exact⟨rfl,none,0,0,h.symm,⟨rfl,Nat.le_refl _⟩,fun i hi=>absurd hi (by simp)⟩
 ·simp only[V]at h ⊢;exact⟨rfl,h.symm⟩
 ·exact h
theorem xm{T:Ty}{x:ag}:ids (uB T x)=ids x:=by
 unfold uB;split <;> simp[ids]
theorem xC{F:Bool→Addr→Value→Prop}{ρ:Nat→QW}:∀ {Ts:List Ty} {e:List ag} {g:Nat→Value→Prop},VL F ρ e g→VL F ρ (mg Ts e) g
 | [],e,g,h=>by cases e <;> exact h
 | T::Ts,[],g,h=>h
 | T::Ts,c::e,g,h=>by
  simp only[mg,VL]at h ⊢;obtain⟨⟨u,f,j⟩,p⟩:=h;exact⟨⟨u,f,Dx j⟩,xC p⟩
theorem qf:∀ {Ts:List Ty} {cs:List ag},(mg Ts cs).length=cs.length
 | [],cs=>by cases cs <;> rfl
 | T::Ts,[]=>rfl
 | T::Ts,c::cs=>by simp[mg,qf (Ts:=Ts) (cs:=cs)]
theorem vA:∀ {Ts:List Ty} {cs:List ag},bA (mg Ts cs)=bA cs
 | [],cs=>by cases cs <;> rfl
 | T::Ts,[]=>rfl
 | T::Ts,c::cs=>by simp[mg,bA,xm,vA (Ts:=Ts) (cs:=cs)]
theorem Jt{tb:bP}{t:TypeId}{F:Bool→Addr→Value→Prop}{ρ:Nat→QW}{x:ag}{v:Value}(h:V F ρ x v):V F ρ (wE tb t x) v:=by
 unfold wE;split
 ·split
  ·unfold Ef;split
   ·simp only[V]at h ⊢;obtain⟨c,e,f,hl⟩:=h;exact⟨c,e,by rw[qf];exact f,xC hl⟩
   ·exact Dx h
  ·exact h
 ·exact h
theorem EL{tb:bP}{t:TypeId}{x:ag}:ids (wE tb t x)=ids x:=by
 unfold wE;split
 ·split
  ·unfold Ef;split
   ·simp only[ids,vA]
   ·exact xm
  ·rfl
 ·rfl
theorem jA{tb:bP}{F:Bool→Addr→Value→Prop}{ρ:Nat→QW}:∀ {e:List Bool} {f:List TypeId} {xs:List ag} {c:QY},iP F ρ xs c→iP F ρ (gY tb e f xs) c
 | true::e,t::f,x::xs,c,h=>by
  cases c with
  | nil=>exact h.elim
  | cons v c=>exact⟨Jt h.1,jA h.2⟩
 | false::e,t::f,x::xs,c,h=>by
  cases c with
  | nil=>exact h.elim
  | cons v c=>exact⟨h.1,jA h.2⟩
 | [],f,xs,c,h=>by simpa only [gY]using h
 | b::e,[],xs,c,h=>by cases b <;> simpa only [gY]using h
 | b::e,t::f,[],c,h=>by cases b <;> simpa only [gY]using h
theorem oA{tb:bP}:∀ {bs:List Bool} {ts:List TypeId} {xs:List ag},bA (gY tb bs ts xs)=bA xs
 | true::bs,t::ts,x::xs=>by simp only[gY,bA,EL,oA (bs:=bs) (ts:=ts) (xs:=xs)]
 | false::bs,t::ts,x::xs=>by simp only[gY,bA,oA (bs:=bs) (ts:=ts) (xs:=xs)]
 | [],ts,xs=>by simp only[gY]
 | b::bs,[],xs=>by cases b <;> simp only[gY]
 | b::bs,t::ts,[]=>by cases b <;> simp only[gY]
def yJ(h:Nat→Qz)(x:ag):Option (ag×hD) :=
 match x with
 | .agg c=>match qN h c with
  | some (e,u)=>some (.agg e,u)
  | none=>none
 | x=>gf h x
def frzL(h:Nat→Qz):List Bool→List ag→Option (List ag×hD)
 | _,[]=>some ([],[])
 | [],xs=>some (xs,[])
 | false::bs,x::xs=>match frzL h bs xs with
  | some (c,u)=>some (x::c,u)
  | none=>none
 | true::bs,x::xs=>match yJ h x with
  | some (y,u)=>match frzL (apply u h) bs xs with
   | some (c,e)=>some (y::c,u++e)
   | none=>none
  | none=>none
structure xQ where
 r:ag
 fl:List Bool
 own:Bool
 cn:List Bool
 g:QV
 hout:Qw
 die:QW
def dieOf:Option xQ→QW
 | some q=>q.die
 | none=>none
def yB(P:Program)(f:FuncId)(args:List ag)(hin:Qw)(q:xQ):Prop :=
 match q.die with
 | none=>fP P f args hin q.r q.hout
 | some x=>j7 P f args hin x
def OW:Option xQ→QV
 | some q=>q.g
 | none=>[]
def BJ:ag→ag
 | .lit (.func (.func f) c e)=>if c.isEmpty && e.isEmpty then .fn f []else .unk
 | x=>x
def Kq:Option xQ→List Bool
 | some q=>q.cn
 | none=>[]
def wv(P:Program)(new:Nat)(iO:Option xQ)(f:ag)(xs:List ag)(h:Nat→Qz):Qk :=
 match f,iO with
 | .fn fid c,some q=>match frzL h q.fl xs with
  | some (e,u) =>
   if q.own then
    if q.g.all (fun i=>(wP h (f::xs)).contains i)then
     match sn q.g (less q.g (apply u h)) (e++c),jW q.g (apply u h) 0 q.g with
     | some args,some hin=>if vI q.g q.hout q.r then some (mv (tR q.g new) q.r,u++vZ q.g new q.hout,yB P fid args hin q)else none
     | _,_=>none
    else none
   else match o5 (apply u h) (e++c)with
   | some args=>some (q.r,u,Pure P fid args q.r)
   | none=>none
  | none=>none
 | _,_=>none
def Bo(asm:Option Bool)(c:ag)(s:Nat→ag)(x y:Operand):Qk :=
 match asm,c with
 | some b,.p _ .bool e=>some (ev s (if b then x else y),[],e=b)
 | none,.p _ .bool e=>match e with
  | true=>some (ev s x,[],True)
  | false=>some (ev s y,[],True)
 | _,_=>none
def Gi(fn:Fn)(first:List Operand)(c:List ag):Qk :=
 match fn,first with
 | .func f,[]=>some (.fn f c,[],True)
 | _,_=>none
def ri(tb:bP)(new:Nat)(b:Builtin)(xs:List ag)(c:List TypeId)(h:Nat→Qz):Qk :=
 match b,xs,c with
 | .len,[x],[t]=>if NT x then uL tb t x h else EC tb t x h
 | .min,[x,y],_=>FB false x y
 | .max,[x,y],_=>FB true x y
 | .append,[x,y],[t,e]=>if t=e then nH tb new t x y h else none
 | .copy,[x,y],[t,_]=>sL tb t x y h
 | _,_,_=>none
def ql(P:Program)(tb:bP)(new:Nat)(iO:Option xQ)(c:Call)(s:Nat→ag)(h:Nat→Qz):Qk :=
 match c.callee with
 | .builtin b=>ri tb new b (c.args.toList.map (ev s)) c.argTypes.toList h
 | .value f=>wv P new iO (BJ (ev s f)) (gY tb (Kq iO) c.argTypes.toList (c.args.toList.map (ev s))) h
 | _=>none
def gV(P:Program)(tb:bP)(new:Nat)(asm:Option Bool)(iO:Option xQ)(op:Op)(s:Nat→ag)(h:Nat→Qz):Qk :=
 match op with
 | .move x=>some (ev s x,[],True)
 | .assign x=>some (ev s x,[],True)
 | .pick c x y=>Bo asm (ev s c) s x y
 | .alloc t=>CF tb new t
 | .box _ x=>IJ new (ev s x)
 | .build t e=>pG tb t (e.toList.map (·.1)) (e.toList.map fun p=>ev s p.2)
 | .buildSlice t len e=>mS tb new t len (e.toList.map (·.1)) (e.toList.map fun p=>ev s p.2) h
 | .load t x=>AQ tb new t (ev s x) h
 | .store t x y=>pt tb t (ev s x) (ev s y) h
 | .binOp op t x y _=>IL P tb op t (ev s x) (ev s y)
 | .nilCheck x=>IE (ev s x)
 | .unOp op _ x=>KW op (ev s x)
 | .convert st u x=>match iO with
  | none=>Ap tb st u (ev s x) h
  | some _=>BL tb new st u (ev s x)
 | .slice t x q hi none=>pH tb new t (ev s x) (qA s q) (qA s hi) h
 | .slice t x q (some hi) (some mx)=>match iO with
  | none=>uP tb t (ev s x) (qA s q) (ev s hi) (ev s mx) h
  | some _=>Ez tb new t (ev s x) (qA s q) (ev s hi) (ev s mx) h
 | .fieldAddr t x f=>Dk tb t (ev s x) f
 | .indexAddr t x i=>match iT tb t (ev s x) (ev s i) h with
  | some r=>some r
  | none=>kX tb t (ev s x) (ev s i) h
 | .index t x i=>CY tb t (ev s x) (ev s i)
 | .extract x i=>xr (ev s x) i
 | .typeAssert x _ t ok=>uj P (ev s x) t ok
 | .makeFunc fn first j=>Gi fn first.toList (j.toList.map (ev s))
 | .makeSlice t l c=>FN tb new t (ev s l) (ev s c)
 | .makeMap t none=>match yj P tb new t with
  | some r=>some r
  | none=>uU P tb new t
 | .lookup t x k ok=>match mZ P tb t (ev s x) (ev s k) ok h with
  | some r=>some r
  | none=>lW P tb t (OW iO) (ev s x) (ev s k) ok h
 | .mapUpdate t x k y=>match fN P tb t (ev s x) (ev s k) (ev s y) h with
  | some r=>some r
  | none=>eW P tb t (ev s x) (ev s k) (ev s y) h
 | .insert t x k y=>match fN P tb t (ev s x) (ev s k) (ev s y) h with
  | some r=>some r
  | none=>eW P tb t (ev s x) (ev s k) (ev s y) h
 | .call c=>ql P tb new iO c s h
 | _=>none
section
variable{P:Program}{tb:bP}{Bw:Nat→Prop}{w0:cu P}{ρ:Nat→QW}{φ:Nat→Nat→Prop}{h:Nat→Qz}{w:World}{new:Nat}{n:NS}{s:Nat→ag}{a:Act}
theorem bX(c:bV P tb){t e:TypeId}{f:TI}{A:Ty}(h:ib tb t=some (e,f,A)):∃ti,aP P t ti∧tb.find t=some ti∧ti.k = .sl e∧aP P e f∧f.T=some A∧0<A.size:=by
 unfold ib at h;split at h
 ·rename_i ti j;split at h
  ·rename_i B p;split at h
   ·rename_i q u;split at h
    ·rename_i C x;split at h
     ·rename_i z;cases h;exact⟨ti,c.find j,j,p,c.find u,x,z⟩
     ·cases h
    ·cases h
   ·cases h
  ·cases h
 ·cases h
theorem nQ(f:bV P tb){t:TypeId}{K A:Ty}{c:Prop}(h:H6 P tb t=some (K,A,c))(u:c):∃ti j p q,aP P t ti∧ti.k = .mp j p∧fC P j K∧aP P p q∧q.T=some A:=by
 unfold H6 at h;split at h
 ·rename_i ti x;split at h
  ·rename_i j p z;split at h
   ·rename_i I q B C;split at h
    ·rename_i J L M e D;cases h;refine⟨ti,j,p,q,f.find x,z,?_,f.find C,D⟩;unfold J7 at e;split at e
     ·rename_i N E;cases e;exact fC.Af (f.find B) E
     ·split at e
      ·split at e
       ·cases e;exact u
       ·cases e
      ·cases e
    ·cases h
   ·cases h
  ·cases h
 ·cases h
theorem oz(e:bV P tb){t:TypeId}{K:Ty}{c:Prop}(h:Ij P tb t=some (K,c))(z:c):∃ti f j p,aP P t ti∧ti.k = .mp f j∧fC P f K∧aP P j p∧Ms tb t=zV p:=by
 unfold Ij at h;split at h
 ·rename_i ti q;split at h
  ·rename_i f j u;split at h
   ·rename_i D p B x;split at h
    ·refine⟨ti,f,j,p,e.find q,u,?_,e.find x,by simp[Ms,q,u,x]⟩;unfold J7 at h;split at h
     ·rename_i E C;cases h;exact fC.Af (e.find B) C
     ·split at h
      ·split at h
       ·cases h;exact z
       ·cases h
      ·cases h
    ·cases h
   ·cases h
  ·cases h
 ·cases h
theorem uT{F:Bool→Addr→Value→Prop}{ρ:Nat→QW}{x:ag}{v u:Value}(h:valOf x=some v)(c:V F ρ x u):u=v:=by
 unfold valOf at h;split at h
 ·cases h;simpa only [V]using c
 ·cases h;simp only[V]at c;obtain⟨f,e,j,_⟩:=c;have:f = #[]:=Array.eq_empty_of_size_eq_zero (by simpa using j);subst this;exact e
 ·cases h;simp only[V,VL]at c;obtain⟨f,rfl,j,⟨I,p,q,rfl,z,_⟩,_⟩:=c;have B:q = #[]:=Array.eq_empty_of_size_eq_zero (by simpa using z);subst B;have C:f = #[.func (.func _) #[] #[]]:=Array.ext (by simpa using j) (fun i D E=>by
   have:i=0:=by simp at E;omega
   subst this;simpa [Array.getElem?_eq_getElem D]using p)
  rw[C]
 ·cases h
theorem yp{F:Bool→Addr→Value→Prop}{ρ:Nat→QW}{x:ag}{u:Value}(c:V F ρ x u):V F ρ (BJ x) u:=by
 unfold BJ;split
 ·rename_i f j p;split
  ·rename_i e;simp only[Bool.and_eq_true,Array.isEmpty_iff]at e;obtain⟨rfl,rfl⟩:=e;simp only[V]at c ⊢;exact⟨#[],c,rfl,by simp only[VL]⟩
  ·trivial
 ·exact c
theorem Cd{x:ag}:∀i∈ids (BJ x),i∈ids x:=by
 unfold BJ;split
 ·split
  ·intro i hi;simp[ids,bA]at hi
  ·intro i hi;simp[ids]at hi
 ·exact fun i hi=>hi
theorem gM{F:Bool→Addr→Value→Prop}{ρ:Nat→QW}{K:Ty}{x:ag}{k:K.den}{v:Value}(h:uy K x=some k)(c:K.isKey=true)(e:V F ρ x v):v=aO K k:=by
 unfold uy at h;split at h
 ·rename_i β E i;split at h
  ·rename_i q;subst q;split at h
   ·rename_i f;cases h;exact nu c f e
   ·cases h
  ·cases h
 ·rename_i I;split at h
  ·rename_i f;split at h
   ·rename_i J r hu;cases h;simp only[V]at e;obtain⟨p,rfl,z,B⟩:=e;obtain⟨C,L,M⟩:=cU hu B;rw[jw c f.1];congr 1;refine Array.ext_getElem? fun i=>?_
    rw[List.getElem?_toArray,←Array.getElem?_toList];rcases Nat.lt_or_ge i K.size with hi | hi
    ·have:=ke (l:=p.toList) (o:=0) c (ai.mono (fun _ _ h=>h) (fun j u D=>by rw[Nat.zero_add,Array.getElem?_toList];exact D) C) i hi;rw[Nat.zero_add]at this;exact this
    ·rw[List.getElem?_eq_none (by rw[Array.length_toList,z,f.2];exact hi)];rw[List.getElem?_eq_none (by rw[cX c];exact hi)]
   ·cases h
  ·cases h
 ·rename_i N O xs;split at h
  ·rename_i q;subst q;cases h;simp only[V]at e;obtain⟨p,rfl,hl,-⟩:=e;rw[jw c rfl];cases p with
   | nil=>simp[cE]
   | cons _ _=>simp at hl
  ·cases h
 ·cases h
theorem rO{F:Bool→Addr→Value→Prop}(f:bT n F ρ s a){c:Option Operand}{l:Option Int}(h:qA s c=some l):uK F ρ a c l:=by
 unfold qA at h;cases c with
 | none=>cases h;trivial
 | some x =>
  simp only at h;split at h
  ·rename_i β k m e;cases h;have:=aX f x;rw[e]at this;exact⟨_,_,this⟩
  ·cases h
theorem ml{F:Bool→Addr→Value→Prop}{x:ag}{n:Int}(h:intOf x=some n){v:Value}(c:V F ρ x v):∃β k,V F ρ (.p β (.int k) n) v:=by
 unfold intOf at h;split at h
 ·cases h;exact⟨_,_,c⟩
 ·cases h
theorem Et(m:Mem Bw w0 ρ φ h w){x y:ag}{u:hD}(hd:yJ h x=some (y,u)):
  Mem Bw w0 ρ φ (apply u h) w∧(∀β a v,Fr (own φ h) Bw w β a v→Fr (own φ (apply u h)) Bw w β a v)∧∀v,V (Fr (own φ h) Bw w) ρ x v→V (Fr (own φ (apply u h)) Bw w) ρ y v:=by
 unfold yJ at hd;split at hd
 ·split at hd
  ·rename_i C D f;cases hd;obtain⟨j,p,q,z⟩:=pv m f;refine⟨j,p,fun v c=>?_⟩;simp only[V]at c ⊢;obtain⟨A,e,B,hl⟩:=c;exact⟨A,e,by rw[q];exact B,z _ hl⟩
  ·cases hd
 ·exact gI m hd
theorem nR:∀ {p:List Bool} {xs f:List ag} {h:Nat→Qz} {u:hD},Mem Bw w0 ρ φ h w→frzL h p xs=some (f,u) →
  Mem Bw w0 ρ φ (apply u h) w∧(∀β a v,Fr (own φ h) Bw w β a v→Fr (own φ (apply u h)) Bw w β a v)∧∀c,iP (Fr (own φ h) Bw w) ρ xs c→iP (Fr (own φ (apply u h)) Bw w) ρ f c
 | _,[],f,h,u,m,hd=>by
  simp only[frzL]at hd;cases hd;exact⟨m,fun _ _ _ h=>h,fun _ h=>h⟩
 | [],x::xs,f,h,u,m,hd=>by
  simp only[frzL]at hd;cases hd;exact⟨m,fun _ _ _ h=>h,fun _ h=>h⟩
 | false::p,x::xs,f,h,u,m,hd=>by
  simp only[frzL]at hd;split at hd
  ·rename_i q M z;cases hd;obtain⟨B,j,C⟩:=nR m z;refine⟨B,j,fun c e=>?_⟩;cases c with
   | nil=>exact e.elim
   | cons v c=>exact⟨V.mono j (fun _ _ h=>h) e.1,C c e.2⟩
  ·cases hd
 | true::p,x::xs,f,h,u,m,hd=>by
  simp only[frzL]at hd;split at hd
  ·rename_i y u1 z;split at hd
   ·rename_i q N E;cases hd;obtain⟨B,j,C⟩:=Et m z;obtain⟨I,D,J⟩:=nR B E;rw[eL];refine⟨I,fun β a v L=>D _ _ _ (j _ _ _ L),fun c e=>?_⟩;cases c with
    | nil=>exact e.elim
    | cons v c=>exact⟨V.mono D (fun _ _ h=>h) (C v e.1),J c (iP.mono j (fun _ _ h=>h) e.2)⟩
   ·cases hd
  ·cases hd
theorem w9{c:hD}{i:Nat}(hu:c.all (fun p=>p.1 != i)=true):∀ {h:Nat→Qz},apply c h i=h i:=by
 induction c with
 | nil=>intro h;rfl
 | cons p c e =>
  intro h;obtain⟨j,o⟩:=p;simp only[List.all_cons,Bool.and_eq_true,bne_iff_ne,ne_eq]at hu;simp only[apply];rw[e hu.2,aD _ _ (Ne.symm hu.1)]
theorem kT{F:Bool→Addr→Value→Prop}{x:ag}{b:Bool}(h:AY x=some b){u:Value}(hu:V F ρ x u):∃q,u = .pointer q∧q.isNone=b:=by
 cases x <;> simp only[AY]at h <;> first | (cases h;done) | skip
 ·cases h;simp only[V]at hu;exact⟨none,hu,rfl⟩
 ·cases h;simp only[V]at hu;obtain⟨g,_,e⟩:=hu;exact⟨_,e,rfl⟩
 ·cases h;simp only[V]at hu;obtain⟨c,e,_⟩:=hu;exact⟨_,e,rfl⟩
theorem AV(d:Nat){t e:TypeId}(h:P.underlying t=some (.pointer e))(q:Option Addr):(Op.equalIn (d+1) t (.pointer none) (.pointer q)).run P w = .ok q.isNone w:=by
 simp[Op.equalIn,run_underlying h]
theorem zt(d:Nat){t e:TypeId}(h:P.underlying t=some (.pointer e))(a:Addr):(Op.equalIn (d+1) t (.pointer (some a)) (.pointer none)).run P w = .ok false w:=by
 simp[Op.equalIn,run_underlying h]
theorem Bs(d:Nat){t:TypeId}{c:Array (String×TypeId)}(h:P.underlying t=some (.interface c))(a:TypeId)(v:Value):(Op.equalIn (d+1) t (.iface a v) .nilIface).run P w = .ok false w:=by
 simp[Op.equalIn,run_underlying h]
theorem sv{F:Bool→Addr→Value→Prop}{op:BinOp}{b:Bool}{r:ag}(h:HI op b=some r){t:TypeId}{u v:Value}{xo yo:Operand}(e:(eqGuard op t xo yo u v).run P w = .ok () w)
  (f:(Op.equal t u v).run P w = .ok b w) (c:binOp .eql t u v=(do pure (.bool (←Op.equal t u v)))∧binOp .neq t u v=(do pure (.bool (!(←Op.equal t u v))))) :
  ∃z,(do eqGuard op t xo yo u v;binOp op t u v:Sem Value).run P w = .ok z w∧V F ρ r z:=by
 unfold HI at h;split at h <;> cases h
 ·exact⟨_,by rw[Sem.run_bind,e,Result.andThen_ok,c.1,Sem.run_bind,f];rfl,ja _ _⟩
 ·exact⟨_,by rw[Sem.run_bind,e,Result.andThen_ok,c.2,Sem.run_bind,f];rfl,ja _ _⟩
theorem CL{F:Bool→Addr→Value→Prop}{ti:TI}{op:BinOp}{t:TypeId}{x y r:ag}{us:hD}{c:Prop}(h:Jc P ti op t x y=some (r,us,c))(B:c){u v:Value}(hu:V F ρ x u)(p:V F ρ y v)(N O:Operand):
  us=[]∧∃z,(do eqGuard op t N O u v;binOp op t u v:Sem Value).run P w = .ok z w∧V F ρ r z:=by
 have ptr:∀ {b:Bool} {q j:Option Addr},u = .pointer q→v = .pointer j→(∃e,P.underlying t=some (.pointer e))→(q.isNone=true∧j.isNone=b∨q.isNone=false∧j.isNone=true∧b=false)→HI op b=some r →
   ∃z,(do eqGuard op t N O u v;binOp op t u v:Sem Value).run P w = .ok z w∧V F ρ r z:=fun {b q j} D E C hq f=>by
  subst D E;obtain⟨e,C⟩:=C;refine sv f (bJ (by intro X e;cases e) (by intro e;cases e)) ?_ ⟨by cases q <;> cases j <;> rfl,by cases q <;> cases j <;> rfl⟩;unfold Op.equal Op.maxDepth;cases q with
  | none =>
   rcases hq with⟨_,Y⟩ | ⟨Z,_⟩
   ·subst Y;exact AV 9999 C j
   ·cases Z
  | some a =>
   rcases hq with⟨Z,_⟩ | ⟨_,Y,q3⟩
   ·cases Z
   ·cases j with
    | none=>subst q3;exact zt 9999 C a
    | some _=>cases Y
 unfold Jc at h;split at h
 ·rename_i X ds;split at h
  ·rename_i T hT;split at h
   ·rename_i a b ha hb;split at h
    ·rename_i L f;cases h;refine⟨rfl,?_⟩;simp only[V]at hu p;obtain⟨xs,rfl,sx,lx⟩:=hu;obtain⟨ys,rfl,sy,ly⟩:=p;obtain⟨a1,a2,a3⟩:=cU ha lx;obtain⟨b1,b2,b3⟩:=cU hb ly;have hl:∀l:List ag,([]:List ag)=l.drop T.size→T.size≤l.length→l.length=T.size:=fun l I M=>by have:=congrArg List.length I;simp only[List.length_nil,List.length_drop]at this;omega
     have C:=B.2 w;have J:T.scalar=false:=B.1.2;refine sv f (run_eqGuard_agg w op t N O xs ys B.1.1) ?_ ⟨rfl,rfl⟩;refine C.2.2 (F false) a b _ _ ?_ ?_
     ·unfold oY;rw[J];simp only[Bool.false_eq_true,if_false];exact⟨xs,rfl,by rw[sx,hl X a2 a3],a1⟩
     ·unfold oY;rw[J];simp only[Bool.false_eq_true,if_false];exact⟨ys,rfl,by rw[sy,hl ds b2 b3],b1⟩
    ·cases h
   ·cases h
  ·cases h
 ·rename_i A q;split at h
  ·rename_i L f;cases h;simp only[V]at hu p;cases q with
   | none =>
    have e:u = .pointer none:=hu.2.symm;exact⟨rfl,ptr e p B (.inl ⟨rfl,rfl⟩) f⟩
   | some y =>
    obtain⟨_,b,e,_⟩:=hu;exact⟨rfl,ptr e.symm p B (.inr ⟨rfl,rfl,rfl⟩) f⟩
  ·cases h
 ·split at h
  ·rename_i b I M;split at h
   ·rename_i L f;cases h;obtain⟨q,D,E⟩:=kT I hu;obtain⟨j,e3,e4⟩:=kT M p;exact⟨rfl,ptr D e3 B (.inl ⟨E,e4⟩) f⟩
   ·cases h
  ·rename_i I M;split at h
   ·rename_i L f;cases h;obtain⟨q,D,E⟩:=kT I hu;obtain⟨j,e3,e4⟩:=kT M p;exact⟨rfl,ptr D e3 B (.inr ⟨E,e4,rfl⟩) f⟩
   ·cases h
  ·split at h
   ·split at h
    ·rename_i L f;cases h;simp only[V]at hu p;subst hu p;obtain⟨ms,a4⟩:=B;refine⟨rfl,sv f (bJ (by intro X e;cases e) (by intro e;cases e)) ?_ ⟨rfl,rfl⟩⟩;unfold Op.equal Op.maxDepth;exact Bs 9999 a4 _ _
    ·cases h
   ·cases h
theorem BE(m:Mem Bw w0 ρ φ h w){o:Oper}{f:Operand}{p e:TypeId}{ok:Bool}(z:o.op = .typeAssert f p e ok){x:ag}(j:V (Fr (own φ h) Bw w) ρ x (a.eval f)){y:ag}{u:hD}{c:Prop}
  (hd:uj P x e ok=some (y,u,c)) (B:c):Good P o a w (aG Bw w0 ρ φ h w new y u):=by
 unfold uj at hd;split at hd
 ·rename_i t v;split at hd
  ·rename_i q;obtain⟨rfl,rfl⟩:=q;cases hd;obtain⟨d,hd,hi⟩:=B;simp only[V]at j;refine Good.aH (v:= .tuple #[v,.bool true]) (w':=w) ?_ (aG.pure m ?_)
   ·simp only[execOp,z,j];simp only[Instr.typeAssert,Sem.run_bind,run_underlying hd,Result.andThen_ok];cases d <;> first | (simp at hi;done) | (simp;done)
   ·simp only[V,VL];exact⟨_,rfl,rfl,⟨v,by simp,CR v⟩,⟨.bool true,by simp,by simp only[V,ai];exact⟨rfl,trivial⟩⟩,trivial⟩
  ·cases hd
 ·cases hd
theorem Hz(C:bV P tb)(m:Mem Bw w0 ρ φ h w)(I:bT n (Fr (own φ h) Bw w) ρ s a)(ch:∀j,j<8→ρ (new+j)=none){o:Oper}{asm:Option Bool}{iO:Option xQ}(cl:dieOf iO=none){x:ag}{u:hD}{c:Prop}
  (hd:gV P tb new asm iO o.op s h=some (x,u,c)) (L:c):Good P o a w (aG Bw w0 ρ φ h w new x u):=by
 have hn:ρ new=none:=ch 0 (by omega);unfold gV at hd;split at hd
 ·rename_i x' E;cases hd;exact zS m (aX I _) (.inl E)
 ·rename_i x' E;cases hd;exact zS m (aX I _) (.inr E)
 ·rename_i co D X E;unfold Bo at hd;split at hd
  ·rename_i b β b' e;cases hd;subst L;have:=aX I co;rw[e]at this;exact uo m this (aX I _) E
  ·rename_i β b' e;have:=aX I co;rw[e]at this;split at hd
   ·cases hd;exact uo (b:=true) m this (aX I _) E
   ·cases hd;exact uo (b:=false) m this (aX I _) E
  ·cases hd
 ·rename_i t E;unfold CF at hd;split at hd
  ·rename_i ti ht;cases hd;exact Fi m hn (C.find ht) E
  ·cases hd
 ·rename_i t D E;unfold IJ at hd;split at hd
  ·rename_i bv;cases hd;exact Ji m hn (aX I D) bv E _
  ·cases hd
 ·rename_i t ps E;unfold pG at hd;split at hd
  ·rename_i ti ht;split at hd
   ·rename_i fs hk;split at hd
    ·rename_i ds bx;cases hd;have:=jF I (ps.toList.map (·.2));simp only[List.map_map]at this;exact yA m C (C.find ht) hk E this bx
    ·cases hd
   ·rename_i n e hk;split at hd
    ·rename_i te a9;split at hd
     ·rename_i ds bx;cases hd;have:=jF I (ps.toList.map (·.2));simp only[List.map_map]at this;exact uR m C (C.find ht) hk (C.find a9) E this bx
     ·cases hd
    ·cases hd
   ·cases hd
  ·cases hd
 ·rename_i t len ps E;unfold mS at hd;split at hd
  ·rename_i e te A Y;obtain⟨ti,M,_,N,O,h4,h5⟩:=bX C Y;split at hd
   ·rename_i Z;split at hd
    ·rename_i ys us b4;cases hd;have:=jF I (ps.toList.map (·.2));simp only[List.map_map]at this;exact vP m hn M N O h4 h5 E Z.1 this (fun x J=>Fj ((List.all_eq_true.1 Z.2.1) x J)) b4 Z.2.2
    ·cases hd
   ·cases hd
  ·cases hd
 ·rename_i t D E;unfold AQ at hd;split at hd
  ·rename_i ti ht;split at hd
   ·rename_i cs off c' d2;split at hd
    ·rename_i y hy;cases hd;exact Hl m (C.find ht) (aX I D) E d2 L hy
    ·cases hd
   ·split at hd
    ·rename_i r0 c2;cases hd;exact HK m (C.find ht) (aX I D) E c2
    ·exact GW m hn (C.find ht) (aX I D) E hd L
  ·cases hd
 ·rename_i t D X E;unfold pt at hd;split at hd
  ·rename_i ti ht;split at hd
   ·rename_i Z;split at hd
    ·rename_i id i sz off ex;have J:=aX I D;rw[ex]at J;split at hd
     ·rename_i cs hi;split at hd
      ·rename_i cp;cases hd;exact xF m (C.find ht) J (aX I X) Z.1 E hi Z.2 cp
      ·cases hd
     ·rename_i e A xs hi;split at hd
      ·rename_i b1;split at hd
       ·rename_i z us hz;split at hd
        ·rename_i b6;cases hd;rw[b1.1]at J;exact wQ m (C.find ht) J (aX I X) Z.1 E hz hi (by rw[w9 b6];exact hi) Z.2 b1.2 L
        ·cases hd
       ·cases hd
      ·cases hd
     ·rename_i e e2 A du hole hi;split at hd
      ·rename_i b1;obtain⟨rfl,rfl⟩:=b1;exact Jn m (C.find ht) J (aX I X) Z.2 E hi hd L
      ·cases hd
     ·rename_i e xs hi;split at hd
      ·rename_i b1;obtain⟨rfl,rfl,d3⟩:=b1;split at hd
       ·rename_i β v ey;have hy:=aX I X;rw[ey]at hy;cases hd;exact uz m (C.find ht) d3 J hy E hi L
       ·cases hd
      ·cases hd
     ·cases hd
    ·exact H7 m (C.find ht) (aX I D) (aX I X) E hd
   ·cases hd
  ·cases hd
 ·rename_i op t D X t' E;unfold IL at hd;split at hd
  ·rename_i ti ht;split at hd
   ·rename_i r c' hr;cases hd;obtain⟨z,M,N⟩:=He (P:=P) (w:=w) (C.find ht) hr L (aX I D) (aX I X) D X;exact Good.aH (v:=z) (w':=w) (by simp only[execOp,E];rw[Sem.run_bind,M];rfl) (aG.pure m N)
   ·obtain⟨hu,z,M,N⟩:=CL (P:=P) (w:=w) hd L (aX I D) (aX I X) D X;subst hu;exact Good.aH (v:=z) (w':=w) (by simp only[execOp,E];rw[Sem.run_bind,M];rfl) (aG.pure m N)
  ·cases hd
 ·rename_i D E;have J:=aX I D;unfold IE at hd;split at hd
  ·rename_i id i sz off ex;cases hd;rw[ex]at J;obtain⟨g,M,N⟩:∃g,_∧a.eval D = .pointer (some ⟨g,i*sz+off,none⟩):=by simpa only [V]using J
   exact Good.aH (v:=a.eval D) (w':=w) (by simp only[execOp,E,N];rfl) (aG.pure m J)
  ·rename_i β cs off ex;cases hd;rw[ex]at J;obtain⟨ad,M,N⟩:∃ad:Addr,a.eval D = .pointer (some (ad.add off))∧_:=by simpa only [V]using J
   exact Good.aH (v:=a.eval D) (w':=w) (by simp only[execOp,E,M];rfl) (aG.pure m J)
  ·rename_i β A q ex;cases hd;rw[ex]at J;cases q with
   | none=>cases L
   | some y =>
    obtain⟨_,b,e,hv⟩:_∧∃b:Addr,Value.pointer (some b)=a.eval D∧ai (Fr (own φ h) Bw w β) A y (fun k v=>Fr (own φ h) Bw w β (b.add k) v):=by simpa only [V,ai]using J
    refine Good.aH (v:=a.eval D) (w':=w) (by simp only[execOp,E,←e];rfl) (aG.pure m ?_);simp only[V,Option.getD_some];exact⟨b,by rw[←e];unfold Addr.add;simp,jJ β A y _ hv⟩
  ·cases hd
 ·rename_i op t D E;unfold KW at hd;split at hd
  ·rename_i r hr;cases hd;obtain⟨z,M,N⟩:=Bz (P:=P) (w:=w) hr (aX I D);exact Good.aH (v:=z) (w':=w) (by simp only[execOp,E];rw[Sem.run_bind,M];rfl) (aG.pure m N)
  ·cases hd
 ·rename_i st dt D E;split at hd
  ·unfold Ap at hd;split at hd
   ·rename_i si b7;split at hd
    ·rename_i di be;split at hd
     ·rename_i r hr;cases hd;obtain⟨dd,bi,a7⟩:=(C.find be).hu;unfold I2 at hr;split at hr
      ·rename_i β l ex;have J:=aX I D;rw[ex]at J;split at hr
       ·rename_i e hk;split at hr
        ·rename_i a3;cases hr;rw[hk]at a7;simp only[UK]at a7;subst a7;simp only[GA]at a3;split at a3
         ·rename_i te a9;obtain⟨d,q1,q2⟩:=(C.find a9).hu;split at a3
          ·rename_i c4;rw[c4]at q2;simp only[UK]at q2;exact D6 m (C.find b7) bi (by rw[q1,q2]) E J
          ·cases a3
         ·cases a3
        ·cases hr
       ·cases hr
      ·rename_i β k n ex;have J:=aX I D;rw[ex]at J;split at hr
       ·rename_i hk;cases hr;rw[hk]at a7;simp only[UK]at a7;subst a7;exact Hi m (C.find b7) bi E J
       ·cases hr
      ·cases hr
     split at hd
     ·rename_i a3;split at hd
      ·rename_i r hr;cases hd;obtain⟨z,M,N⟩:=Fb (P:=P) m (C.find b7) (C.find be) (fun e he=>by
        rw[he]at a3;simp only[GA]at a3;split at a3
        ·rename_i te a9;obtain⟨d,q1,q2⟩:=(C.find a9).hu;split at a3
         ·rename_i hk;rw[hk]at q2;simp only[UK]at q2;rw[q1,q2]
         ·cases a3
        ·cases a3) hr (aX I D)
       exact Good.aH (v:=z) (w':=w) (by simp only[execOp,E];rw[Sem.run_bind,M];rfl) (aG.pure m N)
      ·cases hd
     ·cases hd
    ·cases hd
   ·cases hd
  ·unfold BL at hd;split at hd
   ·rename_i si b7;split at hd
    ·rename_i di be;obtain⟨dd,bi,a7⟩:=(C.find be).hu;split at hd
     ·rename_i β l ex;have J:=aX I D;rw[ex]at J;split at hd
      ·rename_i e hk;split at hd
       ·rename_i a3;cases hd;rw[hk]at a7;simp only[UK]at a7;subst a7;simp only[GA]at a3;split at a3
        ·rename_i te a9;obtain⟨d,q1,q2⟩:=(C.find a9).hu;split at a3
         ·rename_i c4;rw[c4]at q2;simp only[UK]at q2;exact Cu m hn (C.find b7) bi (by rw[q1,q2]) E J
         ·cases a3
        ·cases a3
       ·cases hd
      ·cases hd
     ·cases hd
    ·cases hd
   ·cases hd
 ·rename_i t D lo hi E;unfold pH at hd;split at hd
  ·rename_i ti ht;split at hd
   ·rename_i l r hl hr;have b2:=rO I hl;have a4:=rO I hr;have J:=aX I D;split at hd
    ·rename_i β str ex;rw[ex]at J;split at hd
     ·rename_i hk;cases hd;exact wJ m (C.find ht) hk E J b2 a4 L.1 L.2.1 L.2.2
     ·cases hd
    ·rename_i β A xs ex;rw[ex]at J;split at hd
     ·rename_i _ _ B Y;obtain⟨aa,M,ac,N,O,h4,h5⟩:=bX C Y;split at hd
      ·rename_i ax;subst ax;cases hd;exact oU m M N O h4 E J b2 a4 L.1 L.2.1 L.2.2
      ·cases hd
     ·cases hd
    ·rename_i id ex;rw[ex]at J;split at hd
     ·rename_i e A xs a5;split at hd
      ·rename_i _ _ _ Y;obtain⟨aa,M,ac,N,O,h4,h5⟩:=bX C Y;split at hd
       ·rename_i k;cases hd;cases lo with
        | some _=>exact b2.elim
        | none =>
         cases hi with
         | none=>exact a4.elim
         | some e1 =>
          obtain⟨β,kk,hv⟩:=a4;exact yb m hn M N O (A:=A) E a5 J hv L.1 L.2
       ·cases hd
      ·cases hd
     ·rename_i A xs a5;split at hd
      ·rename_i _ _ B Y;obtain⟨aa,M,ac,N,O,h4,h5⟩:=bX C Y;split at hd
       ·rename_i ax;subst ax;cases hd;obtain⟨u,q1,q2⟩:=m.ob id _ a5;simp only[V]at J;rw[J.1]at q1;cases q1;exact oU m M N O h4 E q2 b2 a4 L.1 L.2.1 L.2.2
       ·cases hd
      ·cases hd
     ·cases hd
    ·rename_i ex;rw[ex]at J;split at hd
     ·rename_i _ _ A Y;obtain⟨aa,M,ac,N,O,h4,h5⟩:=bX C Y;cases hd;exact xD m M N O E J b2 a4 L.1 L.2.1 L.2.2
     ·cases hd
    ·cases hd
   ·cases hd
  ·cases hd
 ·rename_i t D lo hi mx E;split at hd
  ·unfold uP at hd;split at hd
   ·rename_i _ _ B l r q Y hl hr hq;obtain⟨aa,M,ac,N,O,h4,h5⟩:=bX C Y;have b2:=rO I hl;obtain⟨d4,k1,a4⟩:=ml hr (aX I hi);obtain⟨d5,k2,bs⟩:=ml hq (aX I mx);have J:=aX I D;split at hd
    ·rename_i β A xs ex;rw[ex]at J;split at hd
     ·rename_i ax;subst ax;cases hd;exact vk m M N O h4 E J b2 a4 bs L.1 L.2.1 L.2.2.1 L.2.2.2
     ·cases hd
    ·rename_i id ex;rw[ex]at J;split at hd
     ·rename_i A xs a5;split at hd
      ·rename_i ax;subst ax;cases hd;obtain⟨u,q1,q2⟩:=m.ob id _ a5;simp only[V]at J;rw[J.1]at q1;cases q1;exact vk m M N O h4 E q2 b2 a4 bs L.1 L.2.1 L.2.2.1 L.2.2.2
      ·cases hd
     ·cases hd
    ·cases hd
   ·cases hd
  ·unfold Ez at hd;split at hd
   ·rename_i _ _ B r q Y hl hr hq;obtain⟨aa,M,ac,N,O,h4,h5⟩:=bX C Y;obtain⟨d4,k1,a4⟩:=ml hr (aX I hi);obtain⟨d5,k2,bs⟩:=ml hq (aX I mx);have J:=aX I D;have d6:lo=none:=by
     cases lo with
     | none=>rfl
     | some y =>simp only[qA]at hl;split at hl <;> cases hl
    subst d6;split at hd
    ·rename_i A xs u' ed;split at hd
     ·rename_i ax;subst ax;cases hd;obtain⟨c1,rfl,c3⟩:=L;obtain⟨m',hF,hv⟩:=gI m ed;have:=AF (new:=new) m' hn M N O h4 E (hv _ J) (V.mono hF (fun _ _ h=>h) a4) (V.mono hF (fun _ _ h=>h) bs) c1 c3;exact fun K Q d7=>this K Q fun v w' hp=>d7 v w' (aG.after rfl hF hp)
     ·cases hd
    ·cases hd
   ·cases hd
 ·rename_i t D f E;unfold Dk at hd;split at hd
  ·rename_i ti ht;split at hd
   ·rename_i fs hk;split at hd
    ·rename_i off ft hf;split at hd
     ·rename_i id i sz k ex;cases hd;exact pZ m (C.find ht) (aX I D) E hk hf (.inl ⟨_,_,_,_,ex,rfl⟩)
     ·rename_i β cs k ex;cases hd;exact pZ m (C.find ht) (aX I D) E hk hf (.inr ⟨_,_,_,ex,rfl⟩)
     ·cases hd
    ·cases hd
   ·cases hd
  ·cases hd
 ·rename_i t D io E;split at hd
  case h_2=>exact G6 m C (aX I D) (aX I io) E hd L
  rename_i r0 c2;cases hd;revert c2;intro hd;unfold iT at hd;split at hd
  ·rename_i e te A Y;obtain⟨aa,M,ac,N,O,h4,h5⟩:=bX C Y;split at hd
   ·rename_i β k i ei;split at hd
    ·rename_i y sz c' hy;split at hd
     ·rename_i b1;subst b1;cases hd;have hi:=aX I io;rw[ei]at hi;exact yu m M N O (aX I D) hi E hy L
     ·cases hd
    ·cases hd
   ·cases hd
  ·cases hd
 ·rename_i t D io E;unfold CY at hd;split at hd
  ·rename_i ti ht;split at hd
   ·rename_i hk;split at hd
    ·rename_i β str c5 k i ex ei;cases hd;have J:=aX I D;have hi:=aX I io;rw[ex]at J;rw[ei]at hi;exact xx m (C.find ht) hk J hi E L.1 L.2
    ·cases hd
   ·rename_i n e hk;split at hd
    ·rename_i te a9;split at hd
     ·rename_i k d8;split at hd
      ·rename_i cs β k' j ex ei;split at hd
       ·rename_i hn;split at hd
        ·rename_i l hl;cases hd;have J:=aX I D;have hi:=aX I io;rw[ex]at J;rw[ei]at hi;exact yR m (C.find ht) hk (C.find a9) d8 J hl hn hi E L
        ·cases hd
       ·cases hd
      ·cases hd
     ·cases hd
    ·cases hd
   ·cases hd
  ·cases hd
 ·rename_i D i E;unfold xr at hd;split at hd
  ·rename_i cs ex;split at hd
   ·rename_i y hy;cases hd;have J:=aX I D;rw[ex]at J;exact AL m J E hy
   ·cases hd
  ·cases hd
 ·rename_i D xt t ok E;exact BE m E (aX I D) hd L
 ·rename_i fn first cx E
  unfold Gi at hd;split at hd
  ·rename_i f e;cases hd;have e':first = #[]:=Array.ext' e
   subst e';exact yF m E (jF I _)
  ·cases hd
 ·rename_i t lo co E;unfold FN at hd;split at hd
  ·rename_i e te A Y;obtain⟨aa,M,ac,N,O,h4,h5⟩:=bX C Y;split at hd
   ·rename_i β k l c5 k' c' el ec;cases hd;have hl:=aX I lo;have d1:=aX I co;rw[el]at hl;rw[ec]at d1;exact Hu m hn M N O h4 h5 E hl d1 L.1 L.2.1 L.2.2.1 L.2.2.2
   ·cases hd
  ·cases hd
 ·rename_i t E;split at hd
  ·rename_i r b5;cases hd;have hd:=b5;unfold yj at hd;split at hd
   ·rename_i K A c' hm;cases hd;obtain⟨ti,kt,et,te,M,N,O,h5,h6⟩:=nQ C hm L;exact Be m hn O.isKey E
   ·cases hd
  ·unfold uU at hd;split at hd
   ·rename_i K c' hm;cases hd;obtain⟨ti,kt,et,te,M,N,O,h5⟩:=oz C hm L;exact zg m hn O.isKey E
   ·cases hd
 ·rename_i t D ko ok E;split at hd
  ·rename_i r b5;cases hd;have hd:=b5;unfold mZ at hd;split at hd
   ·rename_i K A c' hm;split at hd
    ·rename_i id ex;split at hd
     ·rename_i K1 A1 kv hi;split at hd
      ·rename_i i a6;split at hd
       ·rename_i q;obtain⟨rfl,rfl⟩:=q;cases hd;obtain⟨ti,kt,et,te,M,N,O,h5,h6⟩:=nQ C hm L;have J:=aX I D;have hk:=aX I ko;rw[ex]at J;exact BD m M N O h5 h6 E hi J (gM a6 O.isKey hk)
       ·cases hd
      ·cases hd
     ·cases hd
    ·cases hd
   ·cases hd
  ·unfold lW at hd;split at hd
   ·rename_i K c' hm;split at hd
    ·rename_i id ex;split at hd
     ·rename_i K1 kv hi;split at hd
      ·rename_i i j a6 _;split at hd
       ·rename_i q;obtain⟨rfl,rfl⟩:=q;cases hd;obtain⟨ti,kt,et,te,M,N,O,h5,hz⟩:=oz C hm L.1;have J:=aX I D;have hk:=aX I ko;rw[ex]at J;rw[←wN L.2,hz];exact Al m M N O h5 E hi J (gM a6 O.isKey hk)
       ·cases hd
      ·cases hd
     ·cases hd
    ·cases hd
   ·cases hd
 ·rename_i t D ko X E;split at hd
  ·rename_i r b5;cases hd;have hd:=b5;unfold fN at hd;split at hd
   ·rename_i K A c' hm;split at hd
    ·rename_i id ex;split at hd
     ·rename_i K1 A1 kv hi;split at hd
      ·rename_i i a6;split at hd
       ·rename_i q;obtain⟨rfl,rfl,c6,c7⟩:=q;split at hd
        ·rename_i z us hz;split at hd
         ·rename_i b6;cases hd;obtain⟨ti,kt,et,te,M,N,O,h5,h6⟩:=nQ C hm L;have J:=aX I D;have hk:=aX I ko;rw[ex]at J;exact lY m M N O (.inl E) hi (by rw[w9 b6];exact hi) J (gM a6 O.isKey hk) (aX I X) c6 c7 hz
         ·cases hd
        ·cases hd
       ·cases hd
      ·cases hd
     ·cases hd
    ·cases hd
   ·cases hd
  ·unfold eW at hd;split at hd
   ·rename_i K c' hm;split at hd
    ·rename_i id ex;split at hd
     ·rename_i K1 kv hi;split at hd
      ·rename_i i v a6 c8;split at hd
       ·rename_i q;obtain⟨rfl,q2⟩:=q;cases hd;obtain⟨ti,kt,et,te,M,N,O,h5⟩:=oz C hm L;have J:=aX I D;have hk:=aX I ko;rw[ex]at J;refine oW m M N O (.inl E) hi J (gM a6 O.isKey hk) (uT c8 (aX I X)) (fun p hp e=>?_);have:=List.all_eq_true.1 q2 p hp;rw[(fm O.isKey).2 e]at this;cases this
       ·cases hd
      ·cases hd
     ·cases hd
    ·cases hd
   ·cases hd
 ·rename_i t D ko X E;split at hd
  ·rename_i r b5;cases hd;have hd:=b5;unfold fN at hd;split at hd
   ·rename_i K A c' hm;split at hd
    ·rename_i id ex;split at hd
     ·rename_i K1 A1 kv hi;split at hd
      ·rename_i i a6;split at hd
       ·rename_i q;obtain⟨rfl,rfl,c6,c7⟩:=q;split at hd
        ·rename_i z us hz;split at hd
         ·rename_i b6;cases hd;obtain⟨ti,kt,et,te,M,N,O,h5,h6⟩:=nQ C hm L;have J:=aX I D;have hk:=aX I ko;rw[ex]at J;exact lY m M N O (.inr E) hi (by rw[w9 b6];exact hi) J (gM a6 O.isKey hk) (aX I X) c6 c7 hz
         ·cases hd
        ·cases hd
       ·cases hd
      ·cases hd
     ·cases hd
    ·cases hd
   ·cases hd
  ·unfold eW at hd;split at hd
   ·rename_i K c' hm;split at hd
    ·rename_i id ex;split at hd
     ·rename_i K1 kv hi;split at hd
      ·rename_i i v a6 c8;split at hd
       ·rename_i q;obtain⟨rfl,q2⟩:=q;cases hd;obtain⟨ti,kt,et,te,M,N,O,h5⟩:=oz C hm L;have J:=aX I D;have hk:=aX I ko;rw[ex]at J;refine oW m M N O (.inr E) hi J (gM a6 O.isKey hk) (uT c8 (aX I X)) (fun p hp e=>?_);have:=List.all_eq_true.1 q2 p hp;rw[(fm O.isKey).2 e]at this;cases this
       ·cases hd
      ·cases hd
     ·cases hd
    ·cases hd
   ·cases hd
 ·rename_i c E;obtain⟨callee,args,c9⟩:=c;unfold ql at hd;simp only at hd;split at hd
  ·rename_i b;unfold ri at hd;split at hd
   ·rename_i x0 t ex et;obtain⟨D,a1,rfl⟩:∃D,args = #[D]∧ev s D=x0:=by
     match a2:args.toList,ex with
     | [D],ex=>exact⟨D,Array.ext' a2,by simpa using ex⟩
    have b3:c9 = #[t]:=Array.ext' et;subst a1 b3;split at hd
    ·unfold uL at hd;split at hd
     ·rename_i ti ht;split at hd
      ·rename_i kt et id hk ex;split at hd
       ·rename_i K A kv hi;cases hd;have J:=aX I D;rw[ex]at J;exact Bj m (C.find ht) hk hi J E
       ·cases hd
      ·cases hd
     ·cases hd
    unfold EC at hd;split at hd
    ·rename_i ti ht;split at hd
     ·rename_i k hk;split at hd
      ·rename_i e he;split at hd
       ·cases hd
       ·rename_i a8;cases hd;refine CB m (C.find ht) (.inl ⟨e,he⟩) (aX I D) E hk ⟨fun h=>(by rw[he]at h;cases h),fun⟨β,str,ex⟩=>?_⟩;rw[ex]at a8;exact absurd rfl a8
      ·rename_i he;split at hd
       ·rename_i a8;cases hd;refine CB m (C.find ht) (.inr he) (aX I D) E hk ⟨fun _=>?_,fun _=>he⟩;unfold isStr at a8;split at a8
        ·rename_i β str ex;exact⟨β,str,ex⟩
        ·cases a8
       ·cases hd
      ·cases hd
     ·cases hd
    ·cases hd
   ·rename_i x0 y0 ex;obtain⟨D,X,a1,rfl,rfl⟩:∃D X,args = #[D,X]∧ev s D=x0∧ev s X=y0:=by
     match a2:args.toList,ex with
     | [D,X],ex=>exact⟨D,X,Array.ext' a2,by simp at ex;exact ex.1,by simp at ex;exact ex.2⟩
    subst a1;unfold FB at hd;split at hd
    ·rename_i β k i c5 k' j ex ey;split at hd
     ·rename_i cc;subst cc;cases hd;have J:=aX I D;have hy:=aX I X;rw[ex]at J;rw[ey]at hy;exact IU m J hy E
     ·cases hd
    ·cases hd
   ·rename_i x0 y0 ex;obtain⟨D,X,a1,rfl,rfl⟩:∃D X,args = #[D,X]∧ev s D=x0∧ev s X=y0:=by
     match a2:args.toList,ex with
     | [D,X],ex=>exact⟨D,X,Array.ext' a2,by simp at ex;exact ex.1,by simp at ex;exact ex.2⟩
    subst a1;unfold FB at hd;split at hd
    ·rename_i β k i c5 k' j ex ey;split at hd
     ·rename_i cc;subst cc;cases hd;have J:=aX I D;have hy:=aX I X;rw[ex]at J;rw[ey]at hy;exact HP m J hy E
     ·cases hd
    ·cases hd
   ·rename_i x0 y0 t t' ex et;obtain⟨D,X,a1,rfl,rfl⟩:∃D X,args = #[D,X]∧ev s D=x0∧ev s X=y0:=by
     match a2:args.toList,ex with
     | [D,X],ex=>exact⟨D,X,Array.ext' a2,by simp at ex;exact ex.1,by simp at ex;exact ex.2⟩
    have b3:c9 = #[t,t']:=Array.ext' et;subst a1 b3;split at hd
    ·rename_i d9;subst d9;unfold nH at hd;split at hd
     ·rename_i e te A Y;obtain⟨aa,M,ac,N,O,h4,h5⟩:=bX C Y;split at hd
      ·rename_i ys b4;split at hd
       ·rename_i ex;cases hd;exact vM m hn M N O h4 h5 (aX I D) (aX I X) E (xs:=[]) (.inl ⟨ex,rfl,rfl,rfl⟩) b4 L.1 L.2
       ·rename_i id ex;split at hd
        ·rename_i e' B xs a5;split at hd
         ·rename_i b8;subst b8;split at hd
          ·rename_i de;subst de;simp only[Option.some.injEq,Prod.mk.injEq]at hd;obtain⟨rfl,rfl,rfl⟩:=hd;exact vM m hn M N O h4 h5 (aX I D) (aX I X) E (xs:=xs) (.inr ⟨id,ex,a5,rfl,rfl⟩) b4 L.1 L.2
          ·cases hd
         ·cases hd
        ·rename_i B xs a5;split at hd
         ·rename_i b8;subst b8;simp only[Option.some.injEq,Prod.mk.injEq]at hd;obtain⟨rfl,rfl,rfl⟩:=hd;have J:=aX I D;rw[ex]at J;exact xp m hn M N O h4 h5 J (aX I X) E a5 b4 L.1 L.2.1 L.2.2
         ·cases hd
        ·cases hd
       ·cases hd
      ·cases hd
     ·cases hd
    ·cases hd
   ·rename_i x0 y0 t t' ex et;obtain⟨D,X,a1,rfl,rfl⟩:∃D X,args = #[D,X]∧ev s D=x0∧ev s X=y0:=by
     match a2:args.toList,ex with
     | [D,X],ex=>exact⟨D,X,Array.ext' a2,by simp at ex;exact ex.1,by simp at ex;exact ex.2⟩
    have b3:c9 = #[t,t']:=Array.ext' et;subst a1 b3;unfold sL at hd;split at hd
    ·rename_i e te A Y;obtain⟨aa,M,ac,N,O,h4,h5⟩:=bX C Y;split at hd
     ·rename_i ys b4;split at hd
      ·rename_i id ex;split at hd
       ·rename_i e' B xs a5;split at hd
        ·rename_i b8;subst b8;simp only[Option.some.injEq,Prod.mk.injEq]at hd;obtain⟨rfl,rfl,rfl⟩:=hd;have J:=aX I D;rw[ex]at J;exact Gz m M N O h4 J (aX I X) E a5 b4
        ·cases hd
       ·cases hd
      ·cases hd
     ·cases hd
    ·cases hd
   ·cases hd
  ·rename_i fo;unfold wv at hd;split at hd
   ·rename_i fid cx q ef;split at hd
    ·rename_i ys u' dk;have hf:=yp (aX I fo);rw[ef]at hf;obtain⟨q1,q2,q3⟩:=nR m dk;split at hd
     ·split at hd
      ·split at hd
       ·rename_i b9 hin hl hi;split at hd
        ·rename_i dm;cases hd;have L:fP P fid b9 hin q.r q.hout:=by unfold yB at L;rw[show q.die=none from cl]at L;exact L
         have hg:=H4 (new:=new) q1 ch E (V.mono q2 (fun _ _ h=>h) hf) (q3 _ (jA (jF I args.toList))) hl hi dm L;refine fun K Q hk=>hg K Q fun v w' hp=>hk v w' ?_
         exact aG.after (h:=h) (u1:=u') rfl q2 hp
        ·cases hd
       ·cases hd
      ·cases hd
     ·split at hd
      ·rename_i b9 hl;cases hd;have hg:=G9 (new:=new) q1 E (V.mono q2 (fun _ _ h=>h) hf) (q3 _ (jA (jF I args.toList))) hl L;refine fun K Q hk=>hg K Q fun v w' hp=>hk v w' ?_
       have:=aG.after (h:=h) (u1:=u) rfl q2 hp;simpa using this
      ·cases hd
    ·cases hd
   ·cases hd
  ·cases hd
 ·cases hd
def La:ag→Bool
 | .unk=>true
 | _=>false
def dying(op:Op)(iO:Option xQ):QW :=
 match op,iO with
 | .call c,some q=>match c.callee with
  | .value _=>if q.own && La q.r && q.hout.isEmpty then q.die else none
  | _=>none
 | _,_=>none
theorem Ih(m:Mem Bw w0 ρ φ h w)(L:bT n (Fr (own φ h) Bw w) ρ s a)(E:∀j,j<8→ρ (new+j)=none){o:Oper}{asm:Option Bool}{iO:Option xQ}{y:Value}(e:dying o.op iO=some y){x:ag}{u:hD}{c:Prop}
  (hd:gV P tb new asm iO o.op s h=some (x,u,c)) (A:c):Mx P o a w y (fun I=>∃v,aG Bw w0 ρ φ h w new .unk u v I):=by
 unfold dying at e;split at e
 ·rename_i c0 q M;split at e
  ·rename_i Y B;split at e
   ·rename_i f;simp only[Bool.and_eq_true,List.isEmpty_iff]at f;obtain⟨⟨C,p⟩,hout⟩:=f;obtain⟨callee,args,Z⟩:=c0;simp only at B;subst B;have hr:q.r = .unk:=by
     unfold La at p;split at p
     ·assumption
     ·cases p
    rw[M]at hd;simp only[gV,ql]at hd;unfold wv at hd;split at hd
    ·rename_i fid N q' ef eq;cases eq;split at hd
     ·rename_i ys u' J;have O:=yp (aX L Y);rw[ef]at O;obtain⟨q1,X,q3⟩:=nR m J;rw[if_pos C]at hd;split at hd
      ·split at hd
       ·rename_i z hin hl hi;split at hd
        ·rename_i D;cases hd;rw[hr,hout]at D;have A:j7 P fid z hin y:=by unfold yB at A;rw[e]at A;exact A
         have hg:=Kh (new:=new) q1 E M (V.mono X (fun _ _ h=>h) O) (q3 _ (jA (jF L args.toList))) hl hi D A;refine fun K Q hk=>hg K Q fun I ⟨v,hp⟩=>hk I ⟨v,?_⟩
         rw[hout];exact aG.after (h:=h) (u1:=u') rfl X hp
        ·cases hd
       ·cases hd
      ·cases hd
     ·cases hd
    ·cases hd
   ·cases e
  ·cases e
 ·cases e
end
end Go.Tv
