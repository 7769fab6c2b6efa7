/- What an operation comes to, by a function. -/
import Derived.Test.YtmcemnfjddoejaaGreatDoorTvKhm
namespace Go.Tv
open Go Go.RowKit
def qd(s:Nat→ag):Option Operand→Option (Option Int)
 | none=>some none
 | some x=>match ev s x with
  | .p _ (.int _) n=>some (some n)
  | _=>none
def gU(tb:bR)(t:TypeId):Option (TypeId×TI×Ty) :=
 match tb.find t with
 | some ti=>match ti.k with
  | .sl e=>match tb.find e with
   | some c=>match c.T with
    | some A=>if 0<A.size then some (e,c,A)else none
    | none=>none
   | none=>none
  | _=>none
 | none=>none
def Bc(tb:bR)(new:Nat)(t:TypeId):Option Out :=
 match tb.find t with
 | some ti=>some (.adr new 0 ti.size 0,[(new,some (.box ti.z))],True)
 | none=>none
def HU(new:Nat)(x:ag):Option Out :=
 if(cellsOf x).all ag.cell then some (.adr new 0 (cellsOf x).length 0,[(new,some (.box (cellsOf x)))],True)else none
def pa(tb:bR)(t:TypeId)(f:List Nat)(xs:List ag):Option Out :=
 match tb.find t with
 | some ti=>match ti.k with
  | .st j=>match parts tb j (f.zip xs) ti.z with
   | some c=>some (.agg c,[],True)
   | none=>none
  | .ar n e=>match tb.find e with
   | some m=>match parts tb ((List.range n).map fun i=>(i*m.size,e)) (f.zip xs) ti.z with
    | some c=>some (.agg c,[],True)
    | none=>none
   | none=>none
  | _=>none
 | none=>none
def mg(tb:bR)(new:Nat)(t:TypeId)(len:Nat)(c:List Nat)(xs:List ag)(h:Nat→Option Obj):Option Out :=
 match gU tb t with
 | some (e,j,A) =>
  if c=List.range len∧xs.all ag.D4=true∧len*j.size≤16777216 then
   match BT A h xs with
   | some (k,m)=>some (.sl new,m++[(new,some (.arr e A k))],True)
   | none=>none
  else none
 | none=>none
def mF(ti:TI)(x:ag)(h:Nat→Option Obj):Option Out :=
 match x,ti.k with
 | .ada id b n i,.int k=>match h id with
  | some (.box c)=>if b+n≤c.length then(match sX k ((c.drop b).take n)with
   | some l=>some (.p false (.int k) (l.getD i 0),[],True)
   | none=>none)else none
  | _=>none
 | _,_=>none
def kJ(ti:TI)(x y:ag)(h:Nat→Option Obj):Option Out :=
 match x,y with
 | .ada id b n i,.p _ (.int k) v=>match h id with
  | some (.box c)=>if b+n≤c.length∧ti.size=1 then(match sX k ((c.drop b).take n)with
   | some l=>some (.unk,[(id,some (.box (c.take b++wj k i v 0 l++c.drop (b+n))))],True)
   | none=>none)else none
  | _=>none
 | _,_=>none
def kH(tb:bR)(t:TypeId)(x i:ag)(h:Nat→Option Obj):Option Out :=
 match tb.find t with
 | some ti=>match ti.k with
  | .ar n e=>match tb.find e with
   | some c=>if c.size=1 then(match x,i with
    | .adr id j sz off,.p _ (.int _) m=>match h id with
     | some (.box _)=>some (.ada id (j*sz+off) n (show Int from m).toNat,[],0≤(show Int from m)∧(show Int from m)<(n:Int))
     | _=>none
    | .ada id b N p,.p _ (.int _) m=>some (.ada id b N (p+(show Int from m).toNat),[],(0≤(show Int from m)∧(show Int from m)<(n:Int))∧p+(show Int from m).toNat<N)
    | _,_=>none)else if 0<c.size then(match x,i with
    | .adr id j sz off,.p _ (.int _) m=>match h id with
     | some (.box _)=>some (.ada id (j*sz+off) (n*c.size) ((show Int from m).toNat*c.size),[],0≤(show Int from m)∧(show Int from m)<(n:Int))
     | _=>none
    | _,_=>none)else none
   | none=>none
  | _=>none
 | none=>none
def lV(new:Nat)(ti:TI)(x:ag)(h:Nat→Option Obj):Option Out :=
 match x with
 | .adr id i sz off=>if sz=1∧off=0∧ti.k.agg=false then
   match h id with
   | some (.mat e m A c none)=>some (.sl new,[(id,some (.mat e m A c (some (i,new)))),(new,some (.arr m A (c.getD i [])))],i<c.length)
   | some (.mat e m A c (some (k,j)))=>match h j with
    | some (.arr u B p)=>if q:B=A then(if u=m then
      some (.sl new,[(j,none),(id,some (.mat e m A (c.set k (q ▸ p:List A.den)) none))]++[(id,some (.mat e m A (c.set k (q ▸ p:List A.den)) (some (i,new)))),(new,some (.arr m A ((c.set k (q ▸ p:List A.den)).getD i [])))],i<c.length)else none)else none
    | _=>none
   | _=>none
  else none
 | _=>none
def Ao(tb:bR)(new:Nat)(t:TypeId)(x:ag)(h:Nat→Option Obj):Option Out :=
 match tb.find t with
 | some ti=>match kE h x with
  | some (e,off,c)=>match dV ti e off with
   | some y=>some (y,[],c)
   | none=>none
  | none=>match mF ti x h with
   | some r=>some r
   | none=>lV new ti x h
 | none=>none
def ua(id i:Nat)(e f:TypeId)(A:Ty)(c:List (List A.den))(hole:Option (Nat×Nat))(y:ag)(h:Nat→Option Obj):Option Out :=
 match y with
 | .sl r=>match h r with
  | some (.arr p B _)=>if B=A∧p=f then
    match hole with
    | none=>some (.unk,[(id,some (.mat e f A c (some (i,r))))],i<c.length)
    | some (k,j)=>match h j with
     | none=>some (.unk,[(id,some (.mat e f A c (some (i,r))))],k=i∧i<c.length)
     | some (.arr u C m)=>if q:C=A then(if u=f∧j≠r then
       some (.unk,[(j,none),(id,some (.mat e f A (c.set k (q ▸ m:List A.den)) none))]++[(id,some (.mat e f A (c.set k (q ▸ m:List A.den)) (some (i,r))))],i<c.length)else none)else none
     | _=>none
   else none
  | _=>none
 | _=>none
def pA(tb:bR)(t:TypeId)(x y:ag)(h:Nat→Option Obj):Option Out :=
 match tb.find t with
 | some ti =>
  if(cellsOf y).all ag.cell=true∧(cellsOf y).length=ti.size then
   match x with
   | .adr id i sz off=>match h id with
    | some (.box c)=>if i*sz+off+ti.size≤c.length then some (.unk,[(id,some (.box (wr c (i*sz+off) (cellsOf y))))],True)else none
    | some (.arr e A xs) =>
     if sz=A.size∧off+ti.size≤A.size then
      match BW A h xs i off y with
      | some (z,f)=>if f.all (fun p=>p.1 != id)then some (.unk,f++[(id,some (.arr e A (xs.set i z)))],i<xs.length)else none
      | none=>none
     else none
    | some (.mat e e2 A xss hole)=>if sz=1∧off=0 then ua id i e e2 A xss hole y h else none
    | some (.bytes e xs)=>if sz=1∧off=0∧ti.size=1 then(match y with
     | .p _ (.int .u8) v=>some (.unk,[(id,some (.bytes e (xs.set i v)))],i<xs.length)
     | _=>none)else none
    | _=>none
   | _=>kJ ti x y h
  else none
 | none=>none
def Gl(x:ag):Option Out :=
 match x with
 | .adr id i sz off=>some (.adr id i sz off,[],True)
 | .fad β c off=>some (.fad β c off,[],True)
 | .p β (.ptr A) q=>some (.fad β (flat β A (q.getD A.zero)) 0,[],q.isSome=true)
 | _=>none
def zO:ag→Option Bool
 | .nilp=>some true
 | .adr _ _ _ _=>some false
 | .fad _ _ _=>some false
 | _=>none
def IJ(op:BinOp)(b:Bool):Option ag :=
 match op with
 | .eql=>some (.p false .bool b)
 | .neq=>some (.p false .bool (!b))
 | _=>none
def HP(P:Program)(ti:TI)(op:BinOp)(t:TypeId)(x y:ag):Option Out :=
 match x,y with
 | .agg c,.agg f=>match ti.T with
  | some T=>match ic T c,ic T f with
   | some (a,[]),some (b,[])=>match IJ op (Hd T a b)with
    | some r=>some (r,[],HY P t T)
    | none=>none
   | _,_=>none
  | none=>none
 | .p _ (.ptr _) q,.nilp=>match IJ op q.isNone with
  | some r=>some (r,[],∃e,P.underlying t=some (.pointer e))
  | none=>none
 | x,y=>match zO x,zO y with
  | some true,some b=>match IJ op b with
   | some r=>some (r,[],∃e,P.underlying t=some (.pointer e))
   | none=>none
  | some false,some true=>match IJ op false with
   | some r=>some (r,[],∃e,P.underlying t=some (.pointer e))
   | none=>none
  | _,_=>match x,y with
   | .lit (.iface _ _),.lit .nilIface=>match IJ op false with
    | some r=>some (r,[],∃j,P.underlying t=some (.interface j))
    | none=>none
   | _,_=>none
def ug(P:Program)(x:ag)(c:TypeId)(ok:Bool):Option Out :=
 match x with
 | .lit (.iface t v)=>if t=c∧ok=true then some (.tup [zU v,.p false .bool true],[],∃d,P.underlying c=some d∧(match d with | .interface _=>false | _=>true)=true)else none
 | _=>none
def Gr(P:Program)(tb:bR)(op:BinOp)(t:TypeId)(x y:ag):Option Out :=
 match tb.find t with
 | some ti=>match bin ti.k op x y with
  | some (r,c)=>some (r,[],c)
  | none=>HP P ti op t x y
 | none=>none
def Jk(op:UnOp)(x:ag):Option Out :=
 match un op x with
 | some r=>some (r,[],True)
 | none=>none
def FH(tb:bR)(k:TK):Bool :=
 match k with
 | .sl e=>match tb.find e with
  | some c=>match c.k with
   | .int .u8=>true
   | _=>false
  | none=>false
 | _=>true
def Ga(tb:bR)(c:TK)(x:ag):Option ag :=
 match x with
 | .p _ .str l=>match c with
  | .sl e=>if FH tb (.sl e)then some (.p false (.slice (.int .u8)) (cb l))else none
  | _=>none
 | .p _ (.int _) n=>match c with
  | .str=>some (.p false .str (HT n))
  | _=>none
 | _=>none
def zQ(tb:bR)(st j:TypeId)(x:ag)(h:Nat→Option Obj):Option Out :=
 match tb.find st with
 | some c=>match tb.find j with
  | some e=>match Ga tb e.k x with
   | some r=>some (r,[],True)
   | none=>if FH tb c.k then(match conv c.k e.k h x with
    | some r=>some (r,[],True)
    | none=>none)else none
  | none=>none
 | none=>none
def AH(tb:bR)(new:Nat)(st c:TypeId)(x:ag):Option Out :=
 match tb.find st with
 | some _=>match tb.find c with
  | some f=>match x with
   | .p _ .str l=>match f.k with
    | .sl e=>if FH tb (.sl e)then some (.sl new,[(new,some (.bytes e (cb l)))],True)else none
    | _=>none
   | _=>none
  | none=>none
 | none=>none
def pj(tb:bR)(new:Nat)(t:TypeId)(x:ag)(c hi:Option (Option Int))(h:Nat→Option Obj):Option Out :=
 match tb.find t with
 | some ti=>match c,hi with
  | some l,some r=>match x with
   | .p _ .str s=>match ti.k with
    | .str=>some (.p false .str ((s.take (r.getD s.length).toNat).drop (l.getD 0).toNat),[],0≤l.getD 0∧l.getD 0≤r.getD s.length∧r.getD s.length≤s.length)
    | _=>none
   | .p β (.slice A) xs=>match gU tb t with
    | some (_,_,B)=>if A=B then some (.p β (.slice A) ((xs.take (r.getD xs.length).toNat).drop (l.getD 0).toNat),[],0≤l.getD 0∧l.getD 0≤r.getD xs.length∧r.getD xs.length≤xs.length)else none
    | none=>none
   | .sl id=>match h id with
    | some (.arr e A xs)=>match gU tb t with
     | some (_,_,_)=>match l,r with
      | none,some k=>some (.sl new,[(id,none),(new,some (.arr e A (xs.take k.toNat)))],0≤k∧k≤xs.length)
      | _,_=>none
     | none=>none
    | some (.fz A xs)=>match gU tb t with
     | some (_,_,B)=>if A=B then some (.p false (.slice A) ((xs.take (r.getD xs.length).toNat).drop (l.getD 0).toNat),[],0≤l.getD 0∧l.getD 0≤r.getD xs.length∧r.getD xs.length≤xs.length)else none
     | none=>none
    | _=>none
   | .nils=>match gU tb t with
    | some (_,_,_)=>some (.nils,[],0≤l.getD 0∧l.getD 0≤r.getD 0∧r.getD 0≤0)
    | none=>none
   | _=>none
  | _,_=>none
 | none=>none
def intOf:ag→Option Int
 | .p _ (.int _) n=>some n
 | _=>none
def tJ(tb:bR)(t:TypeId)(x:ag)(c:Option (Option Int))(hi e:ag)(h:Nat→Option Obj):Option Out :=
 match gU tb t,c,intOf hi,intOf e with
 | some (_,_,B),some l,some r,some q=>match x with
  | .p β (.slice A) xs=>if A=B then some (.p β (.slice A) ((xs.take r.toNat).drop (l.getD 0).toNat),[],0≤l.getD 0∧l.getD 0≤r∧r≤q∧q≤xs.length)else none
  | .sl id=>match h id with
   | some (.fz A xs)=>if A=B then some (.p false (.slice A) ((xs.take r.toNat).drop (l.getD 0).toNat),[],0≤l.getD 0∧l.getD 0≤r∧r≤q∧q≤xs.length)else none
   | _=>none
  | _=>none
 | _,_,_,_=>none
def CS(tb:bR)(new:Nat)(t:TypeId)(x:ag)(c:Option (Option Int))(hi e:ag)(h:Nat→Option Obj):Option Out :=
 match gU tb t,c,intOf hi,intOf e with
 | some (_,_,B),some none,some r,some q=>match eW h x with
  | some (.p false (.slice A) xs,u)=>if A=B then some (.sl new,u++[(new,some (.cutz A (xs.take r.toNat)))],0≤r∧r=q∧r≤xs.length)else none
  | _=>none
 | _,_,_,_=>none
def BV(tb:bR)(t:TypeId)(x:ag)(f:Nat):Option Out :=
 match tb.find t with
 | some ti=>match ti.k with
  | .st c=>match c[f]? with
   | some (off,_)=>match x with
    | .adr id i sz k=>some (.adr id i sz (k+off),[],True)
    | .fad β e k=>some (.fad β e (k+off),[],True)
    | _=>none
   | none=>none
  | _=>none
 | none=>none
def iH(tb:bR)(t:TypeId)(x i:ag)(h:Nat→Option Obj):Option Out :=
 match gU tb t with
 | some (_,e,_)=>match i with
  | .p _ (.int _) n=>match ze h x n with
   | some (y,sz,c)=>if sz=e.size then some (y,[],c)else none
   | none=>none
  | _=>none
 | none=>none
def A4(tb:bR)(t:TypeId)(x i:ag):Option Out :=
 match tb.find t with
 | some ti=>match ti.k with
  | .str=>match x,i with
   | .p _ .str s,.p _ (.int _) n=>some (.p false (.int .u8) ((s.getD n.toNat 0).toNat:Int),[],0≤n∧n<s.length)
   | _,_=>none
  | .ar n e=>match tb.find e with
   | some f=>match f.k with
    | .int k=>match x,i with
     | .agg c,.p _ (.int _) m=>if c.length=n then(match sX k c with
      | some l=>some (.p false (.int k) (l.getD (show Int from m).toNat 0),[],0≤(show Int from m)∧(show Int from m)<(n:Int))
      | none=>none)else none
     | _,_=>none
    | _=>none
   | none=>none
  | _=>none
 | none=>none
def xL(x:ag)(i:Nat):Option Out :=
 match x with
 | .tup c=>match c[i]? with
  | some y=>some (y,[],True)
  | none=>none
 | _=>none
def G0(e:TypeId)(c:TI)(A:Ty)(n:Nat):Obj :=
 match A with
 | .slice B=>match c.k,c.z with
  | .sl f,[.nils]=>if 0<B.size then .mat e f B (List.replicate n []) none else .arr e (.slice B) (List.replicate n [])
  | _,_=> .arr e (.slice B) (List.replicate n [])
 | A=> .arr e A (List.replicate n A.zero)
def En(tb:bR)(new:Nat)(t:TypeId)(l c:ag):Option Out :=
 match gU tb t with
 | some (e,f,A)=>match l,c with
  | .p _ (.int _) n,.p _ (.int _) k=>some (.sl new,[(new,some (G0 e f A n.toNat))],0≤n∧n≤k∧(f.bytes:Int)*k≤281474976710656∧k≤9223372036854775807)
  | _,_=>none
 | none=>none
def isStr:ag→Bool
 | .p _ .str _=>true
 | _=>false
def Dq(tb:bR)(t:TypeId)(x:ag)(h:Nat→Option Obj):Option Out :=
 match tb.find t with
 | some ti=>match lenOf h x with
  | some n=>match ti.k with
   | .sl _=>if isStr x then none else some (.p false (.int .i64) n,[],True)
   | .str=>if isStr x then some (.p false (.int .i64) n,[],True)else none
   | _=>none
  | none=>none
 | none=>none
def mB(tb:bR)(new:Nat)(t:TypeId)(x y:ag)(h:Nat→Option Obj):Option Out :=
 match gU tb t with
 | some (e,f,A)=>match dS h A y with
  | some c=>match x with
   | .nils=>some (.sl new,[(new,some (.arr e A c))],(([]:List A.den).length+c.length)*f.bytes≤140737488355328∧([]:List A.den).length+c.length≤9223372036854775807)
   | .sl id=>match h id with
    | some (.arr j B xs)=>if q:B=A then(if j=e then some (.sl new,[(id,none),(new,some (.arr e A ((q ▸ xs:List A.den)++c)))],((q ▸ xs:List A.den).length+c.length)*f.bytes≤140737488355328∧(q ▸ xs:List A.den).length+c.length≤9223372036854775807)else none)else none
    | some (.cutz B xs)=>if q:B=A then some (.sl new,[(new,some (.arr e A ((q ▸ xs:List A.den)++c)))],0<c.length∧((q ▸ xs:List A.den).length+c.length)*f.bytes≤140737488355328∧(q ▸ xs:List A.den).length+c.length≤9223372036854775807)else none
    | _=>none
   | _=>none
  | none=>none
 | none=>none
def sa(tb:bR)(t:TypeId)(x y:ag)(h:Nat→Option Obj):Option Out :=
 match gU tb t with
 | some (_,_,A)=>match dS h A y with
  | some c=>match x with
   | .sl id=>match h id with
    | some (.arr e B xs)=>if q:B=A then some (.p false (.int .i64) ((min c.length (q ▸ xs:List A.den).length:Nat):Int),[(id,some (.arr e A (c.take (q ▸ xs:List A.den).length++(q ▸ xs:List A.den).drop c.length)))],True)else none
    | _=>none
   | _=>none
  | none=>none
 | none=>none
def IX(P:Program)(e:TypeId)(c:TI):Option (Ty×Prop) :=
 match IA c.k with
 | some K=>some (K,True)
 | none=>match c.T with
  | some K=>if K.scalar=false then some (K,fP P e K)else none
  | none=>none
def Gi(P:Program)(tb:bR)(t:TypeId):Option (Ty×Ty×Prop) :=
 match tb.find t with
 | some ti=>match ti.k with
  | .mp e f=>match tb.find e,tb.find f with
   | some j,some m=>match IX P e j,m.T with
    | some (K,c),some A=>some (K,A,c)
    | _,_=>none
   | _,_=>none
  | _=>none
 | none=>none
def tx(K:Ty)(x:ag):Option K.den :=
 match x with
 | .p _ e i=>if q:e=K then(if K.scalar=true then some (q ▸ i)else none)else none
 | .agg c=>if K.scalar=false∧c.length=K.size then match ic K c with
  | some (k,_)=>some k
  | none=>none
  else none
 | .lag k n f []=>if q:Ty.arr k n=K then some (q ▸ (show(Ty.arr k n).den from f))else none
 | _=>none
def xu(P:Program)(tb:bR)(new:Nat)(t:TypeId):Option Out :=
 match Gi P tb t with
 | some (K,A,c)=>some (.mp new,[(new,some (.mpo K A []))],c)
 | none=>none
def mL(P:Program)(tb:bR)(t:TypeId)(x k:ag)(ok:Bool)(h:Nat→Option Obj):Option Out :=
 match Gi P tb t with
 | some (K,A,c)=>match x with
  | .mp id=>match h id with
   | some (.mpo e f j)=>match tx e k with
    | some i=>if e=K∧f=A then
     some (if ok then .tup [enc false f ((bc e j i).getD f.zero),.p false .bool (bc e j i).isSome]else enc false f ((bc e j i).getD f.zero),[],c)else none
    | none=>none
   | _=>none
  | _=>none
 | none=>none
def eV(P:Program)(tb:bR)(t:TypeId)(x k y:ag)(h:Nat→Option Obj):Option Out :=
 match Gi P tb t with
 | some (K,A,c)=>match x with
  | .mp id=>match h id with
   | some (.mpo e f m)=>match tx e k with
    | some i=>if e=K∧f=A∧(cellsOf y).all ag.cell=true∧kB f y=true then
     match F5 f h y with
     | some (z,j)=>if j.all (fun p=>p.1 != id)then some (.unk,j++[(id,some (.mpo e f (dN e m i z)))],c)else none
     | none=>none
     else none
    | none=>none
   | _=>none
  | _=>none
 | none=>none
def GS(P:Program)(tb:bR)(t:TypeId):Option (Ty×Prop) :=
 match tb.find t with
 | some ti=>match ti.k with
  | .mp c e=>match tb.find c,tb.find e with
   | some f,some j=>match j.T with
    | none=>IX P c f
    | some _=>none
   | _,_=>none
  | _=>none
 | none=>none
def J2(tb:bR)(t:TypeId):ag :=
 match tb.find t with
 | some ti=>match ti.k with
  | .mp _ c=>match tb.find c with
   | some e=>zV e
   | none=> .unk
  | _=> .unk
 | none=> .unk
def uT(P:Program)(tb:bR)(new:Nat)(t:TypeId):Option Out :=
 match GS P tb t with
 | some (K,c)=>some (.mp new,[(new,some (.mpl K []))],c)
 | none=>none
def valOf:ag→Option Value
 | .lit v=>some v
 | .fn f []=>some (.func (.func f) #[] #[])
 | .agg [.fn f []]=>some (.agg #[.func (.func f) #[] #[]])
 | _=>none
def ee(P:Program)(tb:bR)(t:TypeId)(x k y:ag)(h:Nat→Option Obj):Option Out :=
 match GS P tb t with
 | some (K,c)=>match x with
  | .mp id=>match h id with
   | some (.mpl e f)=>match tx e k,valOf y with
    | some i,some v=>if e=K∧f.all (fun p=> !cq e p.1 i)=true then some (.unk,[(id,some (.mpl e (f++[(i,v)])))],c)else none
    | _,_=>none
   | _=>none
  | _=>none
 | none=>none
def ln(P:Program)(tb:bR)(t:TypeId)(g:List Nat)(x k:ag)(ok:Bool)(h:Nat→Option Obj):Option Out :=
 match GS P tb t with
 | some (K,c)=>match x with
  | .mp id=>match h id with
   | some (.mpl e f)=>match tx e k,g with
    | some i,[j]=>if e=K∧ok=true then some (Eh (J2 tb t) ((f[j]?).map (·.2)),[],c∧jQ e f i j)else none
    | _,_=>none
   | _=>none
  | _=>none
 | none=>none
def uf(tb:bR)(t:TypeId)(x:ag)(h:Nat→Option Obj):Option Out :=
 match tb.find t with
 | some ti=>match ti.k,x with
  | .mp _ _,.mp id=>match h id with
   | some (.mpo _ _ c)=>some (.p false (.int .i64) (c.length:Int),[],True)
   | _=>none
  | _,_=>none
 | none=>none
def EB(b:Bool)(x y:ag):Option Out :=
 match x,y with
 | .p _ (.int k) i,.p _ (.int c) j=>if c=k then some (.p false (.int k) (if b then max (show Int from i) j else min (show Int from i) j),[],True)else none
 | _,_=>none
def LC:ag→Bool
 | .mp _=>true
 | _=>false
def Ak:Ty→List Ty
 | .unit=>[]
 | .prod a b=>Ak a++Ak b
 | .tree c e=>[.int c,.int e,.slice (.tree c e)]
 | T=>[T]
def tW:Ty→ag→ag
 | .slice A,.nils=> .p false (.slice A) []
 | .ptr A,.nilp=> .p false (.ptr A) none
 | _,x=>x
def lM:List Ty→List ag→List ag
 | T::Ts,c::cs=>tW T c::lM Ts cs
 | _,cs=>cs
def D5(T:Ty):ag→ag
 | .agg c=> .agg (lM (Ak T) c)
 | x=>tW T x
def wv(tb:bR)(t:TypeId)(x:ag):ag :=
 match tb.find t with
 | some ti=>match ti.T with
  | some T=>D5 T x
  | none=>x
 | none=>x
def gN(tb:bR):List Bool→List TypeId→List ag→List ag
 | true::bs,t::ts,x::xs=>wv tb t x::gN tb bs ts xs
 | false::bs,_::ts,x::xs=>x::gN tb bs ts xs
 | _,_,xs=>xs
section
variable{P:Program}{Bw:Nat→Prop}{w0:b9 P}{ρ:Nat→Option Value}{φ:Nat→Nat→Prop}{h:Nat→Option Obj}{w:World}{new:Nat}
theorem Hq(m:Mem Bw w0 ρ φ h w){o:Oper}{a:Act}{t:TypeId}{ti:TI}(j:aQ P t ti){f:Operand}{x:ag}(p:V (Fr (own φ h) Bw w) ρ x (a.eval f))(q:o.op = .load t f)
  {r:ag} {u:hZ} {c:Prop} (e:mF ti x h=some (r,u,c)):Good P o a w (aE Bw w0 ρ φ h w new r u):=by
 unfold mF at e;split at e
 ·rename_i id b n i k z;split at e
  ·rename_i C hb;split at e
   ·rename_i B;split at e
    ·rename_i l hl;cases e;exact Aj m j z p q hb hl B
    ·cases e
   ·cases e
  ·cases e
 ·cases e
theorem HB(m:Mem Bw w0 ρ φ h w){o:Oper}{a:Act}{t:TypeId}{ti:TI}(q:aQ P t ti){f j:Operand}{x y:ag}(z:V (Fr (own φ h) Bw w) ρ x (a.eval f))(B:V (Fr (own φ h) Bw w) ρ y (a.eval j))(C:o.op = .store t f j)
  {r:ag} {u:hZ} {c:Prop} (e:kJ ti x y h=some (r,u,c)):Good P o a w (aE Bw w0 ρ φ h w new r u):=by
 unfold kJ at e;split at e
 ·rename_i id b n i β k v;split at e
  ·rename_i D hb;split at e
   ·rename_i p;split at e
    ·rename_i l hl;cases e;exact yB m q p.2 z B C hb hl p.1
    ·cases e
   ·cases e
  ·cases e
 ·cases e
theorem Fw{tb:bR}(m:Mem Bw w0 ρ φ h w)(q:bS P tb){o:Oper}{a:Act}{t:TypeId}{L io:Operand}{x i:ag}(C:V (Fr (own φ h) Bw w) ρ x (a.eval L))(hi:V (Fr (own φ h) Bw w) ρ i (a.eval io))(D:o.op = .indexAddr t L io)
  {r:ag} {u:hZ} {c:Prop} (f:kH tb t x i h=some (r,u,c)) (E:c):Good P o a w (aE Bw w0 ρ φ h w new r u):=by
 unfold kH at f;split at f
 ·rename_i ti I;split at f
  ·rename_i n e J;split at f
   ·rename_i R B;split at f
    ·rename_i z;split at f
     ·rename_i id j sz off β k M;split at f
      ·rename_i O hb;cases f;exact yL m (q.find I) J (q.find B) z C hb hi D E
      ·cases f
     ·rename_i id b N p β k M;cases f;exact vR m (q.find I) J (q.find B) z C hi D E
     ·cases f
    ·split at f
     ·rename_i z;split at f
      ·rename_i id j sz off β k M;split at f
       ·rename_i O hb;cases f;exact xB m (q.find I) J (q.find B) z C hb hi D E
       ·cases f
      ·cases f
     ·cases f
   ·cases f
  ·cases f
 ·cases f
theorem FK(m:Mem Bw w0 ρ φ h w)(D:ρ new=none){o:Oper}{a:Act}{t:TypeId}{ti:TI}(E:aQ P t ti){I:Operand}{x:ag}(J:V (Fr (own φ h) Bw w) ρ x (a.eval I))(L:o.op = .load t I)
  {r:ag} {u:hZ} {c:Prop} (f:lV new ti x h=some (r,u,c)) (M:c):Good P o a w (aE Bw w0 ρ φ h w new r u):=by
 unfold lV at f;split at f
 ·rename_i id i sz off;split at f
  ·rename_i p;obtain⟨rfl,rfl,N⟩:=p;split at f
   ·rename_i e R A z hi;cases f;exact sd m D E N J L hi M
   ·rename_i e R A z k j hi;split at f
    ·rename_i e3 B ys X;split at f
     ·rename_i q;subst q;split at f
      ·rename_i Y;subst Y;simp only[Option.some.injEq,Prod.mk.injEq]at f;obtain⟨rfl,rfl,rfl⟩:=f;obtain⟨Z,O⟩:=m.xI hi X;have hg:=sd (new:=new) Z D E N (V.mono O (fun _ _ h=>h) J) L (aw _ _ _) (i:=i) (by rw[List.length_set];exact M);exact fun K Q C=>hg K Q fun v w' hp=>C v w' (aE.Gj rfl O hp)
      ·cases f
     ·cases f
    ·cases f
   ·cases f
  ·cases f
 ·cases f
theorem HX(m:Mem Bw w0 ρ φ h w){o:Oper}{a:Act}{t:TypeId}{ti:TI}(B:aQ P t ti){N O:Operand}{id i:Nat}(D:V (Fr (own φ h) Bw w) ρ (.adr id i 1 0) (a.eval N)){y:ag}(E:V (Fr (own φ h) Bw w) ρ y (a.eval O))(I:(cellsOf y).length=ti.size)
  (J:o.op = .store t N O) {e R:TypeId} {A:Ty} {x:List (List A.den)} {hole:Option (Nat×Nat)} (hi:h id=some (.mat e R A x hole)) {r:ag} {u:hZ} {c:Prop} (f:ua id i e R A x hole y h=some (r,u,c)) (z:c) :
  Good P o a w (aE Bw w0 ρ φ h w new r u):=by
 unfold ua at f;split at f
 ·rename_i rr;have p:ti.size=1:=I.symm;split at f
  ·split at f
   ·split at f
    ·cases f;exact o8 m B p D E J hi z (fun k j e=>by cases e)
    ·rename_i k j;split at f
     ·cases f;exact o8 m B p D E J hi z.2 (fun k' j' e=>by cases e;exact z.1)
     ·rename_i e4 C ys X;split at f
      ·rename_i q;subst q;split at f
       ·rename_i Y;obtain⟨rfl,_⟩:=Y;simp only[Option.some.injEq,Prod.mk.injEq]at f;obtain⟨rfl,rfl,rfl⟩:=f;obtain⟨Z,L⟩:=m.xI hi X;have hg:=o8 (new:=new) Z B p (V.mono L (fun _ _ h=>h) D) (V.mono L (fun _ _ h=>h) E) J (aw _ _ _) (i:=i) (by rw[List.length_set];exact z) (fun k j e=>by cases e);exact fun K Q M=>hg K Q fun v w' hp=>M v w' (aE.Gj rfl L hp)
       ·cases f
      ·cases f
     ·cases f
   ·cases f
  ·cases f
 ·cases f
theorem F4(m:Mem Bw w0 ρ φ h w)(u:ρ new=none){o:Oper}{a:Act}{t e:TypeId}{ti j:TI}(x:aQ P t ti)(z:ti.k = .sl e)(f:aQ P e j){A:Ty}(hT:j.T=some A)(N:0<A.size)
  {C co:Operand} (D:o.op = .makeSlice t C co) {β q:Bool} {O R:IntKind} {l c:Int} (hl:V (Fr (own φ h) Bw w) ρ (.p β (.int O) l) (a.eval C)) (E:V (Fr (own φ h) Bw w) ρ (.p q (.int R) c) (a.eval co))
  (I:0≤l) (J:l≤c) (L:(j.bytes:Int)*c≤281474976710656) (M:c≤9223372036854775807) :
  Good P o a w (aE Bw w0 ρ φ h w new (.sl new) [(new,some (G0 e j A l.toNat))]):=by
 have key:=wQ (new:=new) m u x z f hT N D hl E I J L M;unfold G0;split
 ·rename_i B;split
  ·rename_i Y X hz;split
   ·rename_i hB;exact Ab m u x z f hT hz hB D hl E I J L M
   ·exact key
  ·exact key
 ·exact key
end
theorem CA{F:Bool→Addr→Value→Prop}{ρ:Nat→Option Value}{T:Ty}{x:ag}{v:Value}(h:V F ρ x v):V F ρ (tW T x) v:=by
 unfold tW;split
 ·simp only[V]at h ⊢;exact⟨rfl,none,0,0,h.symm,⟨rfl,Nat.le_refl _⟩,fun i hi=>absurd hi (by simp)⟩
 ·simp only[V]at h ⊢;exact⟨rfl,h.symm⟩
 ·exact h
theorem vN{T:Ty}{x:ag}:ids (tW T x)=ids x:=by
 unfold tW;split <;> simp[ids]
theorem wT{F:Bool→Addr→Value→Prop}{ρ:Nat→Option Value}:∀ {Ts:List Ty} {e:List ag} {g:Nat→Value→Prop},VL F ρ e g→VL F ρ (lM Ts e) g
 | [],e,g,h=>by cases e <;> exact h
 | T::Ts,[],g,h=>h
 | T::Ts,c::e,g,h=>by
  simp only[lM,VL]at h ⊢;obtain⟨⟨u,f,j⟩,k⟩:=h;exact⟨⟨u,f,CA j⟩,wT k⟩
theorem pk:∀ {Ts:List Ty} {cs:List ag},(lM Ts cs).length=cs.length
 | [],cs=>by cases cs <;> rfl
 | T::Ts,[]=>rfl
 | T::Ts,c::cs=>by simp[lM,pk (Ts:=Ts) (cs:=cs)]
theorem uR:∀ {Ts:List Ty} {cs:List ag},bm (lM Ts cs)=bm cs
 | [],cs=>by cases cs <;> rfl
 | T::Ts,[]=>rfl
 | T::Ts,c::cs=>by simp[lM,bm,vN,uR (Ts:=Ts) (cs:=cs)]
theorem Hn{tb:bR}{t:TypeId}{F:Bool→Addr→Value→Prop}{ρ:Nat→Option Value}{x:ag}{v:Value}(h:V F ρ x v):V F ρ (wv tb t x) v:=by
 unfold wv;split
 ·split
  ·unfold D5;split
   ·simp only[V]at h ⊢;obtain⟨c,e,f,hl⟩:=h;exact⟨c,e,by rw[pk];exact f,wT hl⟩
   ·exact CA h
  ·exact h
 ·exact h
theorem CY{tb:bR}{t:TypeId}{x:ag}:ids (wv tb t x)=ids x:=by
 unfold wv;split
 ·split
  ·unfold D5;split
   ·simp only[ids,uR]
   ·exact vN
  ·rfl
 ·rfl
theorem jr{tb:bR}{F:Bool→Addr→Value→Prop}{ρ:Nat→Option Value}:∀ {e:List Bool} {f:List TypeId} {xs:List ag} {c:List Value},iA F ρ xs c→iA F ρ (gN tb e f xs) c
 | true::e,t::f,x::xs,c,h=>by
  cases c with
  | nil=>exact h.elim
  | cons v c=>exact⟨Hn h.1,jr h.2⟩
 | false::e,t::f,x::xs,c,h=>by
  cases c with
  | nil=>exact h.elim
  | cons v c=>exact⟨h.1,jr h.2⟩
 | [],f,xs,c,h=>by simpa only [gN]using h
 | b::e,[],xs,c,h=>by cases b <;> simpa only [gN]using h
 | b::e,t::f,[],c,h=>by cases b <;> simpa only [gN]using h
theorem nZ{tb:bR}:∀ {bs:List Bool} {ts:List TypeId} {xs:List ag},bm (gN tb bs ts xs)=bm xs
 | true::bs,t::ts,x::xs=>by simp only[gN,bm,CY,nZ (bs:=bs) (ts:=ts) (xs:=xs)]
 | false::bs,t::ts,x::xs=>by simp only[gN,bm,nZ (bs:=bs) (ts:=ts) (xs:=xs)]
 | [],ts,xs=>by simp only[gN]
 | b::bs,[],xs=>by cases b <;> simp only[gN]
 | b::bs,t::ts,[]=>by cases b <;> simp only[gN]
def yH(h:Nat→Option Obj)(x:ag):Option (ag×hZ) :=
 match x with
 | .agg c=>match qs h c with
  | some (e,u)=>some (.agg e,u)
  | none=>none
 | x=>eW h x
def frzL(h:Nat→Option Obj):List Bool→List ag→Option (List ag×hZ)
 | _,[]=>some ([],[])
 | [],xs=>some (xs,[])
 | false::bs,x::xs=>match frzL h bs xs with
  | some (c,u)=>some (x::c,u)
  | none=>none
 | true::bs,x::xs=>match yH h x with
  | some (y,u)=>match frzL (apply u h) bs xs with
   | some (c,e)=>some (y::c,u++e)
   | none=>none
  | none=>none
structure wo where
 r:ag
 fl:List Bool
 own:Bool
 cn:List Bool
 g:List Nat
 hout:List (Nat×Obj)
 die:Option Value
def dieOf:Option wo→Option Value
 | some q=>q.die
 | none=>none
def wk(P:Program)(f:FuncId)(args:List ag)(hin:List (Nat×Obj))(q:wo):Prop :=
 match q.die with
 | none=>ff P f args hin q.r q.hout
 | some x=>jP P f args hin x
def MR:Option wo→List Nat
 | some q=>q.g
 | none=>[]
def BK:ag→ag
 | .lit (.func (.func f) c e)=>if c.isEmpty && e.isEmpty then .fn f []else .unk
 | x=>x
def IK:Option wo→List Bool
 | some q=>q.cn
 | none=>[]
def vt(P:Program)(new:Nat)(jb:Option wo)(f:ag)(xs:List ag)(h:Nat→Option Obj):Option Out :=
 match f,jb with
 | .fn fid c,some q=>match frzL h q.fl xs with
  | some (e,u) =>
   if q.own then
    if q.g.all (fun i=>(xf h (f::xs)).contains i)then
     match tc q.g (less q.g (apply u h)) (e++c),jR q.g (apply u h) 0 q.g with
     | some args,some hin=>if ur q.g q.hout q.r then some (lP (rZ q.g new) q.r,u++vb q.g new q.hout,wk P fid args hin q)else none
     | _,_=>none
    else none
   else match oq (apply u h) (e++c)with
   | some args=>some (q.r,u,Pure P fid args q.r)
   | none=>none
  | none=>none
 | _,_=>none
def Aw(asm:Option Bool)(c:ag)(s:Nat→ag)(x y:Operand):Option Out :=
 match asm,c with
 | some b,.p _ .bool e=>some (ev s (if b then x else y),[],e=b)
 | none,.p _ .bool e=>match e with
  | true=>some (ev s x,[],True)
  | false=>some (ev s y,[],True)
 | _,_=>none
def Et(fn:Fn)(first:List Operand)(c:List ag):Option Out :=
 match fn,first with
 | .func f,[]=>some (.fn f c,[],True)
 | _,_=>none
def qR(tb:bR)(new:Nat)(b:Builtin)(xs:List ag)(c:List TypeId)(h:Nat→Option Obj):Option Out :=
 match b,xs,c with
 | .len,[x],[t]=>if LC x then uf tb t x h else Dq tb t x h
 | .min,[x,y],_=>EB false x y
 | .max,[x,y],_=>EB true x y
 | .append,[x,y],[t,e]=>if t=e then mB tb new t x y h else none
 | .copy,[x,y],[t,_]=>sa tb t x y h
 | _,_,_=>none
def pY(P:Program)(tb:bR)(new:Nat)(jb:Option wo)(c:Call)(s:Nat→ag)(h:Nat→Option Obj):Option Out :=
 match c.callee with
 | .builtin b=>qR tb new b (c.args.toList.map (ev s)) c.argTypes.toList h
 | .value f=>vt P new jb (BK (ev s f)) (gN tb (IK jb) c.argTypes.toList (c.args.toList.map (ev s))) h
 | _=>none
def gM(P:Program)(tb:bR)(new:Nat)(asm:Option Bool)(jb:Option wo)(op:Op)(s:Nat→ag)(h:Nat→Option Obj):Option Out :=
 match op with
 | .move x=>some (ev s x,[],True)
 | .assign x=>some (ev s x,[],True)
 | .pick c x y=>Aw asm (ev s c) s x y
 | .alloc t=>Bc tb new t
 | .box _ x=>HU new (ev s x)
 | .build t e=>pa tb t (e.toList.map (·.1)) (e.toList.map fun p=>ev s p.2)
 | .buildSlice t len e=>mg tb new t len (e.toList.map (·.1)) (e.toList.map fun p=>ev s p.2) h
 | .load t x=>Ao tb new t (ev s x) h
 | .store t x y=>pA tb t (ev s x) (ev s y) h
 | .binOp op t x y _=>Gr P tb op t (ev s x) (ev s y)
 | .nilCheck x=>Gl (ev s x)
 | .unOp op _ x=>Jk op (ev s x)
 | .convert st q x=>match jb with
  | none=>zQ tb st q (ev s x) h
  | some _=>AH tb new st q (ev s x)
 | .slice t x m hi none=>pj tb new t (ev s x) (qd s m) (qd s hi) h
 | .slice t x m (some hi) (some u)=>match jb with
  | none=>tJ tb t (ev s x) (qd s m) (ev s hi) (ev s u) h
  | some _=>CS tb new t (ev s x) (qd s m) (ev s hi) (ev s u) h
 | .fieldAddr t x f=>BV tb t (ev s x) f
 | .indexAddr t x i=>match iH tb t (ev s x) (ev s i) h with
  | some r=>some r
  | none=>kH tb t (ev s x) (ev s i) h
 | .index t x i=>A4 tb t (ev s x) (ev s i)
 | .extract x i=>xL (ev s x) i
 | .typeAssert x _ t ok=>ug P (ev s x) t ok
 | .makeFunc fn first j=>Et fn first.toList (j.toList.map (ev s))
 | .makeSlice t l c=>En tb new t (ev s l) (ev s c)
 | .makeMap t none=>match xu P tb new t with
  | some r=>some r
  | none=>uT P tb new t
 | .lookup t x k ok=>match mL P tb t (ev s x) (ev s k) ok h with
  | some r=>some r
  | none=>ln P tb t (MR jb) (ev s x) (ev s k) ok h
 | .mapUpdate t x k y=>match eV P tb t (ev s x) (ev s k) (ev s y) h with
  | some r=>some r
  | none=>ee P tb t (ev s x) (ev s k) (ev s y) h
 | .insert t x k y=>match eV P tb t (ev s x) (ev s k) (ev s y) h with
  | some r=>some r
  | none=>ee P tb t (ev s x) (ev s k) (ev s y) h
 | .call c=>pY P tb new jb c s h
 | _=>none
section
variable{P:Program}{tb:bR}{Bw:Nat→Prop}{w0:b9 P}{ρ:Nat→Option Value}{φ:Nat→Nat→Prop}{h:Nat→Option Obj}{w:World}{new:Nat}{n:NS}{s:Nat→ag}{a:Act}
theorem bO(c:bS P tb){t e:TypeId}{f:TI}{A:Ty}(h:gU tb t=some (e,f,A)):∃ti,aQ P t ti∧tb.find t=some ti∧ti.k = .sl e∧aQ P e f∧f.T=some A∧0<A.size:=by
 unfold gU at h;split at h
 ·rename_i ti j;split at h
  ·rename_i z m;split at h
   ·rename_i p q;split at h
    ·rename_i B u;split at h
     ·rename_i x;cases h;exact⟨ti,c.find j,j,m,c.find q,u,x⟩
     ·cases h
    ·cases h
   ·cases h
  ·cases h
 ·cases h
theorem ng(f:bS P tb){t:TypeId}{K A:Ty}{c:Prop}(h:Gi P tb t=some (K,A,c))(q:c):∃ti j m p,aQ P t ti∧ti.k = .mp j m∧fP P j K∧aQ P m p∧p.T=some A:=by
 unfold Gi at h;split at h
 ·rename_i ti u;split at h
  ·rename_i j m x;split at h
   ·rename_i E p z B;split at h
    ·rename_i I J L e C;cases h;refine⟨ti,j,m,p,f.find u,x,?_,f.find B,C⟩;unfold IX at e;split at e
     ·rename_i M D;cases e;exact fP.BE (f.find z) D
     ·split at e
      ·split at e
       ·cases e;exact q
       ·cases e
      ·cases e
    ·cases h
   ·cases h
  ·cases h
 ·cases h
theorem m8(e:bS P tb){t:TypeId}{K:Ty}{c:Prop}(h:GS P tb t=some (K,c))(x:c):∃ti f j m,aQ P t ti∧ti.k = .mp f j∧fP P f K∧aQ P j m∧J2 tb t=zV m:=by
 unfold GS at h;split at h
 ·rename_i ti p;split at h
  ·rename_i f j q;split at h
   ·rename_i C m z u;split at h
    ·refine⟨ti,f,j,m,e.find p,q,?_,e.find u,by simp[J2,p,q,u]⟩;unfold IX at h;split at h
     ·rename_i D B;cases h;exact fP.BE (e.find z) B
     ·split at h
      ·split at h
       ·cases h;exact x
       ·cases h
      ·cases h
    ·cases h
   ·cases h
  ·cases h
 ·cases h
theorem uO{F:Bool→Addr→Value→Prop}{ρ:Nat→Option Value}{x:ag}{v u:Value}(h:valOf x=some v)(c:V F ρ x u):u=v:=by
 unfold valOf at h;split at h
 ·cases h;simpa only [V]using c
 ·cases h;simp only[V]at c;obtain⟨f,e,j,_⟩:=c;have:f = #[]:=Array.eq_empty_of_size_eq_zero (by simpa using j);subst this;exact e
 ·cases h;simp only[V,VL]at c;obtain⟨f,rfl,j,⟨D,k,m,rfl,p,_⟩,_⟩:=c;have q:m = #[]:=Array.eq_empty_of_size_eq_zero (by simpa using p);subst q;have z:f = #[.func (.func _) #[] #[]]:=Array.ext (by simpa using j) (fun i B C=>by
   have:i=0:=by simp at C;omega
   subst this;simpa [Array.getElem?_eq_getElem B]using k)
  rw[z]
 ·cases h
theorem wB{F:Bool→Addr→Value→Prop}{ρ:Nat→Option Value}{x:ag}{u:Value}(c:V F ρ x u):V F ρ (BK x) u:=by
 unfold BK;split
 ·rename_i f j k;split
  ·rename_i e;simp only[Bool.and_eq_true,Array.isEmpty_iff]at e;obtain⟨rfl,rfl⟩:=e;simp only[V]at c ⊢;exact⟨#[],c,rfl,by simp only[VL]⟩
  ·trivial
 ·exact c
theorem Cz{x:ag}:∀i∈ids (BK x),i∈ids x:=by
 unfold BK;split
 ·split
  ·intro i hi;simp[ids,bm]at hi
  ·intro i hi;simp[ids]at hi
 ·exact fun i hi=>hi
theorem gx{F:Bool→Addr→Value→Prop}{ρ:Nat→Option Value}{K:Ty}{x:ag}{k:K.den}{v:Value}(h:tx K x=some k)(c:K.isKey=true)(e:V F ρ x v):v=aO K k:=by
 unfold tx at h;split at h
 ·rename_i β D i;split at h
  ·rename_i q;subst q;split at h
   ·rename_i f;cases h;exact so c f e
   ·cases h
  ·cases h
 ·rename_i E;split at h
  ·rename_i f;split at h
   ·rename_i I r hu;cases h;simp only[V]at e;obtain⟨m,rfl,p,z⟩:=e;obtain⟨B,J,L⟩:=cy hu z;rw[jx c f.1];congr 1;refine Array.ext_getElem? fun i=> ?_
    rw[List.getElem?_toArray,←Array.getElem?_toList];rcases Nat.lt_or_ge i K.size with hi | hi
    ·have:=j5 (l:=m.toList) (o:=0) c (ai.mono (fun _ _ h=>h) (fun j u C=>by rw[Nat.zero_add,Array.getElem?_toList];exact C) B) i hi;rw[Nat.zero_add]at this;exact this
    ·rw[List.getElem?_eq_none (by rw[Array.length_toList,p,f.2];exact hi)];rw[List.getElem?_eq_none (by rw[cM c];exact hi)]
   ·cases h
  ·cases h
 ·rename_i M N xs;split at h
  ·rename_i q;subst q;cases h;simp only[V]at e;obtain⟨m,rfl,hl,-⟩:=e;rw[jx c rfl];cases m with
   | nil=>simp[ck]
   | cons _ _=>simp at hl
  ·cases h
 ·cases h
theorem rj{F:Bool→Addr→Value→Prop}(f:bP n F ρ s a){c:Option Operand}{l:Option Int}(h:qd s c=some l):tY F ρ a c l:=by
 unfold qd at h;cases c with
 | none=>cases h;trivial
 | some x =>
  simp only at h;split at h
  ·rename_i β k m e;cases h;have:=aY f x;rw[e]at this;exact⟨_,_,this⟩
  ·cases h
theorem lW{F:Bool→Addr→Value→Prop}{x:ag}{n:Int}(h:intOf x=some n){v:Value}(c:V F ρ x v):∃β k,V F ρ (.p β (.int k) n) v:=by
 unfold intOf at h;split at h
 ·cases h;exact⟨_,_,c⟩
 ·cases h
theorem CZ(m:Mem Bw w0 ρ φ h w){x y:ag}{u:hZ}(c:yH h x=some (y,u)):
  Mem Bw w0 ρ φ (apply u h) w∧(∀β a v,Fr (own φ h) Bw w β a v→Fr (own φ (apply u h)) Bw w β a v)∧∀v,V (Fr (own φ h) Bw w) ρ x v→V (Fr (own φ (apply u h)) Bw w) ρ y v:=by
 unfold yH at c;split at c
 ·split at c
  ·rename_i C D j;cases c;obtain⟨k,p,q,z⟩:=pF m j;refine⟨k,p,fun v f=> ?_⟩;simp only[V]at f ⊢;obtain⟨A,e,B,hl⟩:=f;exact⟨A,e,by rw[q];exact B,z _ hl⟩
  ·cases c
 ·exact gy m c
theorem nL:∀ {p:List Bool} {xs j:List ag} {h:Nat→Option Obj} {u:hZ},Mem Bw w0 ρ φ h w→frzL h p xs=some (j,u) →
  Mem Bw w0 ρ φ (apply u h) w∧(∀β a v,Fr (own φ h) Bw w β a v→Fr (own φ (apply u h)) Bw w β a v)∧∀e,iA (Fr (own φ h) Bw w) ρ xs e→iA (Fr (own φ (apply u h)) Bw w) ρ j e
 | _,[],j,h,u,m,c=>by
  simp only[frzL]at c;cases c;exact⟨m,fun _ _ _ h=>h,fun _ h=>h⟩
 | [],x::xs,j,h,u,m,c=>by
  simp only[frzL]at c;cases c;exact⟨m,fun _ _ _ h=>h,fun _ h=>h⟩
 | false::p,x::xs,j,h,u,m,c=>by
  simp only[frzL]at c;split at c
  ·rename_i q M z;cases c;obtain⟨B,k,C⟩:=nL m z;refine⟨B,k,fun e f=> ?_⟩;cases e with
   | nil=>exact f.elim
   | cons v e=>exact⟨V.mono k (fun _ _ h=>h) f.1,C e f.2⟩
  ·cases c
 | true::p,x::xs,j,h,u,m,c=>by
  simp only[frzL]at c;split at c
  ·rename_i y u1 z;split at c
   ·rename_i q N E;cases c;obtain⟨B,k,C⟩:=CZ m z;obtain⟨I,D,J⟩:=nL B E;rw[gG];refine⟨I,fun β a v L=>D _ _ _ (k _ _ _ L),fun e f=> ?_⟩;cases e with
    | nil=>exact f.elim
    | cons v e=>exact⟨V.mono D (fun _ _ h=>h) (C v f.1),J e (iA.mono k (fun _ _ h=>h) f.2)⟩
   ·cases c
  ·cases c
theorem vY{c:hZ}{i:Nat}(hu:c.all (fun p=>p.1 != i)=true):∀ {h:Nat→Option Obj},apply c h i=h i:=by
 induction c with
 | nil=>intro h;rfl
 | cons p c e =>
  intro h;obtain⟨j,o⟩:=p;simp only[List.all_cons,Bool.and_eq_true,bne_iff_ne,ne_eq]at hu;simp only[apply];rw[e hu.2,aB _ _ (Ne.symm hu.1)]
theorem kD{F:Bool→Addr→Value→Prop}{x:ag}{b:Bool}(h:zO x=some b){u:Value}(hu:V F ρ x u):∃q,u = .pointer q∧q.isNone=b:=by
 cases x <;> simp only[zO]at h <;> first | (cases h;done) | skip
 ·cases h;simp only[V]at hu;exact⟨none,hu,rfl⟩
 ·cases h;simp only[V]at hu;obtain⟨g,_,e⟩:=hu;exact⟨_,e,rfl⟩
 ·cases h;simp only[V]at hu;obtain⟨c,e,_⟩:=hu;exact⟨_,e,rfl⟩
theorem zZ(d:Nat){t e:TypeId}(h:P.underlying t=some (.pointer e))(q:Option Addr):(Op.equalIn (d+1) t (.pointer none) (.pointer q)).run P w = .ok q.isNone w:=by
 simp[Op.equalIn,run_underlying h]
theorem yI(d:Nat){t e:TypeId}(h:P.underlying t=some (.pointer e))(a:Addr):(Op.equalIn (d+1) t (.pointer (some a)) (.pointer none)).run P w = .ok false w:=by
 simp[Op.equalIn,run_underlying h]
theorem zT(d:Nat){t:TypeId}{c:Array (String×TypeId)}(h:P.underlying t=some (.interface c))(a:TypeId)(v:Value):(Op.equalIn (d+1) t (.iface a v) .nilIface).run P w = .ok false w:=by
 simp[Op.equalIn,run_underlying h]
theorem vv{F:Bool→Addr→Value→Prop}{op:BinOp}{b:Bool}{r:ag}(h:IJ op b=some r){t:TypeId}{u v:Value}{xo yo:Operand}(e:(eqGuard op t xo yo u v).run P w = .ok () w)
  (f:(Op.equal t u v).run P w = .ok b w) (c:binOp .eql t u v=(do pure (.bool (←Op.equal t u v)))∧binOp .neq t u v=(do pure (.bool (!(←Op.equal t u v))))) :
  ∃z,(do eqGuard op t xo yo u v;binOp op t u v:Sem Value).run P w = .ok z w∧V F ρ r z:=by
 unfold IJ at h;split at h <;> cases h
 ·exact⟨_,by rw[Sem.run_bind,e,Result.andThen_ok,c.1,Sem.run_bind,f];rfl,iI _ _⟩
 ·exact⟨_,by rw[Sem.run_bind,e,Result.andThen_ok,c.2,Sem.run_bind,f];rfl,iI _ _⟩
theorem Bb{F:Bool→Addr→Value→Prop}{ti:TI}{op:BinOp}{t:TypeId}{x y r:ag}{us:hZ}{c:Prop}(h:HP P ti op t x y=some (r,us,c))(m:c){u v:Value}(hu:V F ρ x u)(k:V F ρ y v)(L M:Operand):
  us=[]∧∃z,(do eqGuard op t L M u v;binOp op t u v:Sem Value).run P w = .ok z w∧V F ρ r z:=by
 have ptr:∀ {b:Bool} {q j:Option Addr},u = .pointer q→v = .pointer j→(∃e,P.underlying t=some (.pointer e))→(q.isNone=true∧j.isNone=b∨q.isNone=false∧j.isNone=true∧b=false)→IJ op b=some r →
   ∃z,(do eqGuard op t L M u v;binOp op t u v:Sem Value).run P w = .ok z w∧V F ρ r z:=fun {b q j} B C p hq f=>by
  subst B C;obtain⟨e,p⟩:=p;refine vv f (bJ (by intro N e;cases e) (by intro e;cases e)) ?_ ⟨by cases q <;> cases j <;> rfl,by cases q <;> cases j <;> rfl⟩;unfold Op.equal Op.maxDepth;cases q with
  | none =>
   rcases hq with⟨_,O⟩ | ⟨R,_⟩
   ·subst O;exact zZ 9999 p j
   ·cases R
  | some a =>
   rcases hq with⟨R,_⟩ | ⟨_,O,q3⟩
   ·cases R
   ·cases j with
    | none=>subst q3;exact yI 9999 p a
    | some _=>cases O
 unfold HP at h;split at h
 ·rename_i N ds;split at h
  ·rename_i T hT;split at h
   ·rename_i a b ha hb;split at h
    ·rename_i I f;cases h;refine⟨rfl,?_⟩;simp only[V]at hu k;obtain⟨xs,rfl,sx,lx⟩:=hu;obtain⟨ys,rfl,sy,ly⟩:=k;obtain⟨a1,a2,a3⟩:=cy ha lx;obtain⟨b1,b2,b3⟩:=cy hb ly;have hl:∀l:List ag,([]:List ag)=l.drop T.size→T.size≤l.length→l.length=T.size:=fun l D J=>by have:=congrArg List.length D;simp only[List.length_nil,List.length_drop]at this;omega
     have p:=m.2 w;have E:T.scalar=false:=m.1.2;refine vv f (run_eqGuard_agg w op t L M xs ys m.1.1) ?_ ⟨rfl,rfl⟩;refine p.2.2 (F false) a b _ _ ?_ ?_
     ·unfold n6;rw[E];simp only[Bool.false_eq_true,if_false];exact⟨xs,rfl,by rw[sx,hl N a2 a3],a1⟩
     ·unfold n6;rw[E];simp only[Bool.false_eq_true,if_false];exact⟨ys,rfl,by rw[sy,hl ds b2 b3],b1⟩
    ·cases h
   ·cases h
  ·cases h
 ·rename_i A q;split at h
  ·rename_i I f;cases h;simp only[V]at hu k;cases q with
   | none =>
    have e:u = .pointer none:=hu.2.symm;exact⟨rfl,ptr e k m (.inl ⟨rfl,rfl⟩) f⟩
   | some y =>
    obtain⟨_,b,e,_⟩:=hu;exact⟨rfl,ptr e.symm k m (.inr ⟨rfl,rfl,rfl⟩) f⟩
  ·cases h
 ·split at h
  ·rename_i b D J;split at h
   ·rename_i I f;cases h;obtain⟨q,B,C⟩:=kD D hu;obtain⟨j,X,Y⟩:=kD J k;exact⟨rfl,ptr B X m (.inl ⟨C,Y⟩) f⟩
   ·cases h
  ·rename_i D J;split at h
   ·rename_i I f;cases h;obtain⟨q,B,C⟩:=kD D hu;obtain⟨j,X,Y⟩:=kD J k;exact⟨rfl,ptr B X m (.inr ⟨C,Y,rfl⟩) f⟩
   ·cases h
  ·split at h
   ·split at h
    ·rename_i I f;cases h;simp only[V]at hu k;subst hu k;obtain⟨ms,Z⟩:=m;refine⟨rfl,vv f (bJ (by intro N e;cases e) (by intro e;cases e)) ?_ ⟨rfl,rfl⟩⟩;unfold Op.equal Op.maxDepth;exact zT 9999 Z _ _
    ·cases h
   ·cases h
theorem Cj(m:Mem Bw w0 ρ φ h w){o:Oper}{j:Operand}{p f:TypeId}{ok:Bool}(z:o.op = .typeAssert j p f ok){x:ag}(k:V (Fr (own φ h) Bw w) ρ x (a.eval j)){y:ag}{u:hZ}{c:Prop}
  (e:ug P x f ok=some (y,u,c)) (B:c):Good P o a w (aE Bw w0 ρ φ h w new y u):=by
 unfold ug at e;split at e
 ·rename_i t v;split at e
  ·rename_i q;obtain⟨rfl,rfl⟩:=q;cases e;obtain⟨d,e,hi⟩:=B;simp only[V]at k;refine Good.aH (v:= .tuple #[v,.bool true]) (w':=w) ?_ (aE.pure m ?_)
   ·simp only[execOp,z,k];simp only[Instr.typeAssert,Sem.run_bind,run_underlying e,Result.andThen_ok];cases d <;> first | (simp at hi;done) | (simp;done)
   ·simp only[V,VL];exact⟨_,rfl,rfl,⟨v,by simp,CG v⟩,⟨.bool true,by simp,by simp only[V,ai];exact⟨rfl,trivial⟩⟩,trivial⟩
  ·cases e
 ·cases e
theorem Fb(D:bS P tb)(m:Mem Bw w0 ρ φ h w)(J:bP n (Fr (own φ h) Bw w) ρ s a)(d1:∀j,j<8→ρ (new+j)=none){o:Oper}{asm:Option Bool}{jb:Option wo}(d2:dieOf jb=none){x:ag}{u:hZ}{c:Prop}
  (C:gM P tb new asm jb o.op s h=some (x,u,c)) (M:c):Good P o a w (aE Bw w0 ρ φ h w new x u):=by
 have hn:ρ new=none:=d1 0 (by omega);unfold gM at C;split at C
 ·rename_i x' I;cases C;exact zl m (aY J _) (.inl I)
 ·rename_i x' I;cases C;exact zl m (aY J _) (.inr I)
 ·rename_i co E X I;unfold Aw at C;split at C
  ·rename_i b β b' e;cases C;subst M;have:=aY J co;rw[e]at this;exact um m this (aY J _) I
  ·rename_i β b' e;have:=aY J co;rw[e]at this;split at C
   ·cases C;exact um (b:=true) m this (aY J _) I
   ·cases C;exact um (b:=false) m this (aY J _) I
  ·cases C
 ·rename_i t I;unfold Bc at C;split at C
  ·rename_i ti ht;cases C;exact C6 m hn (D.find ht) I
  ·cases C
 ·rename_i t E I;unfold HU at C;split at C
  ·rename_i c4;cases C;exact Hk m hn (aY J E) c4 I _
  ·cases C
 ·rename_i t ps I;unfold pa at C;split at C
  ·rename_i ti ht;split at C
   ·rename_i fs Z;split at C
    ·rename_i ds c5;cases C;have:=jw J (ps.toList.map (·.2));simp only[List.map_map]at this;exact wA m D (D.find ht) Z I this c5
    ·cases C
   ·rename_i n e Z;split at C
    ·rename_i te aa;split at C
     ·rename_i ds c5;cases C;have:=jw J (ps.toList.map (·.2));simp only[List.map_map]at this;exact uJ m D (D.find ht) Z (D.find aa) I this c5
     ·cases C
    ·cases C
   ·cases C
  ·cases C
 ·rename_i t len ps I;unfold mg at C;split at C
  ·rename_i e te A Y;obtain⟨ti,N,_,O,R,h4,h5⟩:=bO D Y;split at C
   ·rename_i a1;split at C
    ·rename_i ys us b5;cases C;have:=jw J (ps.toList.map (·.2));simp only[List.map_map]at this;exact vm m hn N O R h4 h5 I a1.1 this (fun x L=>Dr ((List.all_eq_true.1 a1.2.1) x L)) b5 a1.2.2
    ·cases C
   ·cases C
  ·cases C
 ·rename_i t E I;unfold Ao at C;split at C
  ·rename_i ti ht;split at C
   ·rename_i cs off c' d6;split at C
    ·rename_i y hy;cases C;exact Ff m (D.find ht) (aY J E) I d6 M hy
    ·cases C
   ·split at C
    ·rename_i r0 c6;cases C;exact Hq m (D.find ht) (aY J E) I c6
    ·exact FK m hn (D.find ht) (aY J E) I C M
  ·cases C
 ·rename_i t E X I;unfold pA at C;split at C
  ·rename_i ti ht;split at C
   ·rename_i a1;split at C
    ·rename_i id i sz off ex;have L:=aY J E;rw[ex]at L;split at C
     ·rename_i cs hi;split at C
      ·rename_i d3;cases C;exact wC m (D.find ht) L (aY J X) a1.1 I hi a1.2 d3
      ·cases C
     ·rename_i e A xs hi;split at C
      ·rename_i b2;split at C
       ·rename_i z us hz;split at C
        ·rename_i be;cases C;rw[b2.1]at L;exact xb m (D.find ht) L (aY J X) a1.1 I hz hi (by rw[vY be];exact hi) a1.2 b2.2 M
        ·cases C
       ·cases C
      ·cases C
     ·rename_i e e2 A e5 hole hi;split at C
      ·rename_i b2;obtain⟨rfl,rfl⟩:=b2;exact HX m (D.find ht) L (aY J X) a1.2 I hi C M
      ·cases C
     ·rename_i e xs hi;split at C
      ·rename_i b2;obtain⟨rfl,rfl,d7⟩:=b2;split at C
       ·rename_i β v ey;have hy:=aY J X;rw[ey]at hy;cases C;exact uo m (D.find ht) d7 L hy I hi M
       ·cases C
      ·cases C
     ·cases C
    ·exact HB m (D.find ht) (aY J E) (aY J X) I C
   ·cases C
  ·cases C
 ·rename_i op t E X t' I;unfold Gr at C;split at C
  ·rename_i ti ht;split at C
   ·rename_i r c' hr;cases C;obtain⟨z,N,O⟩:=FJ (P:=P) (w:=w) (D.find ht) hr M (aY J E) (aY J X) E X;exact Good.aH (v:=z) (w':=w) (by simp only[execOp,I];rw[Sem.run_bind,N];rfl) (aE.pure m O)
   ·obtain⟨hu,z,N,O⟩:=Bb (P:=P) (w:=w) C M (aY J E) (aY J X) E X;subst hu;exact Good.aH (v:=z) (w':=w) (by simp only[execOp,I];rw[Sem.run_bind,N];rfl) (aE.pure m O)
  ·cases C
 ·rename_i E I;have L:=aY J E;unfold Gl at C;split at C
  ·rename_i id i sz off ex;cases C;rw[ex]at L;obtain⟨g,N,O⟩:∃g,_∧a.eval E = .pointer (some ⟨g,i*sz+off,none⟩):=by simpa only [V]using L
   exact Good.aH (v:=a.eval E) (w':=w) (by simp only[execOp,I,O];rfl) (aE.pure m L)
  ·rename_i β cs off ex;cases C;rw[ex]at L;obtain⟨ad,N,O⟩:∃ad:Addr,a.eval E = .pointer (some (ad.add off))∧_:=by simpa only [V]using L
   exact Good.aH (v:=a.eval E) (w':=w) (by simp only[execOp,I,N];rfl) (aE.pure m L)
  ·rename_i β A q ex;cases C;rw[ex]at L;cases q with
   | none=>cases M
   | some y =>
    obtain⟨_,b,e,hv⟩:_∧∃b:Addr,Value.pointer (some b)=a.eval E∧ai (Fr (own φ h) Bw w β) A y (fun k v=>Fr (own φ h) Bw w β (b.add k) v):=by simpa only [V,ai]using L
    refine Good.aH (v:=a.eval E) (w':=w) (by simp only[execOp,I,←e];rfl) (aE.pure m ?_);simp only[V,Option.getD_some];exact⟨b,by rw[←e];unfold Addr.add;simp,jE β A y _ hv⟩
  ·cases C
 ·rename_i op t E I;unfold Jk at C;split at C
  ·rename_i r hr;cases C;obtain⟨z,N,O⟩:=Ck (P:=P) (w:=w) hr (aY J E);exact Good.aH (v:=z) (w':=w) (by simp only[execOp,I];rw[Sem.run_bind,N];rfl) (aE.pure m O)
  ·cases C
 ·rename_i st dt E I;split at C
  ·unfold zQ at C;split at C
   ·rename_i si bi;split at C
    ·rename_i di bv;split at C
     ·rename_i r hr;cases C;obtain⟨dd,bx,a8⟩:=(D.find bv).hu;unfold Ga at hr;split at hr
      ·rename_i β l ex;have L:=aY J E;rw[ex]at L;split at hr
       ·rename_i e Z;split at hr
        ·rename_i a4;cases hr;rw[Z]at a8;simp only[UK]at a8;subst a8;simp only[FH]at a4;split at a4
         ·rename_i te aa;obtain⟨d,q1,q2⟩:=(D.find aa).hu;split at a4
          ·rename_i c7;rw[c7]at q2;simp only[UK]at q2;exact DA m (D.find bi) bx (by rw[q1,q2]) I L
          ·cases a4
         ·cases a4
        ·cases hr
       ·cases hr
      ·rename_i β k n ex;have L:=aY J E;rw[ex]at L;split at hr
       ·rename_i Z;cases hr;rw[Z]at a8;simp only[UK]at a8;subst a8;exact Fo m (D.find bi) bx I L
       ·cases hr
      ·cases hr
     split at C
     ·rename_i a4;split at C
      ·rename_i r hr;cases C;obtain⟨z,N,O⟩:=D6 (P:=P) m (D.find bi) (D.find bv) (fun e he=>by
        rw[he]at a4;simp only[FH]at a4;split at a4
        ·rename_i te aa;obtain⟨d,q1,q2⟩:=(D.find aa).hu;split at a4
         ·rename_i Z;rw[Z]at q2;simp only[UK]at q2;rw[q1,q2]
         ·cases a4
        ·cases a4) hr (aY J E)
       exact Good.aH (v:=z) (w':=w) (by simp only[execOp,I];rw[Sem.run_bind,N];rfl) (aE.pure m O)
      ·cases C
     ·cases C
    ·cases C
   ·cases C
  ·unfold AH at C;split at C
   ·rename_i si bi;split at C
    ·rename_i di bv;obtain⟨dd,bx,a8⟩:=(D.find bv).hu;split at C
     ·rename_i β l ex;have L:=aY J E;rw[ex]at L;split at C
      ·rename_i e Z;split at C
       ·rename_i a4;cases C;rw[Z]at a8;simp only[UK]at a8;subst a8;simp only[FH]at a4;split at a4
        ·rename_i te aa;obtain⟨d,q1,q2⟩:=(D.find aa).hu;split at a4
         ·rename_i c7;rw[c7]at q2;simp only[UK]at q2;exact AW m hn (D.find bi) bx (by rw[q1,q2]) I L
         ·cases a4
        ·cases a4
       ·cases C
      ·cases C
     ·cases C
    ·cases C
   ·cases C
 ·rename_i t E lo hi I;unfold pj at C;split at C
  ·rename_i ti ht;split at C
   ·rename_i l r hl hr;have b3:=rj J hl;have a5:=rj J hr;have L:=aY J E;split at C
    ·rename_i β str ex;rw[ex]at L;split at C
     ·rename_i Z;cases C;exact vL m (D.find ht) Z I L b3 a5 M.1 M.2.1 M.2.2
     ·cases C
    ·rename_i β A xs ex;rw[ex]at L;split at C
     ·rename_i _ _ B Y;obtain⟨ac,N,ax,O,R,h4,h5⟩:=bO D Y;split at C
      ·rename_i b1;subst b1;cases C;exact om m N O R h4 I L b3 a5 M.1 M.2.1 M.2.2
      ·cases C
     ·cases C
    ·rename_i id ex;rw[ex]at L;split at C
     ·rename_i e A xs a6;split at C
      ·rename_i _ _ _ Y;obtain⟨ac,N,ax,O,R,h4,h5⟩:=bO D Y;split at C
       ·rename_i k;cases C;cases lo with
        | some _=>exact b3.elim
        | none =>
         cases hi with
         | none=>exact a5.elim
         | some e6 =>
          obtain⟨β,kk,hv⟩:=a5;exact vK m hn N O R (A:=A) I a6 L hv M.1 M.2
       ·cases C
      ·cases C
     ·rename_i A xs a6;split at C
      ·rename_i _ _ B Y;obtain⟨ac,N,ax,O,R,h4,h5⟩:=bO D Y;split at C
       ·rename_i b1;subst b1;cases C;obtain⟨u,q1,q2⟩:=m.ob id _ a6;simp only[V]at L;rw[L.1]at q1;cases q1;exact om m N O R h4 I q2 b3 a5 M.1 M.2.1 M.2.2
       ·cases C
      ·cases C
     ·cases C
    ·rename_i ex;rw[ex]at L;split at C
     ·rename_i _ _ A Y;obtain⟨ac,N,ax,O,R,h4,h5⟩:=bO D Y;cases C;exact xE m N O R I L b3 a5 M.1 M.2.1 M.2.2
     ·cases C
    ·cases C
   ·cases C
  ·cases C
 ·rename_i t E lo hi mx I;split at C
  ·unfold tJ at C;split at C
   ·rename_i _ _ B l r q Y hl hr hq;obtain⟨ac,N,ax,O,R,h4,h5⟩:=bO D Y;have b3:=rj J hl;obtain⟨d8,k1,a5⟩:=lW hr (aY J hi);obtain⟨d9,k2,c2⟩:=lW hq (aY J mx);have L:=aY J E;split at C
    ·rename_i β A xs ex;rw[ex]at L;split at C
     ·rename_i b1;subst b1;cases C;exact uA m N O R h4 I L b3 a5 c2 M.1 M.2.1 M.2.2.1 M.2.2.2
     ·cases C
    ·rename_i id ex;rw[ex]at L;split at C
     ·rename_i A xs a6;split at C
      ·rename_i b1;subst b1;cases C;obtain⟨u,q1,q2⟩:=m.ob id _ a6;simp only[V]at L;rw[L.1]at q1;cases q1;exact uA m N O R h4 I q2 b3 a5 c2 M.1 M.2.1 M.2.2.1 M.2.2.2
      ·cases C
     ·cases C
    ·cases C
   ·cases C
  ·unfold CS at C;split at C
   ·rename_i _ _ B r q Y hl hr hq;obtain⟨ac,N,ax,O,R,h4,h5⟩:=bO D Y;obtain⟨d8,k1,a5⟩:=lW hr (aY J hi);obtain⟨d9,k2,c2⟩:=lW hq (aY J mx);have L:=aY J E;have de:lo=none:=by
     cases lo with
     | none=>rfl
     | some y =>simp only[qd]at hl;split at hl <;> cases hl
    subst de;split at C
    ·rename_i A xs u' ed;split at C
     ·rename_i b1;subst b1;cases C;obtain⟨c1,rfl,c3⟩:=M;obtain⟨m',hF,hv⟩:=gy m ed;have:=zW (new:=new) m' hn N O R h4 I (hv _ L) (V.mono hF (fun _ _ h=>h) a5) (V.mono hF (fun _ _ h=>h) c2) c1 c3;exact fun K Q dk=>this K Q fun v w' hp=>dk v w' (aE.after rfl hF hp)
     ·cases C
    ·cases C
   ·cases C
 ·rename_i t E f I;unfold BV at C;split at C
  ·rename_i ti ht;split at C
   ·rename_i fs Z;split at C
    ·rename_i off ft hf;split at C
     ·rename_i id i sz k ex;cases C;exact oG m (D.find ht) (aY J E) I Z hf (.inl ⟨_,_,_,_,ex,rfl⟩)
     ·rename_i β cs k ex;cases C;exact oG m (D.find ht) (aY J E) I Z hf (.inr ⟨_,_,_,ex,rfl⟩)
     ·cases C
    ·cases C
   ·cases C
  ·cases C
 ·rename_i t E io I;split at C
  case h_2=>exact Fw m D (aY J E) (aY J io) I C M
  rename_i r0 c6;cases C;revert c6;intro C;unfold iH at C;split at C
  ·rename_i e te A Y;obtain⟨ac,N,ax,O,R,h4,h5⟩:=bO D Y;split at C
   ·rename_i β k i ei;split at C
    ·rename_i y sz c' hy;split at C
     ·rename_i b2;subst b2;cases C;have hi:=aY J io;rw[ei]at hi;exact xk m N O R (aY J E) hi I hy M
     ·cases C
    ·cases C
   ·cases C
  ·cases C
 ·rename_i t E io I;unfold A4 at C;split at C
  ·rename_i ti ht;split at C
   ·rename_i Z;split at C
    ·rename_i β str c8 k i ex ei;cases C;have L:=aY J E;have hi:=aY J io;rw[ex]at L;rw[ei]at hi;exact vW m (D.find ht) Z L hi I M.1 M.2
    ·cases C
   ·rename_i n e Z;split at C
    ·rename_i te aa;split at C
     ·rename_i k dm;split at C
      ·rename_i cs β k' j ex ei;split at C
       ·rename_i hn;split at C
        ·rename_i l hl;cases C;have L:=aY J E;have hi:=aY J io;rw[ex]at L;rw[ei]at hi;exact yA m (D.find ht) Z (D.find aa) dm L hl hn hi I M
        ·cases C
       ·cases C
      ·cases C
     ·cases C
    ·cases C
   ·cases C
  ·cases C
 ·rename_i E i I;unfold xL at C;split at C
  ·rename_i cs ex;split at C
   ·rename_i y hy;cases C;have L:=aY J E;rw[ex]at L;exact Az m L I hy
   ·cases C
  ·cases C
 ·rename_i E xt t ok I;exact Cj m I (aY J E) C M
 ·rename_i fn first d4 I
  unfold Et at C;split at C
  ·rename_i f e;cases C;have e':first = #[]:=Array.ext' e
   subst e';exact ya m I (jw J _)
  ·cases C
 ·rename_i t lo co I;unfold En at C;split at C
  ·rename_i e te A Y;obtain⟨ac,N,ax,O,R,h4,h5⟩:=bO D Y;split at C
   ·rename_i β k l c8 k' c' el ec;cases C;have hl:=aY J lo;have d5:=aY J co;rw[el]at hl;rw[ec]at d5;exact F4 m hn N O R h4 h5 I hl d5 M.1 M.2.1 M.2.2.1 M.2.2.2
   ·cases C
  ·cases C
 ·rename_i t I;split at C
  ·rename_i r b6;cases C;have C:=b6;unfold xu at C;split at C
   ·rename_i K A c' hm;cases C;obtain⟨ti,kt,et,te,N,O,R,h5,h6⟩:=ng D hm M;exact Ai m hn R.isKey I
   ·cases C
  ·unfold uT at C;split at C
   ·rename_i K c' hm;cases C;obtain⟨ti,kt,et,te,N,O,R,h5⟩:=m8 D hm M;exact xT m hn R.isKey I
   ·cases C
 ·rename_i t E ko ok I;split at C
  ·rename_i r b6;cases C;have C:=b6;unfold mL at C;split at C
   ·rename_i K A c' hm;split at C
    ·rename_i id ex;split at C
     ·rename_i K1 A1 kv hi;split at C
      ·rename_i i a7;split at C
       ·rename_i q;obtain⟨rfl,rfl⟩:=q;cases C;obtain⟨ti,kt,et,te,N,O,R,h5,h6⟩:=ng D hm M;have L:=aY J E;have Z:=aY J ko;rw[ex]at L;exact A5 m N O R h5 h6 I hi L (gx a7 R.isKey Z)
       ·cases C
      ·cases C
     ·cases C
    ·cases C
   ·cases C
  ·unfold ln at C;split at C
   ·rename_i K c' hm;split at C
    ·rename_i id ex;split at C
     ·rename_i K1 kv hi;split at C
      ·rename_i i j a7 _;split at C
       ·rename_i q;obtain⟨rfl,rfl⟩:=q;cases C;obtain⟨ti,kt,et,te,N,O,R,h5,hz⟩:=m8 D hm M.1;have L:=aY J E;have Z:=aY J ko;rw[ex]at L;rw[←vS M.2,hz];exact Ap m N O R h5 I hi L (gx a7 R.isKey Z)
       ·cases C
      ·cases C
     ·cases C
    ·cases C
   ·cases C
 ·rename_i t E ko X I;split at C
  ·rename_i r b6;cases C;have C:=b6;unfold eV at C;split at C
   ·rename_i K A c' hm;split at C
    ·rename_i id ex;split at C
     ·rename_i K1 A1 kv hi;split at C
      ·rename_i i a7;split at C
       ·rename_i q;obtain⟨rfl,rfl,c9,cc⟩:=q;split at C
        ·rename_i z us hz;split at C
         ·rename_i be;cases C;obtain⟨ti,kt,et,te,N,O,R,h5,h6⟩:=ng D hm M;have L:=aY J E;have Z:=aY J ko;rw[ex]at L;exact oM m N O R (.inl I) hi (by rw[vY be];exact hi) L (gx a7 R.isKey Z) (aY J X) c9 cc hz
         ·cases C
        ·cases C
       ·cases C
      ·cases C
     ·cases C
    ·cases C
   ·cases C
  ·unfold ee at C;split at C
   ·rename_i K c' hm;split at C
    ·rename_i id ex;split at C
     ·rename_i K1 kv hi;split at C
      ·rename_i i v a7 ch;split at C
       ·rename_i q;obtain⟨rfl,q2⟩:=q;cases C;obtain⟨ti,kt,et,te,N,O,R,h5⟩:=m8 D hm M;have L:=aY J E;have Z:=aY J ko;rw[ex]at L;refine oo m N O R (.inl I) hi L (gx a7 R.isKey Z) (uO ch (aY J X)) (fun p hp e=> ?_);have:=List.all_eq_true.1 q2 p hp;rw[(eK R.isKey).2 e]at this;cases this
       ·cases C
      ·cases C
     ·cases C
    ·cases C
   ·cases C
 ·rename_i t E ko X I;split at C
  ·rename_i r b6;cases C;have C:=b6;unfold eV at C;split at C
   ·rename_i K A c' hm;split at C
    ·rename_i id ex;split at C
     ·rename_i K1 A1 kv hi;split at C
      ·rename_i i a7;split at C
       ·rename_i q;obtain⟨rfl,rfl,c9,cc⟩:=q;split at C
        ·rename_i z us hz;split at C
         ·rename_i be;cases C;obtain⟨ti,kt,et,te,N,O,R,h5,h6⟩:=ng D hm M;have L:=aY J E;have Z:=aY J ko;rw[ex]at L;exact oM m N O R (.inr I) hi (by rw[vY be];exact hi) L (gx a7 R.isKey Z) (aY J X) c9 cc hz
         ·cases C
        ·cases C
       ·cases C
      ·cases C
     ·cases C
    ·cases C
   ·cases C
  ·unfold ee at C;split at C
   ·rename_i K c' hm;split at C
    ·rename_i id ex;split at C
     ·rename_i K1 kv hi;split at C
      ·rename_i i v a7 ch;split at C
       ·rename_i q;obtain⟨rfl,q2⟩:=q;cases C;obtain⟨ti,kt,et,te,N,O,R,h5⟩:=m8 D hm M;have L:=aY J E;have Z:=aY J ko;rw[ex]at L;refine oo m N O R (.inr I) hi L (gx a7 R.isKey Z) (uO ch (aY J X)) (fun p hp e=> ?_);have:=List.all_eq_true.1 q2 p hp;rw[(eK R.isKey).2 e]at this;cases this
       ·cases C
      ·cases C
     ·cases C
    ·cases C
   ·cases C
 ·rename_i c I;obtain⟨callee,args,cp⟩:=c;unfold pY at C;simp only at C;split at C
  ·rename_i b;unfold qR at C;split at C
   ·rename_i x0 t ex et;obtain⟨E,a2,rfl⟩:∃E,args = #[E]∧ev s E=x0:=by
     match a3:args.toList,ex with
     | [E],ex=>exact⟨E,Array.ext' a3,by simpa using ex⟩
    have b4:cp = #[t]:=Array.ext' et;subst a2 b4;split at C
    ·unfold uf at C;split at C
     ·rename_i ti ht;split at C
      ·rename_i kt et id Z ex;split at C
       ·rename_i K A kv hi;cases C;have L:=aY J E;rw[ex]at L;exact zB m (D.find ht) Z hi L I
       ·cases C
      ·cases C
     ·cases C
    unfold Dq at C;split at C
    ·rename_i ti ht;split at C
     ·rename_i k Z;split at C
      ·rename_i e he;split at C
       ·cases C
       ·rename_i a9;cases C;refine Bf m (D.find ht) (.inl ⟨e,he⟩) (aY J E) I Z ⟨fun h=>(by rw[he]at h;cases h),fun⟨β,str,ex⟩=> ?_⟩;rw[ex]at a9;exact absurd rfl a9
      ·rename_i he;split at C
       ·rename_i a9;cases C;refine Bf m (D.find ht) (.inr he) (aY J E) I Z ⟨fun _=> ?_,fun _=>he⟩;unfold isStr at a9;split at a9
        ·rename_i β str ex;exact⟨β,str,ex⟩
        ·cases a9
       ·cases C
      ·cases C
     ·cases C
    ·cases C
   ·rename_i x0 y0 ex;obtain⟨E,X,a2,rfl,rfl⟩:∃E X,args = #[E,X]∧ev s E=x0∧ev s X=y0:=by
     match a3:args.toList,ex with
     | [E,X],ex=>exact⟨E,X,Array.ext' a3,by simp at ex;exact ex.1,by simp at ex;exact ex.2⟩
    subst a2;unfold EB at C;split at C
    ·rename_i β k i c8 k' j ex ey;split at C
     ·rename_i cx;subst cx;cases C;have L:=aY J E;have hy:=aY J X;rw[ex]at L;rw[ey]at hy;exact HE m L hy I
     ·cases C
    ·cases C
   ·rename_i x0 y0 ex;obtain⟨E,X,a2,rfl,rfl⟩:∃E X,args = #[E,X]∧ev s E=x0∧ev s X=y0:=by
     match a3:args.toList,ex with
     | [E,X],ex=>exact⟨E,X,Array.ext' a3,by simp at ex;exact ex.1,by simp at ex;exact ex.2⟩
    subst a2;unfold EB at C;split at C
    ·rename_i β k i c8 k' j ex ey;split at C
     ·rename_i cx;subst cx;cases C;have L:=aY J E;have hy:=aY J X;rw[ex]at L;rw[ey]at hy;exact Hy m L hy I
     ·cases C
    ·cases C
   ·rename_i x0 y0 t t' ex et;obtain⟨E,X,a2,rfl,rfl⟩:∃E X,args = #[E,X]∧ev s E=x0∧ev s X=y0:=by
     match a3:args.toList,ex with
     | [E,X],ex=>exact⟨E,X,Array.ext' a3,by simp at ex;exact ex.1,by simp at ex;exact ex.2⟩
    have b4:cp = #[t,t']:=Array.ext' et;subst a2 b4;split at C
    ·rename_i du;subst du;unfold mB at C;split at C
     ·rename_i e te A Y;obtain⟨ac,N,ax,O,R,h4,h5⟩:=bO D Y;split at C
      ·rename_i ys b5;split at C
       ·rename_i ex;cases C;exact u3 m hn N O R h4 h5 (aY J E) (aY J X) I (xs:=[]) (.inl ⟨ex,rfl,rfl,rfl⟩) b5 M.1 M.2
       ·rename_i id ex;split at C
        ·rename_i e' B xs a6;split at C
         ·rename_i bs;subst bs;split at C
          ·rename_i e1;subst e1;simp only[Option.some.injEq,Prod.mk.injEq]at C;obtain⟨rfl,rfl,rfl⟩:=C;exact u3 m hn N O R h4 h5 (aY J E) (aY J X) I (xs:=xs) (.inr ⟨id,ex,a6,rfl,rfl⟩) b5 M.1 M.2
          ·cases C
         ·cases C
        ·rename_i B xs a6;split at C
         ·rename_i bs;subst bs;simp only[Option.some.injEq,Prod.mk.injEq]at C;obtain⟨rfl,rfl,rfl⟩:=C;have L:=aY J E;rw[ex]at L;exact wU m hn N O R h4 h5 L (aY J X) I a6 b5 M.1 M.2.1 M.2.2
         ·cases C
        ·cases C
       ·cases C
      ·cases C
     ·cases C
    ·cases C
   ·rename_i x0 y0 t t' ex et;obtain⟨E,X,a2,rfl,rfl⟩:∃E X,args = #[E,X]∧ev s E=x0∧ev s X=y0:=by
     match a3:args.toList,ex with
     | [E,X],ex=>exact⟨E,X,Array.ext' a3,by simp at ex;exact ex.1,by simp at ex;exact ex.2⟩
    have b4:cp = #[t,t']:=Array.ext' et;subst a2 b4;unfold sa at C;split at C
    ·rename_i e te A Y;obtain⟨ac,N,ax,O,R,h4,h5⟩:=bO D Y;split at C
     ·rename_i ys b5;split at C
      ·rename_i id ex;split at C
       ·rename_i e' B xs a6;split at C
        ·rename_i bs;subst bs;simp only[Option.some.injEq,Prod.mk.injEq]at C;obtain⟨rfl,rfl,rfl⟩:=C;have L:=aY J E;rw[ex]at L;exact F2 m N O R h4 L (aY J X) I a6 b5
        ·cases C
       ·cases C
      ·cases C
     ·cases C
    ·cases C
   ·cases C
  ·rename_i fo;unfold vt at C;split at C
   ·rename_i fid d4 q ef;split at C
    ·rename_i ys u' e3;have hf:=wB (aY J fo);rw[ef]at hf;obtain⟨q1,q2,q3⟩:=nL m e3;split at C
     ·split at C
      ·split at C
       ·rename_i bt hin hl hi;split at C
        ·rename_i e4;cases C;have M:ff P fid bt hin q.r q.hout:=by unfold wk at M;rw[show q.die=none from d2]at M;exact M
         have hg:=GA (new:=new) q1 d1 I (V.mono q2 (fun _ _ h=>h) hf) (q3 _ (jr (jw J args.toList))) hl hi e4 M;refine fun K Q Z=>hg K Q fun v w' hp=>Z v w' ?_
         exact aE.after (h:=h) (u1:=u') rfl q2 hp
        ·cases C
       ·cases C
      ·cases C
     ·split at C
      ·rename_i bt hl;cases C;have hg:=E7 (new:=new) q1 I (V.mono q2 (fun _ _ h=>h) hf) (q3 _ (jr (jw J args.toList))) hl M;refine fun K Q Z=>hg K Q fun v w' hp=>Z v w' ?_
       have:=aE.after (h:=h) (u1:=u) rfl q2 hp;simpa using this
      ·cases C
    ·cases C
   ·cases C
  ·cases C
 ·cases C
def Jh:ag→Bool
 | .unk=>true
 | _=>false
def dying(op:Op)(jb:Option wo):Option Value :=
 match op,jb with
 | .call c,some q=>match c.callee with
  | .value _=>if q.own && Jh q.r && q.hout.isEmpty then q.die else none
  | _=>none
 | _,_=>none
theorem G5(m:Mem Bw w0 ρ φ h w)(L:bP n (Fr (own φ h) Bw w) ρ s a)(E:∀j,j<8→ρ (new+j)=none){o:Oper}{asm:Option Bool}{jb:Option wo}{y:Value}(e:dying o.op jb=some y){x:ag}{u:hZ}{c:Prop}
  (f:gM P tb new asm jb o.op s h=some (x,u,c)) (A:c):Km P o a w y (fun I=>∃v,aE Bw w0 ρ φ h w new .unk u v I):=by
 unfold dying at e;split at e
 ·rename_i c0 q M;split at e
  ·rename_i X B;split at e
   ·rename_i k;simp only[Bool.and_eq_true,List.isEmpty_iff]at k;obtain⟨⟨C,p⟩,hout⟩:=k;obtain⟨callee,args,Y⟩:=c0;simp only at B;subst B;have Z:q.r = .unk:=by
     unfold Jh at p;split at p
     ·assumption
     ·cases p
    rw[M]at f;simp only[gM,pY]at f;unfold vt at f;split at f
    ·rename_i fid N q' ef eq;cases eq;split at f
     ·rename_i ys u' J;have O:=wB (aY L X);rw[ef]at O;obtain⟨q1,R,q3⟩:=nL m J;rw[if_pos C]at f;split at f
      ·split at f
       ·rename_i z hin hl hi;split at f
        ·rename_i D;cases f;rw[Z,hout]at D;have A:jP P fid z hin y:=by unfold wk at A;rw[e]at A;exact A
         have hg:=H9 (new:=new) q1 E M (V.mono R (fun _ _ h=>h) O) (q3 _ (jr (jw L args.toList))) hl hi D A;refine fun K Q hk=>hg K Q fun I ⟨v,hp⟩=>hk I ⟨v,?_⟩
         rw[hout];exact aE.after (h:=h) (u1:=u') rfl R hp
        ·cases f
       ·cases f
      ·cases f
     ·cases f
    ·cases f
   ·cases e
  ·cases e
 ·cases e
end
end Go.Tv
