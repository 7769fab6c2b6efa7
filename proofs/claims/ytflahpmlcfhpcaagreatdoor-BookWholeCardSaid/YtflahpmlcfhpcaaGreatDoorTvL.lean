import Derived.Test.YtflahpmlcfhpcaaGreatDoorTvKhm
namespace Go.Tv
open Go Go.RowKit
def pF(s:Nat→af):Option Operand→Option (Option Int)
 | none=>some none
 | some x=>match ev s x with
  | .p _ (.int _) n=>some (some n)
  | _=>none
def gU(tb:bQ)(t:TypeId):Option (TypeId×TI×Ty) :=
 match tb.find t with
 | some ti=>match ti.k with
  | .sl e=>match tb.find e with
   | some j=>match j.T with
    | some A=>if 0<A.size then some (e,j,A)else none
    | none=>none
   | none=>none
  | _=>none
 | none=>none
def Bi(tb:bQ)(new:Nat)(t:TypeId):XQ :=
 match tb.find t with
 | some ti=>some (.adr new 0 ti.size 0,[(new,some (.box ti.z))],True)
 | none=>none
def GB(new:Nat)(x:af):XQ :=
 if(cellsOf x).all af.cell then some (.adr new 0 (cellsOf x).length 0,[(new,some (.box (cellsOf x)))],True)else none
def pa(tb:bQ)(t:TypeId)(j:QV)(xs:List af):XQ :=
 match tb.find t with
 | some ti=>match ti.k with
  | .st p=>match parts tb p (j.zip xs) ti.z with
   | some f=>some (.agg f,[],True)
   | none=>none
  | .ar n e=>match tb.find e with
   | some q=>match parts tb ((List.range n).map fun i=>(i*q.size,e)) (j.zip xs) ti.z with
    | some f=>some (.agg f,[],True)
    | none=>none
   | none=>none
  | _=>none
 | none=>none
def me(tb:bQ)(new:Nat)(t:TypeId)(len:Nat)(j:QV)(xs:List af)(h:Nat→Qz):XQ :=
 match gU tb t with
 | some (e,p,A) =>
  if j=List.range len∧xs.all af.Cu=true∧len*p.size≤16777216 then
   match Ba A h xs with
   | some (q,u)=>some (.sl new,u++[(new,some (.arr e A q))],True)
   | none=>none
  else none
 | none=>none
def mK(ti:TI)(x:af)(h:Nat→Qz):XQ :=
 match x,ti.k with
 | .ada id b n i,.int k=>match h id with
  | some (.box e)=>if b+n≤e.length then(match qI k ((e.drop b).take n)with
   | some l=>some (.p false (.int k) (l.getD i 0),[],True)
   | none=>none)else none
  | _=>none
 | _,_=>none
def kM(ti:TI)(x y:af)(h:Nat→Qz):XQ :=
 match x,y with
 | .ada id b n i,.p _ (.int k) v=>match h id with
  | some (.box e)=>if b+n≤e.length∧ti.size=1 then(match qI k ((e.drop b).take n)with
   | some l=>some (.unk,[(id,some (.box (e.take b++uI k i v 0 l++e.drop (b+n))))],True)
   | none=>none)else none
  | _=>none
 | _,_=>none
def kL(tb:bQ)(t:TypeId)(x i:af)(h:Nat→Qz):XQ :=
 match tb.find t with
 | some ti=>match ti.k with
  | .ar n e=>match tb.find e with
   | some f=>if f.size=1 then(match x,i with
    | .adr id j sz off,.p _ (.int _) m=>match h id with
     | some (.box _)=>some (.ada id (j*sz+off) n (show Int from m).toNat,[],0≤(show Int from m)∧(show Int from m)<(n:Int))
     | _=>none
    | .ada id b N p,.p _ (.int _) m=>some (.ada id b N (p+(show Int from m).toNat),[],(0≤(show Int from m)∧(show Int from m)<(n:Int))∧p+(show Int from m).toNat<N)
    | _,_=>none)else if 0<f.size then(match x,i with
    | .adr id j sz off,.p _ (.int _) m=>match h id with
     | some (.box _)=>some (.ada id (j*sz+off) (n*f.size) ((show Int from m).toNat*f.size),[],0≤(show Int from m)∧(show Int from m)<(n:Int))
     | _=>none
    | _,_=>none)else none
   | none=>none
  | _=>none
 | none=>none
def lX(new:Nat)(ti:TI)(x:af)(h:Nat→Qz):XQ :=
 match x with
 | .adr id i sz off=>if sz=1∧off=0∧ti.k.agg=false then
   match h id with
   | some (.mat e u A p none)=>some (.sl new,[(id,some (.mat e u A p (some (i,new)))),(new,some (.arr u A (p.getD i [])))],i<p.length)
   | some (.mat e u A p (some (k,j)))=>match h j with
    | some (.arr z B v)=>if q:B=A then(if z=u then
      some (.sl new,[(j,none),(id,some (.mat e u A (p.set k (q ▸ v:List A.den)) none))]++[(id,some (.mat e u A (p.set k (q ▸ v:List A.den)) (some (i,new)))),(new,some (.arr u A ((p.set k (q ▸ v:List A.den)).getD i [])))],i<p.length)else none)else none
    | _=>none
   | _=>none
  else none
 | _=>none
def yZ(tb:bQ)(new:Nat)(t:TypeId)(x:af)(h:Nat→Qz):XQ :=
 match tb.find t with
 | some ti=>match lP h x with
  | some (e,off,c)=>match gh ti e off with
   | some y=>some (y,[],c)
   | none=>none
  | none=>match mK ti x h with
   | some r=>some r
   | none=>lX new ti x h
 | none=>none
def sM(id i:Nat)(e p:TypeId)(A:Ty)(f:List (List A.den))(hole:Option (Nat×Nat))(y:af)(h:Nat→Qz):XQ :=
 match y with
 | .sl r=>match h r with
  | some (.arr v B _)=>if B=A∧v=p then
    match hole with
    | none=>some (.unk,[(id,some (.mat e p A f (some (i,r))))],i<f.length)
    | some (k,j)=>match h j with
     | none=>some (.unk,[(id,some (.mat e p A f (some (i,r))))],k=i∧i<f.length)
     | some (.arr x C u)=>if q:C=A then(if x=p∧j≠r then
       some (.unk,[(j,none),(id,some (.mat e p A (f.set k (q ▸ u:List A.den)) none))]++[(id,some (.mat e p A (f.set k (q ▸ u:List A.den)) (some (i,r))))],i<f.length)else none)else none
     | _=>none
   else none
  | _=>none
 | _=>none
def pb(tb:bQ)(t:TypeId)(x y:af)(h:Nat→Qz):XQ :=
 match tb.find t with
 | some ti =>
  if(cellsOf y).all af.cell=true∧(cellsOf y).length=ti.size then
   match x with
   | .adr id i sz off=>match h id with
    | some (.box f)=>if i*sz+off+ti.size≤f.length then some (.unk,[(id,some (.box (wr f (i*sz+off) (cellsOf y))))],True)else none
    | some (.arr e A xs) =>
     if sz=A.size∧off+ti.size≤A.size then
      match BK A h xs i off y with
      | some (z,j)=>if j.all (fun p=>p.1 != id)then some (.unk,j++[(id,some (.arr e A (xs.set i z)))],i<xs.length)else none
      | none=>none
     else none
    | some (.mat e e2 A xss hole)=>if sz=1∧off=0 then sM id i e e2 A xss hole y h else none
    | some (.bytes e xs)=>if sz=1∧off=0∧ti.size=1 then(match y with
     | .p _ (.int .u8) v=>some (.unk,[(id,some (.bytes e (xs.set i v)))],i<xs.length)
     | _=>none)else none
    | _=>none
   | _=>kM ti x y h
  else none
 | none=>none
def G0(x:af):XQ :=
 match x with
 | .adr id i sz off=>some (.adr id i sz off,[],True)
 | .fad β e off=>some (.fad β e off,[],True)
 | .p β (.ptr A) q=>some (.fad β (flat β A (q.getD A.zero)) 0,[],q.isSome=true)
 | _=>none
def zk:af→Option Bool
 | .nilp=>some true
 | .adr _ _ _ _=>some false
 | .fad _ _ _=>some false
 | _=>none
def Hk(op:BinOp)(b:Bool):Option af :=
 match op with
 | .eql=>some (.p false .bool b)
 | .neq=>some (.p false .bool (!b))
 | _=>none
def Hb(P:Program)(ti:TI)(op:BinOp)(t:TypeId)(x y:af):XQ :=
 match x,y with
 | .agg f,.agg j=>match ti.T with
  | some T=>match im T f,im T j with
   | some (a,[]),some (b,[])=>match Hk op (GJ T a b)with
    | some r=>some (r,[],Kk P t T)
    | none=>none
   | _,_=>none
  | none=>none
 | .p _ (.ptr _) q,.nilp=>match Hk op q.isNone with
  | some r=>some (r,[],∃e,P.underlying t=some (.pointer e))
  | none=>none
 | x,y=>match zk x,zk y with
  | some true,some b=>match Hk op b with
   | some r=>some (r,[],∃e,P.underlying t=some (.pointer e))
   | none=>none
  | some false,some true=>match Hk op false with
   | some r=>some (r,[],∃e,P.underlying t=some (.pointer e))
   | none=>none
  | _,_=>match x,y with
   | .lit (.iface _ _),.lit .nilIface=>match Hk op false with
    | some r=>some (r,[],∃u,P.underlying t=some (.interface u))
    | none=>none
   | _,_=>none
def sJ(P:Program)(x:af)(e:TypeId)(ok:Bool):XQ :=
 match x with
 | .lit (.iface t v)=>if t=e∧ok=true then some (.tup [yQ v,.p false .bool true],[],∃d,P.underlying e=some d∧(match d with | .interface _=>false | _=>true)=true)else none
 | _=>none
def GI(P:Program)(tb:bQ)(op:BinOp)(t:TypeId)(x y:af):XQ :=
 match tb.find t with
 | some ti=>match bin ti.k op x y with
  | some (r,c)=>some (r,[],c)
  | none=>Hb P ti op t x y
 | none=>none
def IY(op:UnOp)(x:af):XQ :=
 match un op x with
 | some r=>some (r,[],True)
 | none=>none
def Ei(tb:bQ)(k:TK):Bool :=
 match k with
 | .sl e=>match tb.find e with
  | some f=>match f.k with
   | .int .u8=>true
   | _=>false
  | none=>false
 | _=>true
def GW(tb:bQ)(j:TK)(x:af):Option af :=
 match x with
 | .p _ .str l=>match j with
  | .sl e=>if Ei tb (.sl e)then some (.p false (.slice (.int .u8)) (bX l))else none
  | _=>none
 | .p _ (.int _) n=>match j with
  | .str=>some (.p false .str (Fq n))
  | _=>none
 | _=>none
def zd(tb:bQ)(st p:TypeId)(x:af)(h:Nat→Qz):XQ :=
 match tb.find st with
 | some e=>match tb.find p with
  | some j=>match GW tb j.k x with
   | some r=>some (r,[],True)
   | none=>if Ei tb e.k then(match conv e.k j.k h x with
    | some r=>some (r,[],True)
    | none=>none)else none
  | none=>none
 | none=>none
def AN(tb:bQ)(new:Nat)(st f:TypeId)(x:af):XQ :=
 match tb.find st with
 | some _=>match tb.find f with
  | some j=>match x with
   | .p _ .str l=>match j.k with
    | .sl e=>if Ei tb (.sl e)then some (.sl new,[(new,some (.bytes e (bX l)))],True)else none
    | _=>none
   | _=>none
  | none=>none
 | none=>none
def oL(tb:bQ)(new:Nat)(t:TypeId)(x:af)(f hi:Option (Option Int))(h:Nat→Qz):XQ :=
 match tb.find t with
 | some ti=>match f,hi with
  | some l,some r=>match x with
   | .p _ .str s=>match ti.k with
    | .str=>some (.p false .str ((s.take (r.getD s.length).toNat).drop (l.getD 0).toNat),[],0≤l.getD 0∧l.getD 0≤r.getD s.length∧r.getD s.length≤s.length)
    | _=>none
   | .p β (.slice A) xs=>match gU tb t with
    | some (_,_,B)=>if A=B then some (.p β (.slice A) ((xs.take (r.getD xs.length).toNat).drop (l.getD 0).toNat),[],0≤l.getD 0∧l.getD 0≤r.getD xs.length∧r.getD xs.length≤xs.length)else none
    | none=>none
   | .sl id=>match h id with
    | some (.arr e A xs)=>match gU tb t with
     | some (_,_,_)=>match l,r with
      | none,some k=>some (.sl new,[(id,none),(new,some (.arr e A (xs.take k.toNat)))],0≤k∧k≤xs.length)
      | _,_=>none
     | none=>none
    | some (.fz A xs)=>match gU tb t with
     | some (_,_,B)=>if A=B then some (.p false (.slice A) ((xs.take (r.getD xs.length).toNat).drop (l.getD 0).toNat),[],0≤l.getD 0∧l.getD 0≤r.getD xs.length∧r.getD xs.length≤xs.length)else none
     | none=>none
    | _=>none
   | .nils=>match gU tb t with
    | some (_,_,_)=>some (.nils,[],0≤l.getD 0∧l.getD 0≤r.getD 0∧r.getD 0≤0)
    | none=>none
   | _=>none
  | _,_=>none
 | none=>none
def intOf:af→Option Int
 | .p _ (.int _) n=>some n
 | _=>none
def sS(tb:bQ)(t:TypeId)(x:af)(e:Option (Option Int))(hi mx:af)(h:Nat→Qz):XQ :=
 match gU tb t,e,intOf hi,intOf mx with
 | some (_,_,B),some l,some r,some q=>match x with
  | .p β (.slice A) xs=>if A=B then some (.p β (.slice A) ((xs.take r.toNat).drop (l.getD 0).toNat),[],0≤l.getD 0∧l.getD 0≤r∧r≤q∧q≤xs.length)else none
  | .sl id=>match h id with
   | some (.fz A xs)=>if A=B then some (.p false (.slice A) ((xs.take r.toNat).drop (l.getD 0).toNat),[],0≤l.getD 0∧l.getD 0≤r∧r≤q∧q≤xs.length)else none
   | _=>none
  | _=>none
 | _,_,_,_=>none
def Ce(tb:bQ)(new:Nat)(t:TypeId)(x:af)(e:Option (Option Int))(hi mx:af)(h:Nat→Qz):XQ :=
 match gU tb t,e,intOf hi,intOf mx with
 | some (_,_,B),some none,some r,some q=>match fY h x with
  | some (.p false (.slice A) xs,u)=>if A=B then some (.sl new,u++[(new,some (.cutz A (xs.take r.toNat)))],0≤r∧r=q∧r≤xs.length)else none
  | _=>none
 | _,_,_,_=>none
def Ar(tb:bQ)(t:TypeId)(x:af)(f:Nat):XQ :=
 match tb.find t with
 | some ti=>match ti.k with
  | .st e=>match e[f]? with
   | some (off,_)=>match x with
    | .adr id i sz k=>some (.adr id i sz (k+off),[],True)
    | .fad β j k=>some (.fad β j (k+off),[],True)
    | _=>none
   | none=>none
  | _=>none
 | none=>none
def iS(tb:bQ)(t:TypeId)(x i:af)(h:Nat→Qz):XQ :=
 match gU tb t with
 | some (_,e,_)=>match i with
  | .p _ (.int _) n=>match yb h x n with
   | some (y,sz,c)=>if sz=e.size then some (y,[],c)else none
   | none=>none
  | _=>none
 | none=>none
def Bj(tb:bQ)(t:TypeId)(x i:af):XQ :=
 match tb.find t with
 | some ti=>match ti.k with
  | .str=>match x,i with
   | .p _ .str s,.p _ (.int _) n=>some (.p false (.int .u8) ((s.getD n.toNat 0).toNat:Int),[],0≤n∧n<s.length)
   | _,_=>none
  | .ar n e=>match tb.find e with
   | some j=>match j.k with
    | .int k=>match x,i with
     | .agg f,.p _ (.int _) m=>if f.length=n then(match qI k f with
      | some l=>some (.p false (.int k) (l.getD (show Int from m).toNat 0),[],0≤(show Int from m)∧(show Int from m)<(n:Int))
      | none=>none)else none
     | _,_=>none
    | _=>none
   | none=>none
  | _=>none
 | none=>none
def uM(x:af)(i:Nat):XQ :=
 match x with
 | .tup e=>match e[i]? with
  | some y=>some (y,[],True)
  | none=>none
 | _=>none
def Gf(e:TypeId)(f:TI)(A:Ty)(n:Nat):Obj :=
 match A with
 | .slice B=>match f.k,f.z with
  | .sl j,[.nils]=>if 0<B.size then .mat e j B (List.replicate n []) none else .arr e (.slice B) (List.replicate n [])
  | _,_=> .arr e (.slice B) (List.replicate n [])
 | A=> .arr e A (List.replicate n A.zero)
def DL(tb:bQ)(new:Nat)(t:TypeId)(l c:af):XQ :=
 match gU tb t with
 | some (e,f,A)=>match l,c with
  | .p _ (.int _) n,.p _ (.int _) k=>some (.sl new,[(new,some (Gf e f A n.toNat))],0≤n∧n≤k∧(f.bytes:Int)*k≤281474976710656∧k≤9223372036854775807)
  | _,_=>none
 | none=>none
def isStr:af→Bool
 | .p _ .str _=>true
 | _=>false
def Cz(tb:bQ)(t:TypeId)(x:af)(h:Nat→Qz):XQ :=
 match tb.find t with
 | some ti=>match lenOf h x with
  | some n=>match ti.k with
   | .sl _=>if isStr x then none else some (.p false (.int .i64) n,[],True)
   | .str=>if isStr x then some (.p false (.int .i64) n,[],True)else none
   | _=>none
  | none=>none
 | none=>none
def mG(tb:bQ)(new:Nat)(t:TypeId)(x y:af)(h:Nat→Qz):XQ :=
 match gU tb t with
 | some (e,j,A)=>match eT h A y with
  | some f=>match x with
   | .nils=>some (.sl new,[(new,some (.arr e A f))],(([]:List A.den).length+f.length)*j.bytes≤140737488355328∧([]:List A.den).length+f.length≤9223372036854775807)
   | .sl id=>match h id with
    | some (.arr p B xs)=>if q:B=A then(if p=e then some (.sl new,[(id,none),(new,some (.arr e A ((q ▸ xs:List A.den)++f)))],((q ▸ xs:List A.den).length+f.length)*j.bytes≤140737488355328∧(q ▸ xs:List A.den).length+f.length≤9223372036854775807)else none)else none
    | some (.cutz B xs)=>if q:B=A then some (.sl new,[(new,some (.arr e A ((q ▸ xs:List A.den)++f)))],0<f.length∧((q ▸ xs:List A.den).length+f.length)*j.bytes≤140737488355328∧(q ▸ xs:List A.den).length+f.length≤9223372036854775807)else none
    | _=>none
   | _=>none
  | none=>none
 | none=>none
def rW(tb:bQ)(t:TypeId)(x y:af)(h:Nat→Qz):XQ :=
 match gU tb t with
 | some (_,_,A)=>match eT h A y with
  | some e=>match x with
   | .sl id=>match h id with
    | some (.arr f B xs)=>if q:B=A then some (.p false (.int .i64) ((min e.length (q ▸ xs:List A.den).length:Nat):Int),[(id,some (.arr f A (e.take (q ▸ xs:List A.den).length++(q ▸ xs:List A.den).drop e.length)))],True)else none
    | _=>none
   | _=>none
  | none=>none
 | none=>none
def H6(P:Program)(f:TypeId)(e:TI):Option (Ty×Prop) :=
 match IH e.k with
 | some K=>some (K,True)
 | none=>match e.T with
  | some K=>if K.scalar=false then some (K,hN P f K)else none
  | none=>none
def Hf(P:Program)(tb:bQ)(t:TypeId):Option (Ty×Ty×Prop) :=
 match tb.find t with
 | some ti=>match ti.k with
  | .mp e f=>match tb.find e,tb.find f with
   | some j,some p=>match H6 P e j,p.T with
    | some (K,c),some A=>some (K,A,c)
    | _,_=>none
   | _,_=>none
  | _=>none
 | none=>none
def sE(K:Ty)(x:af):Option K.den :=
 match x with
 | .p _ f i=>if q:f=K then(if K.scalar=true then some (q ▸ i)else none)else none
 | .agg e=>if K.scalar=false∧e.length=K.size then match im K e with
  | some (k,_)=>some k
  | none=>none
  else none
 | .lag k n j []=>if q:Ty.arr k n=K then some (q ▸ (show(Ty.arr k n).den from j))else none
 | _=>none
def uJ(P:Program)(tb:bQ)(new:Nat)(t:TypeId):XQ :=
 match Hf P tb t with
 | some (K,A,c)=>some (.mp new,[(new,some (.mpo K A []))],c)
 | none=>none
def mz(P:Program)(tb:bQ)(t:TypeId)(x k:af)(ok:Bool)(h:Nat→Qz):XQ :=
 match Hf P tb t with
 | some (K,A,c)=>match x with
  | .mp id=>match h id with
   | some (.mpo e f j)=>match sE e k with
    | some i=>if e=K∧f=A then
     some (if ok then .tup [enc false f ((aW e j i).getD f.zero),.p false .bool (aW e j i).isSome]else enc false f ((aW e j i).getD f.zero),[],c)else none
    | none=>none
   | _=>none
  | _=>none
 | none=>none
def fK(P:Program)(tb:bQ)(t:TypeId)(x k y:af)(h:Nat→Qz):XQ :=
 match Hf P tb t with
 | some (K,A,c)=>match x with
  | .mp id=>match h id with
   | some (.mpo e f q)=>match sE e k with
    | some i=>if e=K∧f=A∧(cellsOf y).all af.cell=true∧kj f y=true then
     match Fm f h y with
     | some (z,j)=>if j.all (fun p=>p.1 != id)then some (.unk,j++[(id,some (.mpo e f (cm e q i z)))],c)else none
     | none=>none
     else none
    | none=>none
   | _=>none
  | _=>none
 | none=>none
def Gc(P:Program)(tb:bQ)(t:TypeId):Option (Ty×Prop) :=
 match tb.find t with
 | some ti=>match ti.k with
  | .mp e f=>match tb.find e,tb.find f with
   | some j,some p=>match p.T with
    | none=>H6 P e j
    | some _=>none
   | _,_=>none
  | _=>none
 | none=>none
def Kg(tb:bQ)(t:TypeId):af :=
 match tb.find t with
 | some ti=>match ti.k with
  | .mp _ e=>match tb.find e with
   | some f=>zV f
   | none=> .unk
  | _=> .unk
 | none=> .unk
def tM(P:Program)(tb:bQ)(new:Nat)(t:TypeId):XQ :=
 match Gc P tb t with
 | some (K,c)=>some (.mp new,[(new,some (.mpl K []))],c)
 | none=>none
def valOf:af→QW
 | .lit v=>some v
 | .fn f []=>some (.func (.func f) #[] #[])
 | .agg [.fn f []]=>some (.agg #[.func (.func f) #[] #[]])
 | _=>none
def eY(P:Program)(tb:bQ)(t:TypeId)(x k y:af)(h:Nat→Qz):XQ :=
 match Gc P tb t with
 | some (K,c)=>match x with
  | .mp id=>match h id with
   | some (.mpl e f)=>match sE e k,valOf y with
    | some i,some v=>if e=K∧f.all (fun p=> !cd e p.1 i)=true then some (.unk,[(id,some (.mpl e (f++[(i,v)])))],c)else none
    | _,_=>none
   | _=>none
  | _=>none
 | none=>none
def lz(P:Program)(tb:bQ)(t:TypeId)(g:QV)(x k:af)(ok:Bool)(h:Nat→Qz):XQ :=
 match Gc P tb t with
 | some (K,c)=>match x with
  | .mp id=>match h id with
   | some (.mpl e f)=>match sE e k,g with
    | some i,[j]=>if e=K∧ok=true then some (Dn (Kg tb t) ((f[j]?).map (·.2)),[],c∧sd e f i j)else none
    | _,_=>none
   | _=>none
  | _=>none
 | none=>none
def sL(tb:bQ)(t:TypeId)(x:af)(h:Nat→Qz):XQ :=
 match tb.find t with
 | some ti=>match ti.k,x with
  | .mp _ _,.mp id=>match h id with
   | some (.mpo _ _ e)=>some (.p false (.int .i64) (e.length:Int),[],True)
   | _=>none
  | _,_=>none
 | none=>none
def DR(b:Bool)(x y:af):XQ :=
 match x,y with
 | .p _ (.int k) i,.p _ (.int e) j=>if e=k then some (.p false (.int k) (if b then max (show Int from i) j else min (show Int from i) j),[],True)else none
 | _,_=>none
def Mb:af→Bool
 | .mp _=>true
 | _=>false
def y8:Ty→List Ty
 | .unit=>[]
 | .prod a b=>y8 a++y8 b
 | .tree e f=>[.int e,.int f,.slice (.tree e f)]
 | T=>[T]
def ss:Ty→af→af
 | .slice A,.nils=> .p false (.slice A) []
 | .ptr A,.nilp=> .p false (.ptr A) none
 | _,x=>x
def l4:List Ty→List af→List af
 | T::Ts,c::cs=>ss T c::l4 Ts cs
 | _,cs=>cs
def CG(T:Ty):af→af
 | .agg e=> .agg (l4 (y8 T) e)
 | x=>ss T x
def vU(tb:bQ)(t:TypeId)(x:af):af :=
 match tb.find t with
 | some ti=>match ti.T with
  | some T=>CG T x
  | none=>x
 | none=>x
def gR(tb:bQ):List Bool→List TypeId→List af→List af
 | true::bs,t::ts,x::xs=>vU tb t x::gR tb bs ts xs
 | false::bs,_::ts,x::xs=>x::gR tb bs ts xs
 | _,_,xs=>xs
section
variable{P:Program}{Bw:Nat→Prop}{w0:cz P}{ρ:Nat→QW}{φ:Nat→Nat→Prop}{h:Nat→Qz}{w:World}{new:Nat}
theorem GH(m:Mem Bw w0 ρ φ h w){o:Oper}{a:Act}{t:TypeId}{ti:TI}(ht:aN P t ti){e:Operand}{x:af}(f:V (Fr (own φ h) Bw w) ρ x (a.eval e))(j:o.op = .load t e)
  {r:af} {u:gT} {c:Prop} (hd:mK ti x h=some (r,u,c)):Good P o a w (aF Bw w0 ρ φ h w new r u):=by
 unfold mK at hd;split at hd
 ·rename_i id b n i k hk;split at hd
  ·rename_i p hb;split at hd
   ·rename_i hn;split at hd
    ·rename_i l hl;cases hd;exact zn m ht hk f j hb hl hn
    ·cases hd
   ·cases hd
  ·cases hd
 ·cases hd
theorem G8(m:Mem Bw w0 ρ φ h w){o:Oper}{a:Act}{t:TypeId}{ti:TI}(ht:aN P t ti){e f:Operand}{x y:af}(j:V (Fr (own φ h) Bw w) ρ x (a.eval e))(p:V (Fr (own φ h) Bw w) ρ y (a.eval f))(q:o.op = .store t e f)
  {r:af} {u:gT} {c:Prop} (hd:kM ti x y h=some (r,u,c)):Good P o a w (aF Bw w0 ρ φ h w new r u):=by
 unfold kM at hd;split at hd
 ·rename_i id b n i β k v;split at hd
  ·rename_i z hb;split at hd
   ·rename_i hn;split at hd
    ·rename_i l hl;cases hd;exact xj m ht hn.2 j p q hb hl hn.1
    ·cases hd
   ·cases hd
  ·cases hd
 ·cases hd
theorem Ep{tb:bQ}(m:Mem Bw w0 ρ φ h w)(f:cb P tb){o:Oper}{a:Act}{t:TypeId}{D io:Operand}{x i:af}(B:V (Fr (own φ h) Bw w) ρ x (a.eval D))(hi:V (Fr (own φ h) Bw w) ρ i (a.eval io))(C:o.op = .indexAddr t D io)
  {r:af} {u:gT} {c:Prop} (hd:kL tb t x i h=some (r,u,c)) (hc:c):Good P o a w (aF Bw w0 ρ φ h w new r u):=by
 unfold kL at hd;split at hd
 ·rename_i ti ht;split at hd
  ·rename_i n e hk;split at hd
   ·rename_i J z;split at hd
    ·rename_i q;split at hd
     ·rename_i id j sz off β k E;split at hd
      ·rename_i I hb;cases hd;exact wZ m (f.find ht) hk (f.find z) q B hb hi C hc
      ·cases hd
     ·rename_i id b N p β k E;cases hd;exact wk m (f.find ht) hk (f.find z) q B hi C hc
     ·cases hd
    ·split at hd
     ·rename_i q;split at hd
      ·rename_i id j sz off β k E;split at hd
       ·rename_i I hb;cases hd;exact wg m (f.find ht) hk (f.find z) q B hb hi C hc
       ·cases hd
      ·cases hd
     ·cases hd
   ·cases hd
  ·cases hd
 ·cases hd
theorem EN(m:Mem Bw w0 ρ φ h w)(hn:ρ new=none){o:Oper}{a:Act}{t:TypeId}{ti:TI}(ht:aN P t ti){C:Operand}{x:af}(D:V (Fr (own φ h) Bw w) ρ x (a.eval C))(E:o.op = .load t C)
  {r:af} {u:gT} {c:Prop} (hd:lX new ti x h=some (r,u,c)) (hc:c):Good P o a w (aF Bw w0 ρ φ h w new r u):=by
 unfold lX at hd;split at hd
 ·rename_i id i sz off;split at hd
  ·rename_i f;obtain⟨rfl,rfl,hk⟩:=f;split at hd
   ·rename_i e J A p hi;cases hd;exact qY m hn ht hk D E hi hc
   ·rename_i e J A p k j hi;split at hd
    ·rename_i Y B Z L;split at hd
     ·rename_i q;subst q;split at hd
      ·rename_i M;subst M;simp only[Option.some.injEq,Prod.mk.injEq]at hd;obtain⟨rfl,rfl,rfl⟩:=hd;obtain⟨N,I⟩:=m.vS hi L;have O:=qY (new:=new) N hn ht hk (V.mono I (fun _ _ h=>h) D) E (aB _ _ _) (i:=i) (by rw[List.length_set];exact hc);exact fun K Q z=>O K Q fun v w' X=>z v w' (aF.Hp rfl I X)
      ·cases hd
     ·cases hd
    ·cases hd
   ·cases hd
  ·cases hd
 ·cases hd
theorem FQ(m:Mem Bw w0 ρ φ h w){o:Oper}{a:Act}{t:TypeId}{ti:TI}(ht:aN P t ti){J L:Operand}{id i:Nat}(x:V (Fr (own φ h) Bw w) ρ (.adr id i 1 0) (a.eval J)){y:af}(z:V (Fr (own φ h) Bw w) ρ y (a.eval L))(B:(cellsOf y).length=ti.size)
  (D:o.op = .store t J L) {e M:TypeId} {A:Ty} {p:List (List A.den)} {hole:Option (Nat×Nat)} (hi:h id=some (.mat e M A p hole)) {r:af} {u:gT} {c:Prop} (hd:sM id i e M A p hole y h=some (r,u,c)) (hc:c) :
  Good P o a w (aF Bw w0 ρ φ h w new r u):=by
 unfold sM at hd;split at hd
 ·rename_i rr;have f:ti.size=1:=B.symm;split at hd
  ·split at hd
   ·split at hd
    ·cases hd;exact pc m ht f x z D hi hc (fun k j e=>by cases e)
    ·rename_i k j;split at hd
     ·cases hd;exact pc m ht f x z D hi hc.2 (fun k' j' e=>by cases e;exact hc.1)
     ·rename_i e4 C ys N;split at hd
      ·rename_i q;subst q;split at hd
       ·rename_i O;obtain⟨rfl,_⟩:=O;simp only[Option.some.injEq,Prod.mk.injEq]at hd;obtain⟨rfl,rfl,rfl⟩:=hd;obtain⟨X,E⟩:=m.vS hi N;have Y:=pc (new:=new) X ht f (V.mono E (fun _ _ h=>h) x) (V.mono E (fun _ _ h=>h) z) D (aB _ _ _) (i:=i) (by rw[List.length_set];exact hc) (fun k j e=>by cases e);exact fun K Q I=>Y K Q fun v w' Z=>I v w' (aF.Hp rfl E Z)
       ·cases hd
      ·cases hd
     ·cases hd
   ·cases hd
  ·cases hd
 ·cases hd
theorem EV(m:Mem Bw w0 ρ φ h w)(hn:ρ new=none){o:Oper}{a:Act}{t e:TypeId}{ti j:TI}(ht:aN P t ti)(hk:ti.k = .sl e)(f:aN P e j){A:Ty}(hT:j.T=some A)(I:0<A.size)
  {u co:Operand} (x:o.op = .makeSlice t u co) {β q:Bool} {J L:IntKind} {l c:Int} (hl:V (Fr (own φ h) Bw w) ρ (.p β (.int J) l) (a.eval u)) (hc:V (Fr (own φ h) Bw w) ρ (.p q (.int L) c) (a.eval co))
  (z:0≤l) (C:l≤c) (D:(j.bytes:Int)*c≤281474976710656) (E:c≤9223372036854775807) :
  Good P o a w (aF Bw w0 ρ φ h w new (.sl new) [(new,some (Gf e j A l.toNat))]):=by
 have key:=vH (new:=new) m hn ht hk f hT I x hl hc z C D E;unfold Gf;split
 ·rename_i B;split
  ·rename_i N M hz;split
   ·rename_i hB;exact yY m hn ht hk f hT hz hB x hl hc z C D E
   ·exact key
  ·exact key
 ·exact key
end
theorem Bv{F:Bool→Addr→Value→Prop}{ρ:Nat→QW}{T:Ty}{x:af}{v:Value}(h:V F ρ x v):V F ρ (ss T x) v:=by
 unfold ss;split
 ·simp only[V]at h ⊢;exact⟨rfl,none,0,0,h.symm,⟨rfl,Nat.le_refl _⟩,fun i hi=>absurd hi (by simp)⟩
 ·simp only[V]at h ⊢;exact⟨rfl,h.symm⟩
 ·exact h
theorem vB{T:Ty}{x:af}:ids (ss T x)=ids x:=by
 unfold ss;split <;> simp[ids]
theorem uZ{F:Bool→Addr→Value→Prop}{ρ:Nat→QW}:∀ {Ts:List Ty} {e:List af} {g:Nat→Value→Prop},VL F ρ e g→VL F ρ (l4 Ts e) g
 | [],e,g,h=>by cases e <;> exact h
 | T::Ts,[],g,h=>h
 | T::Ts,c::e,g,h=>by
  simp only[l4,VL]at h ⊢;obtain⟨⟨u,f,j⟩,p⟩:=h;exact⟨⟨u,f,Bv j⟩,uZ p⟩
theorem oF:∀ {Ts:List Ty} {cs:List af},(l4 Ts cs).length=cs.length
 | [],cs=>by cases cs <;> rfl
 | T::Ts,[]=>rfl
 | T::Ts,c::cs=>by simp[l4,oF (Ts:=Ts) (cs:=cs)]
theorem tJ:∀ {Ts:List Ty} {cs:List af},bu (l4 Ts cs)=bu cs
 | [],cs=>by cases cs <;> rfl
 | T::Ts,[]=>rfl
 | T::Ts,c::cs=>by simp[l4,bu,vB,tJ (Ts:=Ts) (cs:=cs)]
theorem FK{tb:bQ}{t:TypeId}{F:Bool→Addr→Value→Prop}{ρ:Nat→QW}{x:af}{v:Value}(h:V F ρ x v):V F ρ (vU tb t x) v:=by
 unfold vU;split
 ·split
  ·unfold CG;split
   ·simp only[V]at h ⊢;obtain⟨f,e,j,hl⟩:=h;exact⟨f,e,by rw[oF];exact j,uZ hl⟩
   ·exact Bv h
  ·exact h
 ·exact h
theorem CE{tb:bQ}{t:TypeId}{x:af}:ids (vU tb t x)=ids x:=by
 unfold vU;split
 ·split
  ·unfold CG;split
   ·simp only[ids,tJ]
   ·exact vB
  ·rfl
 ·rfl
theorem ju{tb:bQ}{F:Bool→Addr→Value→Prop}{ρ:Nat→QW}:∀ {f:List Bool} {j:List TypeId} {xs:List af} {e:QY},iH F ρ xs e→iH F ρ (gR tb f j xs) e
 | true::f,t::j,x::xs,e,h=>by
  cases e with
  | nil=>exact h.elim
  | cons v e=>exact⟨FK h.1,ju h.2⟩
 | false::f,t::j,x::xs,e,h=>by
  cases e with
  | nil=>exact h.elim
  | cons v e=>exact⟨h.1,ju h.2⟩
 | [],j,xs,e,h=>by simpa only [gR]using h
 | b::f,[],xs,e,h=>by cases b <;> simpa only [gR]using h
 | b::f,t::j,[],e,h=>by cases b <;> simpa only [gR]using h
theorem m8{tb:bQ}:∀ {bs:List Bool} {ts:List TypeId} {xs:List af},bu (gR tb bs ts xs)=bu xs
 | true::bs,t::ts,x::xs=>by simp only[gR,bu,CE,m8 (bs:=bs) (ts:=ts) (xs:=xs)]
 | false::bs,t::ts,x::xs=>by simp only[gR,bu,m8 (bs:=bs) (ts:=ts) (xs:=xs)]
 | [],ts,xs=>by simp only[gR]
 | b::bs,[],xs=>by cases b <;> simp only[gR]
 | b::bs,t::ts,[]=>by cases b <;> simp only[gR]
def wW(h:Nat→Qz)(x:af):Option (af×gT) :=
 match x with
 | .agg e=>match pT h e with
  | some (f,u)=>some (.agg f,u)
  | none=>none
 | x=>fY h x
def frzL(h:Nat→Qz):List Bool→List af→Option (List af×gT)
 | _,[]=>some ([],[])
 | [],xs=>some (xs,[])
 | false::bs,x::xs=>match frzL h bs xs with
  | some (e,u)=>some (x::e,u)
  | none=>none
 | true::bs,x::xs=>match wW h x with
  | some (y,u)=>match frzL (apply u h) bs xs with
   | some (e,j)=>some (y::e,u++j)
   | none=>none
  | none=>none
structure uY where
 r:af
 fl:List Bool
 own:Bool
 cn:List Bool
 g:QV
 hout:Qw
 die:QW
def dieOf:Option uY→QW
 | some q=>q.die
 | none=>none
def wF(P:Program)(f:FuncId)(args:List af)(hin:Qw)(q:uY):Prop :=
 match q.die with
 | none=>jo P f args hin q.r q.hout
 | some x=>jD P f args hin x
def MW:Option uY→QV
 | some q=>q.g
 | none=>[]
def Ae:af→af
 | .lit (.func (.func f) e j)=>if e.isEmpty && j.isEmpty then .fn f []else .unk
 | x=>x
def IP:Option uY→List Bool
 | some q=>q.cn
 | none=>[]
def uC(P:Program)(new:Nat)(iG:Option uY)(f:af)(xs:List af)(h:Nat→Qz):XQ :=
 match f,iG with
 | .fn fid e,some q=>match frzL h q.fl xs with
  | some (j,u) =>
   if q.own then
    if q.g.all (fun i=>(u6 h (f::xs)).contains i)then
     match qX q.g (less q.g (apply u h)) (j++e),jO q.g (apply u h) 0 q.g with
     | some args,some hin=>if tR q.g q.hout q.r then some (lL (sh q.g new) q.r,u++uo q.g new q.hout,wF P fid args hin q)else none
     | _,_=>none
    else none
   else match nU (apply u h) (j++e)with
   | some args=>some (q.r,u,Pure P fid args q.r)
   | none=>none
  | none=>none
 | _,_=>none
def yt(asm:Option Bool)(c:af)(s:Nat→af)(x y:Operand):XQ :=
 match asm,c with
 | some b,.p _ .bool e=>some (ev s (if b then x else y),[],e=b)
 | none,.p _ .bool e=>match e with
  | true=>some (ev s x,[],True)
  | false=>some (ev s y,[],True)
 | _,_=>none
def Dc(fn:Fn)(first:List Operand)(e:List af):XQ :=
 match fn,first with
 | .func f,[]=>some (.fn f e,[],True)
 | _,_=>none
def qz(tb:bQ)(new:Nat)(b:Builtin)(xs:List af)(e:List TypeId)(h:Nat→Qz):XQ :=
 match b,xs,e with
 | .len,[x],[t]=>if Mb x then sL tb t x h else Cz tb t x h
 | .min,[x,y],_=>DR false x y
 | .max,[x,y],_=>DR true x y
 | .append,[x,y],[t,j]=>if t=j then mG tb new t x y h else none
 | .copy,[x,y],[t,_]=>rW tb t x y h
 | _,_,_=>none
def po(P:Program)(tb:bQ)(new:Nat)(iG:Option uY)(c:Call)(s:Nat→af)(h:Nat→Qz):XQ :=
 match c.callee with
 | .builtin b=>qz tb new b (c.args.toList.map (ev s)) c.argTypes.toList h
 | .value f=>uC P new iG (Ae (ev s f)) (gR tb (IP iG) c.argTypes.toList (c.args.toList.map (ev s))) h
 | _=>none
def gO(P:Program)(tb:bQ)(new:Nat)(asm:Option Bool)(iG:Option uY)(op:Op)(s:Nat→af)(h:Nat→Qz):XQ :=
 match op with
 | .move x=>some (ev s x,[],True)
 | .assign x=>some (ev s x,[],True)
 | .pick c x y=>yt asm (ev s c) s x y
 | .alloc t=>Bi tb new t
 | .box _ x=>GB new (ev s x)
 | .build t e=>pa tb t (e.toList.map (·.1)) (e.toList.map fun p=>ev s p.2)
 | .buildSlice t len e=>me tb new t len (e.toList.map (·.1)) (e.toList.map fun p=>ev s p.2) h
 | .load t x=>yZ tb new t (ev s x) h
 | .store t x y=>pb tb t (ev s x) (ev s y) h
 | .binOp op t x y _=>GI P tb op t (ev s x) (ev s y)
 | .nilCheck x=>G0 (ev s x)
 | .unOp op _ x=>IY op (ev s x)
 | .convert st u x=>match iG with
  | none=>zd tb st u (ev s x) h
  | some _=>AN tb new st u (ev s x)
 | .slice t x q hi none=>oL tb new t (ev s x) (pF s q) (pF s hi) h
 | .slice t x q (some hi) (some mx)=>match iG with
  | none=>sS tb t (ev s x) (pF s q) (ev s hi) (ev s mx) h
  | some _=>Ce tb new t (ev s x) (pF s q) (ev s hi) (ev s mx) h
 | .fieldAddr t x f=>Ar tb t (ev s x) f
 | .indexAddr t x i=>match iS tb t (ev s x) (ev s i) h with
  | some r=>some r
  | none=>kL tb t (ev s x) (ev s i) h
 | .index t x i=>Bj tb t (ev s x) (ev s i)
 | .extract x i=>uM (ev s x) i
 | .typeAssert x _ t ok=>sJ P (ev s x) t ok
 | .makeFunc fn first j=>Dc fn first.toList (j.toList.map (ev s))
 | .makeSlice t l c=>DL tb new t (ev s l) (ev s c)
 | .makeMap t none=>match uJ P tb new t with
  | some r=>some r
  | none=>tM P tb new t
 | .lookup t x k ok=>match mz P tb t (ev s x) (ev s k) ok h with
  | some r=>some r
  | none=>lz P tb t (MW iG) (ev s x) (ev s k) ok h
 | .mapUpdate t x k y=>match fK P tb t (ev s x) (ev s k) (ev s y) h with
  | some r=>some r
  | none=>eY P tb t (ev s x) (ev s k) (ev s y) h
 | .insert t x k y=>match fK P tb t (ev s x) (ev s k) (ev s y) h with
  | some r=>some r
  | none=>eY P tb t (ev s x) (ev s k) (ev s y) h
 | .call c=>po P tb new iG c s h
 | _=>none
section
variable{P:Program}{tb:bQ}{Bw:Nat→Prop}{w0:cz P}{ρ:Nat→QW}{φ:Nat→Nat→Prop}{h:Nat→Qz}{w:World}{new:Nat}{n:NS}{s:Nat→af}{a:Act}
theorem ca(f:cb P tb){t e:TypeId}{j:TI}{A:Ty}(h:gU tb t=some (e,j,A)):∃ti,aN P t ti∧tb.find t=some ti∧ti.k = .sl e∧aN P e j∧j.T=some A∧0<A.size:=by
 unfold gU at h;split at h
 ·rename_i ti p;split at h
  ·rename_i C q;split at h
   ·rename_i u x;split at h
    ·rename_i D z;split at h
     ·rename_i B;cases h;exact⟨ti,f.find p,p,q,f.find x,z,B⟩
     ·cases h
    ·cases h
   ·cases h
  ·cases h
 ·cases h
theorem nI(f:cb P tb){t:TypeId}{K A:Ty}{c:Prop}(h:Hf P tb t=some (K,A,c))(hc:c):∃ti j p q,aN P t ti∧ti.k = .mp j p∧hN P j K∧aN P p q∧q.T=some A:=by
 unfold Hf at h;split at h
 ·rename_i ti u;split at h
  ·rename_i j p x;split at h
   ·rename_i E q z B;split at h
    ·rename_i I J L e C;cases h;refine⟨ti,j,p,q,f.find u,x,?_,f.find B,C⟩;unfold H6 at e;split at e
     ·rename_i M D;cases e;exact hN.Dx (f.find z) D
     ·split at e
      ·split at e
       ·cases e;exact hc
       ·cases e
      ·cases e
    ·cases h
   ·cases h
  ·cases h
 ·cases h
theorem nH(e:cb P tb){t:TypeId}{K:Ty}{c:Prop}(h:Gc P tb t=some (K,c))(hc:c):∃ti f j p,aN P t ti∧ti.k = .mp f j∧hN P f K∧aN P j p∧Kg tb t=zV p:=by
 unfold Gc at h;split at h
 ·rename_i ti q;split at h
  ·rename_i f j u;split at h
   ·rename_i C p z x;split at h
    ·refine⟨ti,f,j,p,e.find q,u,?_,e.find x,by simp[Kg,q,u,x]⟩;unfold H6 at h;split at h
     ·rename_i D B;cases h;exact hN.Dx (e.find z) B
     ·split at h
      ·split at h
       ·cases h;exact hc
       ·cases h
      ·cases h
    ·cases h
   ·cases h
  ·cases h
 ·cases h
theorem tN{F:Bool→Addr→Value→Prop}{ρ:Nat→QW}{x:af}{v u:Value}(h:valOf x=some v)(f:V F ρ x u):u=v:=by
 unfold valOf at h;split at h
 ·cases h;simpa only [V]using f
 ·cases h;simp only[V]at f;obtain⟨j,e,p,_⟩:=f;have:j = #[]:=Array.eq_empty_of_size_eq_zero (by simpa using p);subst this;exact e
 ·cases h;simp only[V,VL]at f;obtain⟨j,rfl,p,⟨J,q,z,rfl,B,_⟩,_⟩:=f;have C:z = #[]:=Array.eq_empty_of_size_eq_zero (by simpa using B);subst C;have D:j = #[.func (.func _) #[] #[]]:=Array.ext (by simpa using p) (fun i E I=>by
   have:i=0:=by simp at I;omega
   subst this;simpa [Array.getElem?_eq_getElem E]using q)
  rw[D]
 ·cases h
theorem vZ{F:Bool→Addr→Value→Prop}{ρ:Nat→QW}{x:af}{u:Value}(e:V F ρ x u):V F ρ (Ae x) u:=by
 unfold Ae;split
 ·rename_i f j p;split
  ·rename_i hc;simp only[Bool.and_eq_true,Array.isEmpty_iff]at hc;obtain⟨rfl,rfl⟩:=hc;simp only[V]at e ⊢;exact⟨#[],e,rfl,by simp only[VL]⟩
  ·trivial
 ·exact e
theorem AI{x:af}:∀i∈ids (Ae x),i∈ids x:=by
 unfold Ae;split
 ·split
  ·intro i hi;simp[ids,bu]at hi
  ·intro i hi;simp[ids]at hi
 ·exact fun i hi=>hi
theorem gD{F:Bool→Addr→Value→Prop}{ρ:Nat→QW}{K:Ty}{x:af}{k:K.den}{v:Value}(h:sE K x=some k)(e:K.isKey=true)(f:V F ρ x v):v=aS K k:=by
 unfold sE at h;split at h
 ·rename_i β I i;split at h
  ·rename_i q;subst q;split at h
   ·rename_i p;cases h;exact rE e p f
   ·cases h
  ·cases h
 ·rename_i J;split at h
  ·rename_i p;split at h
   ·rename_i L r hu;cases h;simp only[V]at f;obtain⟨z,rfl,B,C⟩:=f;obtain⟨D,M,N⟩:=cQ hu C;rw[jn e p.1];congr 1;refine Array.ext_getElem? fun i=>?_
    rw[List.getElem?_toArray,←Array.getElem?_toList];rcases Nat.lt_or_ge i K.size with hi | hi
    ·have:=jV (l:=z.toList) (o:=0) e (ah.mono (fun _ _ h=>h) (fun j u E=>by rw[Nat.zero_add,Array.getElem?_toList];exact E) D) i hi;rw[Nat.zero_add]at this;exact this
    ·rw[List.getElem?_eq_none (by rw[Array.length_toList,B,p.2];exact hi)];rw[List.getElem?_eq_none (by rw[cS e];exact hi)]
   ·cases h
  ·cases h
 ·rename_i O X xs;split at h
  ·rename_i q;subst q;cases h;simp only[V]at f;obtain⟨z,rfl,hl,-⟩:=f;rw[jn e rfl];cases z with
   | nil=>simp[cE]
   | cons _ _=>simp at hl
  ·cases h
 ·cases h
theorem qq{F:Bool→Addr→Value→Prop}(j:eL n F ρ s a){f:Option Operand}{l:Option Int}(h:pF s f=some l):sQ F ρ a f l:=by
 unfold pF at h;cases f with
 | none=>cases h;trivial
 | some x =>
  simp only at h;split at h
  ·rename_i β k m e;cases h;have:=aV j x;rw[e]at this;exact⟨_,_,this⟩
  ·cases h
theorem lH{F:Bool→Addr→Value→Prop}{x:af}{n:Int}(h:intOf x=some n){v:Value}(e:V F ρ x v):∃β k,V F ρ (.p β (.int k) n) v:=by
 unfold intOf at h;split at h
 ·cases h;exact⟨_,_,e⟩
 ·cases h
theorem CF(m:Mem Bw w0 ρ φ h w){x y:af}{u:gT}(hd:wW h x=some (y,u)):
  Mem Bw w0 ρ φ (apply u h) w∧(∀β a v,Fr (own φ h) Bw w β a v→Fr (own φ (apply u h)) Bw w β a v)∧∀v,V (Fr (own φ h) Bw w) ρ x v→V (Fr (own φ (apply u h)) Bw w) ρ y v:=by
 unfold wW at hd;split at hd
 ·split at hd
  ·rename_i D E j;cases hd;obtain⟨p,q,z,A⟩:=oI m j;refine⟨p,q,fun v f=>?_⟩;simp only[V]at f ⊢;obtain⟨B,e,C,hl⟩:=f;exact⟨B,e,by rw[z];exact C,A _ hl⟩
  ·cases hd
 ·exact gA m hd
theorem nD:∀ {q:List Bool} {xs j:List af} {h:Nat→Qz} {u:gT},Mem Bw w0 ρ φ h w→frzL h q xs=some (j,u) →
  Mem Bw w0 ρ φ (apply u h) w∧(∀β a v,Fr (own φ h) Bw w β a v→Fr (own φ (apply u h)) Bw w β a v)∧∀e,iH (Fr (own φ h) Bw w) ρ xs e→iH (Fr (own φ (apply u h)) Bw w) ρ j e
 | _,[],j,h,u,m,hd=>by
  simp only[frzL]at hd;cases hd;exact⟨m,fun _ _ _ h=>h,fun _ h=>h⟩
 | [],x::xs,j,h,u,m,hd=>by
  simp only[frzL]at hd;cases hd;exact⟨m,fun _ _ _ h=>h,fun _ h=>h⟩
 | false::q,x::xs,j,h,u,m,hd=>by
  simp only[frzL]at hd;split at hd
  ·rename_i z N B;cases hd;obtain⟨C,p,D⟩:=nD m B;refine⟨C,p,fun e f=>?_⟩;cases e with
   | nil=>exact f.elim
   | cons v e=>exact⟨V.mono p (fun _ _ h=>h) f.1,D e f.2⟩
  ·cases hd
 | true::q,x::xs,j,h,u,m,hd=>by
  simp only[frzL]at hd;split at hd
  ·rename_i y u1 B;split at hd
   ·rename_i z O I;cases hd;obtain⟨C,p,D⟩:=CF m B;obtain⟨J,E,L⟩:=nD C I;rw[eO];refine⟨J,fun β a v M=>E _ _ _ (p _ _ _ M),fun e f=>?_⟩;cases e with
    | nil=>exact f.elim
    | cons v e=>exact⟨V.mono E (fun _ _ h=>h) (D v f.1),L e (iH.mono p (fun _ _ h=>h) f.2)⟩
   ·cases hd
  ·cases hd
theorem wo{e:gT}{i:Nat}(hu:e.all (fun p=>p.1 != i)=true):∀ {h:Nat→Qz},apply e h i=h i:=by
 induction e with
 | nil=>intro h;rfl
 | cons p e f =>
  intro h;obtain⟨j,o⟩:=p;simp only[List.all_cons,Bool.and_eq_true,bne_iff_ne,ne_eq]at hu;simp only[apply];rw[f hu.2,aR _ _ (Ne.symm hu.1)]
theorem km{F:Bool→Addr→Value→Prop}{x:af}{b:Bool}(h:zk x=some b){u:Value}(hu:V F ρ x u):∃q,u = .pointer q∧q.isNone=b:=by
 cases x <;> simp only[zk]at h <;> first | (cases h;done) | skip
 ·cases h;simp only[V]at hu;exact⟨none,hu,rfl⟩
 ·cases h;simp only[V]at hu;obtain⟨g,_,e⟩:=hu;exact⟨_,e,rfl⟩
 ·cases h;simp only[V]at hu;obtain⟨f,e,_⟩:=hu;exact⟨_,e,rfl⟩
theorem yx(d:Nat){t e:TypeId}(h:P.underlying t=some (.pointer e))(q:Option Addr):(Op.equalIn (d+1) t (.pointer none) (.pointer q)).run P w = .ok q.isNone w:=by
 simp[Op.equalIn,run_underlying h]
theorem xv(d:Nat){t e:TypeId}(h:P.underlying t=some (.pointer e))(a:Addr):(Op.equalIn (d+1) t (.pointer (some a)) (.pointer none)).run P w = .ok false w:=by
 simp[Op.equalIn,run_underlying h]
theorem zp(d:Nat){t:TypeId}{e:Array (String×TypeId)}(h:P.underlying t=some (.interface e))(a:TypeId)(v:Value):(Op.equalIn (d+1) t (.iface a v) .nilIface).run P w = .ok false w:=by
 simp[Op.equalIn,run_underlying h]
theorem rH{F:Bool→Addr→Value→Prop}{op:BinOp}{b:Bool}{r:af}(h:Hk op b=some r){t:TypeId}{u v:Value}{xo yo:Operand}(f:(eqGuard op t xo yo u v).run P w = .ok () w)
  (j:(Op.equal t u v).run P w = .ok b w) (e:binOp .eql t u v=(do pure (.bool (←Op.equal t u v)))∧binOp .neq t u v=(do pure (.bool (!(←Op.equal t u v))))) :
  ∃z,(do eqGuard op t xo yo u v;binOp op t u v:Sem Value).run P w = .ok z w∧V F ρ r z:=by
 unfold Hk at h;split at h <;> cases h
 ·exact⟨_,by rw[Sem.run_bind,f,Result.andThen_ok,e.1,Sem.run_bind,j];rfl,iP _ _⟩
 ·exact⟨_,by rw[Sem.run_bind,f,Result.andThen_ok,e.2,Sem.run_bind,j];rfl,iP _ _⟩
theorem Ap{F:Bool→Addr→Value→Prop}{ti:TI}{op:BinOp}{t:TypeId}{x y r:af}{us:gT}{c:Prop}(h:Hb P ti op t x y=some (r,us,c))(hc:c){u v:Value}(hu:V F ρ x u)(p:V F ρ y v)(M N:Operand):
  us=[]∧∃z,(do eqGuard op t M N u v;binOp op t u v:Sem Value).run P w = .ok z w∧V F ρ r z:=by
 have ptr:∀ {b:Bool} {q j:Option Addr},u = .pointer q→v = .pointer j→(∃e,P.underlying t=some (.pointer e))→(q.isNone=true∧j.isNone=b∨q.isNone=false∧j.isNone=true∧b=false)→Hk op b=some r →
   ∃z,(do eqGuard op t M N u v;binOp op t u v:Sem Value).run P w = .ok z w∧V F ρ r z:=fun {b q j} C D B hq f=>by
  subst C D;obtain⟨e,B⟩:=B;refine rH f (bI (by intro O e;cases e) (by intro e;cases e)) ?_ ⟨by cases q <;> cases j <;> rfl,by cases q <;> cases j <;> rfl⟩;unfold Op.equal Op.maxDepth;cases q with
  | none =>
   rcases hq with⟨_,X⟩ | ⟨Y,_⟩
   ·subst X;exact yx 9999 B j
   ·cases Y
  | some a =>
   rcases hq with⟨Y,_⟩ | ⟨_,X,q3⟩
   ·cases Y
   ·cases j with
    | none=>subst q3;exact xv 9999 B a
    | some _=>cases X
 unfold Hb at h;split at h
 ·rename_i O ds;split at h
  ·rename_i T hT;split at h
   ·rename_i a b ha hb;split at h
    ·rename_i J f;cases h;refine⟨rfl,?_⟩;simp only[V]at hu p;obtain⟨xs,rfl,sx,lx⟩:=hu;obtain⟨ys,rfl,sy,ly⟩:=p;obtain⟨a1,a2,a3⟩:=cQ ha lx;obtain⟨b1,b2,b3⟩:=cQ hb ly;have hl:∀l:List af,([]:List af)=l.drop T.size→T.size≤l.length→l.length=T.size:=fun l E L=>by have:=congrArg List.length E;simp only[List.length_nil,List.length_drop]at this;omega
     have B:=hc.2 w;have I:T.scalar=false:=hc.1.2;refine rH f (run_eqGuard_agg w op t M N xs ys hc.1.1) ?_ ⟨rfl,rfl⟩;refine B.2.2 (F false) a b _ _ ?_ ?_
     ·unfold nR;rw[I];simp only[Bool.false_eq_true,if_false];exact⟨xs,rfl,by rw[sx,hl O a2 a3],a1⟩
     ·unfold nR;rw[I];simp only[Bool.false_eq_true,if_false];exact⟨ys,rfl,by rw[sy,hl ds b2 b3],b1⟩
    ·cases h
   ·cases h
  ·cases h
 ·rename_i A q;split at h
  ·rename_i J f;cases h;simp only[V]at hu p;cases q with
   | none =>
    have e:u = .pointer none:=hu.2.symm;exact⟨rfl,ptr e p hc (.inl ⟨rfl,rfl⟩) f⟩
   | some y =>
    obtain⟨_,b,e,_⟩:=hu;exact⟨rfl,ptr e.symm p hc (.inr ⟨rfl,rfl,rfl⟩) f⟩
  ·cases h
 ·split at h
  ·rename_i b E L;split at h
   ·rename_i J f;cases h;obtain⟨q,C,D⟩:=km E hu;obtain⟨j,Z,e4⟩:=km L p;exact⟨rfl,ptr C Z hc (.inl ⟨D,e4⟩) f⟩
   ·cases h
  ·rename_i E L;split at h
   ·rename_i J f;cases h;obtain⟨q,C,D⟩:=km E hu;obtain⟨j,Z,e4⟩:=km L p;exact⟨rfl,ptr C Z hc (.inr ⟨D,e4,rfl⟩) f⟩
   ·cases h
  ·split at h
   ·split at h
    ·rename_i J f;cases h;simp only[V]at hu p;subst hu p;obtain⟨ms,a4⟩:=hc;refine⟨rfl,rH f (bI (by intro O e;cases e) (by intro e;cases e)) ?_ ⟨rfl,rfl⟩⟩;unfold Op.equal Op.maxDepth;exact zp 9999 a4 _ _
    ·cases h
   ·cases h
theorem AH(m:Mem Bw w0 ρ φ h w){o:Oper}{f:Operand}{p e:TypeId}{ok:Bool}(z:o.op = .typeAssert f p e ok){x:af}(j:V (Fr (own φ h) Bw w) ρ x (a.eval f)){y:af}{u:gT}{c:Prop}
  (hd:sJ P x e ok=some (y,u,c)) (hc:c):Good P o a w (aF Bw w0 ρ φ h w new y u):=by
 unfold sJ at hd;split at hd
 ·rename_i t v;split at hd
  ·rename_i q;obtain⟨rfl,rfl⟩:=q;cases hd;obtain⟨d,hd,hi⟩:=hc;simp only[V]at j;refine Good.aG (v:= .tuple #[v,.bool true]) (w':=w) ?_ (aF.pure m ?_)
   ·simp only[execOp,z,j];simp only[Instr.typeAssert,Sem.run_bind,run_underlying hd,Result.andThen_ok];cases d <;> first | (simp at hi;done) | (simp;done)
   ·simp only[V,VL];exact⟨_,rfl,rfl,⟨v,by simp,z9 v⟩,⟨.bool true,by simp,by simp only[V,ah];exact⟨rfl,trivial⟩⟩,trivial⟩
  ·cases hd
 ·cases hd
theorem Ef(C:cb P tb)(m:Mem Bw w0 ρ φ h w)(I:eL n (Fr (own φ h) Bw w) ρ s a)(cc:∀j,j<8→ρ (new+j)=none){o:Oper}{asm:Option Bool}{iG:Option uY}(ch:dieOf iG=none){x:af}{u:gT}{c:Prop}
  (hd:gO P tb new asm iG o.op s h=some (x,u,c)) (hc:c):Good P o a w (aF Bw w0 ρ φ h w new x u):=by
 have hn:ρ new=none:=cc 0 (by omega);unfold gO at hd;split at hd
 ·rename_i x' E;cases hd;exact ya m (aV I _) (.inl E)
 ·rename_i x' E;cases hd;exact ya m (aV I _) (.inr E)
 ·rename_i co D O E;unfold yt at hd;split at hd
  ·rename_i b β b' e;cases hd;subst hc;have:=aV I co;rw[e]at this;exact sC m this (aV I _) E
  ·rename_i β b' e;have:=aV I co;rw[e]at this;split at hd
   ·cases hd;exact sC (b:=true) m this (aV I _) E
   ·cases hd;exact sC (b:=false) m this (aV I _) E
  ·cases hd
 ·rename_i t E;unfold Bi at hd;split at hd
  ·rename_i ti ht;cases hd;exact Ci m hn (C.find ht) E
  ·cases hd
 ·rename_i t D E;unfold GB at hd;split at hd
  ·rename_i bs;cases hd;exact F2 m hn (aV I D) bs E _
  ·cases hd
 ·rename_i t ps E;unfold pa at hd;split at hd
  ·rename_i ti ht;split at hd
   ·rename_i fs hk;split at hd
    ·rename_i ds bv;cases hd;have:=jm I (ps.toList.map (·.2));simp only[List.map_map]at this;exact uX m C (C.find ht) hk E this bv
    ·cases hd
   ·rename_i n e hk;split at hd
    ·rename_i te a8;split at hd
     ·rename_i ds bv;cases hd;have:=jm I (ps.toList.map (·.2));simp only[List.map_map]at this;exact th m C (C.find ht) hk (C.find a8) E this bv
     ·cases hd
    ·cases hd
   ·cases hd
  ·cases hd
 ·rename_i t len ps E;unfold me at hd;split at hd
  ·rename_i e te A X;obtain⟨ti,L,_,M,N,h4,h5⟩:=ca C X;split at hd
   ·rename_i Y;split at hd
    ·rename_i ys us b3;cases hd;have:=jm I (ps.toList.map (·.2));simp only[List.map_map]at this;exact uj m hn L M N h4 h5 E Y.1 this (fun x J=>CW ((List.all_eq_true.1 Y.2.1) x J)) b3 Y.2.2
    ·cases hd
   ·cases hd
  ·cases hd
 ·rename_i t D E;unfold yZ at hd;split at hd
  ·rename_i ti ht;split at hd
   ·rename_i cs off c' d1;split at hd
    ·rename_i y hy;cases hd;exact El m (C.find ht) (aV I D) E d1 hc hy
    ·cases hd
   ·split at hd
    ·rename_i r0 bx;cases hd;exact GH m (C.find ht) (aV I D) E bx
    ·exact EN m hn (C.find ht) (aV I D) E hd hc
  ·cases hd
 ·rename_i t D O E;unfold pb at hd;split at hd
  ·rename_i ti ht;split at hd
   ·rename_i Y;split at hd
    ·rename_i id i sz off ex;have J:=aV I D;rw[ex]at J;split at hd
     ·rename_i cs hi;split at hd
      ·rename_i cl;cases hd;exact wm m (C.find ht) J (aV I O) Y.1 E hi Y.2 cl
      ·cases hd
     ·rename_i e A xs hi;split at hd
      ·rename_i ax;split at hd
       ·rename_i z us hz;split at hd
        ·rename_i b5;cases hd;rw[ax.1]at J;exact wj m (C.find ht) J (aV I O) Y.1 E hz hi (by rw[wo b5];exact hi) Y.2 ax.2 hc
        ·cases hd
       ·cases hd
      ·cases hd
     ·rename_i e e2 A dm hole hi;split at hd
      ·rename_i ax;obtain⟨rfl,rfl⟩:=ax;exact FQ m (C.find ht) J (aV I O) Y.2 E hi hd hc
      ·cases hd
     ·rename_i e xs hi;split at hd
      ·rename_i ax;obtain⟨rfl,rfl,d2⟩:=ax;split at hd
       ·rename_i β v ey;have hy:=aV I O;rw[ey]at hy;cases hd;exact sW m (C.find ht) d2 J hy E hi hc
       ·cases hd
      ·cases hd
     ·cases hd
    ·exact G8 m (C.find ht) (aV I D) (aV I O) E hd
   ·cases hd
  ·cases hd
 ·rename_i op t D O t' E;unfold GI at hd;split at hd
  ·rename_i ti ht;split at hd
   ·rename_i r c' hr;cases hd;obtain⟨z,L,M⟩:=ER (P:=P) (w:=w) (C.find ht) hr hc (aV I D) (aV I O) D O;exact Good.aG (v:=z) (w':=w) (by simp only[execOp,E];rw[Sem.run_bind,L];rfl) (aF.pure m M)
   ·obtain⟨hu,z,L,M⟩:=Ap (P:=P) (w:=w) hd hc (aV I D) (aV I O) D O;subst hu;exact Good.aG (v:=z) (w':=w) (by simp only[execOp,E];rw[Sem.run_bind,L];rfl) (aF.pure m M)
  ·cases hd
 ·rename_i D E;have J:=aV I D;unfold G0 at hd;split at hd
  ·rename_i id i sz off ex;cases hd;rw[ex]at J;obtain⟨g,L,M⟩:∃g,_∧a.eval D = .pointer (some ⟨g,i*sz+off,none⟩):=by simpa only [V]using J
   exact Good.aG (v:=a.eval D) (w':=w) (by simp only[execOp,E,M];rfl) (aF.pure m J)
  ·rename_i β cs off ex;cases hd;rw[ex]at J;obtain⟨ad,L,M⟩:∃ad:Addr,a.eval D = .pointer (some (ad.add off))∧_:=by simpa only [V]using J
   exact Good.aG (v:=a.eval D) (w':=w) (by simp only[execOp,E,L];rfl) (aF.pure m J)
  ·rename_i β A q ex;cases hd;rw[ex]at J;cases q with
   | none=>cases hc
   | some y =>
    obtain⟨_,b,e,hv⟩:_∧∃b:Addr,Value.pointer (some b)=a.eval D∧ah (Fr (own φ h) Bw w β) A y (fun k v=>Fr (own φ h) Bw w β (b.add k) v):=by simpa only [V,ah]using J
    refine Good.aG (v:=a.eval D) (w':=w) (by simp only[execOp,E,←e];rfl) (aF.pure m ?_);simp only[V,Option.getD_some];exact⟨b,by rw[←e];unfold Addr.add;simp,jy β A y _ hv⟩
  ·cases hd
 ·rename_i op t D E;unfold IY at hd;split at hd
  ·rename_i r hr;cases hd;obtain⟨z,L,M⟩:=Gh (P:=P) (w:=w) hr (aV I D);exact Good.aG (v:=z) (w':=w) (by simp only[execOp,E];rw[Sem.run_bind,L];rfl) (aF.pure m M)
  ·cases hd
 ·rename_i st dt D E;split at hd
  ·unfold zd at hd;split at hd
   ·rename_i si b6;split at hd
    ·rename_i di b9;split at hd
     ·rename_i r hr;cases hd;obtain⟨dd,be,a6⟩:=(C.find b9).hu;unfold GW at hr;split at hr
      ·rename_i β l ex;have J:=aV I D;rw[ex]at J;split at hr
       ·rename_i e hk;split at hr
        ·rename_i a2;cases hr;rw[hk]at a6;simp only[UK]at a6;subst a6;simp only[Ei]at a2;split at a2
         ·rename_i te a8;obtain⟨d,q1,q2⟩:=(C.find a8).hu;split at a2
          ·rename_i c2;rw[c2]at q2;simp only[UK]at q2;exact Co m (C.find b6) be (by rw[q1,q2]) E J
          ·cases a2
         ·cases a2
        ·cases hr
       ·cases hr
      ·rename_i β k n ex;have J:=aV I D;rw[ex]at J;split at hr
       ·rename_i hk;cases hr;rw[hk]at a6;simp only[UK]at a6;subst a6;exact Eh m (C.find b6) be E J
       ·cases hr
      ·cases hr
     split at hd
     ·rename_i a2;split at hd
      ·rename_i r hr;cases hd;obtain⟨z,L,M⟩:=BW (P:=P) m (C.find b6) (C.find b9) (fun e he=>by
        rw[he]at a2;simp only[Ei]at a2;split at a2
        ·rename_i te a8;obtain⟨d,q1,q2⟩:=(C.find a8).hu;split at a2
         ·rename_i hk;rw[hk]at q2;simp only[UK]at q2;rw[q1,q2]
         ·cases a2
        ·cases a2) hr (aV I D)
       exact Good.aG (v:=z) (w':=w) (by simp only[execOp,E];rw[Sem.run_bind,L];rfl) (aF.pure m M)
      ·cases hd
     ·cases hd
    ·cases hd
   ·cases hd
  ·unfold AN at hd;split at hd
   ·rename_i si b6;split at hd
    ·rename_i di b9;obtain⟨dd,be,a6⟩:=(C.find b9).hu;split at hd
     ·rename_i β l ex;have J:=aV I D;rw[ex]at J;split at hd
      ·rename_i e hk;split at hd
       ·rename_i a2;cases hd;rw[hk]at a6;simp only[UK]at a6;subst a6;simp only[Ei]at a2;split at a2
        ·rename_i te a8;obtain⟨d,q1,q2⟩:=(C.find a8).hu;split at a2
         ·rename_i c2;rw[c2]at q2;simp only[UK]at q2;exact AZ m hn (C.find b6) be (by rw[q1,q2]) E J
         ·cases a2
        ·cases a2
       ·cases hd
      ·cases hd
     ·cases hd
    ·cases hd
   ·cases hd
 ·rename_i t D lo hi E;unfold oL at hd;split at hd
  ·rename_i ti ht;split at hd
   ·rename_i l r hl hr;have b1:=qq I hl;have a3:=qq I hr;have J:=aV I D;split at hd
    ·rename_i β str ex;rw[ex]at J;split at hd
     ·rename_i hk;cases hd;exact vz m (C.find ht) hk E J b1 a3 hc.1 hc.2.1 hc.2.2
     ·cases hd
    ·rename_i β A xs ex;rw[ex]at J;split at hd
     ·rename_i _ _ B X;obtain⟨a9,L,aa,M,N,h4,h5⟩:=ca C X;split at hd
      ·rename_i ac;subst ac;cases hd;exact nQ m L M N h4 E J b1 a3 hc.1 hc.2.1 hc.2.2
      ·cases hd
     ·cases hd
    ·rename_i id ex;rw[ex]at J;split at hd
     ·rename_i e A xs a4;split at hd
      ·rename_i _ _ _ X;obtain⟨a9,L,aa,M,N,h4,h5⟩:=ca C X;split at hd
       ·rename_i k;cases hd;cases lo with
        | some _=>exact b1.elim
        | none =>
         cases hi with
         | none=>exact a3.elim
         | some du =>
          obtain⟨β,kk,hv⟩:=a3;exact wB m hn L M N (A:=A) E a4 J hv hc.1 hc.2
       ·cases hd
      ·cases hd
     ·rename_i A xs a4;split at hd
      ·rename_i _ _ B X;obtain⟨a9,L,aa,M,N,h4,h5⟩:=ca C X;split at hd
       ·rename_i ac;subst ac;cases hd;obtain⟨u,q1,q2⟩:=m.ob id _ a4;simp only[V]at J;rw[J.1]at q1;cases q1;exact nQ m L M N h4 E q2 b1 a3 hc.1 hc.2.1 hc.2.2
       ·cases hd
      ·cases hd
     ·cases hd
    ·rename_i ex;rw[ex]at J;split at hd
     ·rename_i _ _ A X;obtain⟨a9,L,aa,M,N,h4,h5⟩:=ca C X;cases hd;exact wq m L M N E J b1 a3 hc.1 hc.2.1 hc.2.2
     ·cases hd
    ·cases hd
   ·cases hd
  ·cases hd
 ·rename_i t D lo hi mx E;split at hd
  ·unfold sS at hd;split at hd
   ·rename_i _ _ B l r q X hl hr hq;obtain⟨a9,L,aa,M,N,h4,h5⟩:=ca C X;have b1:=qq I hl;obtain⟨d3,k1,a3⟩:=lH hr (aV I hi);obtain⟨d4,k2,bi⟩:=lH hq (aV I mx);have J:=aV I D;split at hd
    ·rename_i β A xs ex;rw[ex]at J;split at hd
     ·rename_i ac;subst ac;cases hd;exact tw m L M N h4 E J b1 a3 bi hc.1 hc.2.1 hc.2.2.1 hc.2.2.2
     ·cases hd
    ·rename_i id ex;rw[ex]at J;split at hd
     ·rename_i A xs a4;split at hd
      ·rename_i ac;subst ac;cases hd;obtain⟨u,q1,q2⟩:=m.ob id _ a4;simp only[V]at J;rw[J.1]at q1;cases q1;exact tw m L M N h4 E q2 b1 a3 bi hc.1 hc.2.1 hc.2.2.1 hc.2.2.2
      ·cases hd
     ·cases hd
    ·cases hd
   ·cases hd
  ·unfold Ce at hd;split at hd
   ·rename_i _ _ B r q X hl hr hq;obtain⟨a9,L,aa,M,N,h4,h5⟩:=ca C X;obtain⟨d3,k1,a3⟩:=lH hr (aV I hi);obtain⟨d4,k2,bi⟩:=lH hq (aV I mx);have J:=aV I D;have d5:lo=none:=by
     cases lo with
     | none=>rfl
     | some y =>simp only[pF]at hl;split at hl <;> cases hl
    subst d5;split at hd
    ·rename_i A xs u' ed;split at hd
     ·rename_i ac;subst ac;cases hd;obtain⟨c1,rfl,c3⟩:=hc;obtain⟨m',hF,hv⟩:=gA m ed;have:=zq (new:=new) m' hn L M N h4 E (hv _ J) (V.mono hF (fun _ _ h=>h) a3) (V.mono hF (fun _ _ h=>h) bi) c1 c3;exact fun K Q d6=>this K Q fun v w' hp=>d6 v w' (aF.after rfl hF hp)
     ·cases hd
    ·cases hd
   ·cases hd
 ·rename_i t D f E;unfold Ar at hd;split at hd
  ·rename_i ti ht;split at hd
   ·rename_i fs hk;split at hd
    ·rename_i off ft hf;split at hd
     ·rename_i id i sz k ex;cases hd;exact oy m (C.find ht) (aV I D) E hk hf (.inl ⟨_,_,_,_,ex,rfl⟩)
     ·rename_i β cs k ex;cases hd;exact oy m (C.find ht) (aV I D) E hk hf (.inr ⟨_,_,_,ex,rfl⟩)
     ·cases hd
    ·cases hd
   ·cases hd
  ·cases hd
 ·rename_i t D io E;split at hd
  case h_2=>exact Ep m C (aV I D) (aV I io) E hd hc
  rename_i r0 bx;cases hd;revert bx;intro hd;unfold iS at hd;split at hd
  ·rename_i e te A X;obtain⟨a9,L,aa,M,N,h4,h5⟩:=ca C X;split at hd
   ·rename_i β k i ei;split at hd
    ·rename_i y sz c' hy;split at hd
     ·rename_i ax;subst ax;cases hd;have hi:=aV I io;rw[ei]at hi;exact vN m L M N (aV I D) hi E hy hc
     ·cases hd
    ·cases hd
   ·cases hd
  ·cases hd
 ·rename_i t D io E;unfold Bj at hd;split at hd
  ·rename_i ti ht;split at hd
   ·rename_i hk;split at hd
    ·rename_i β str c4 k i ex ei;cases hd;have J:=aV I D;have hi:=aV I io;rw[ex]at J;rw[ei]at hi;exact wA m (C.find ht) hk J hi E hc.1 hc.2
    ·cases hd
   ·rename_i n e hk;split at hd
    ·rename_i te a8;split at hd
     ·rename_i k d7;split at hd
      ·rename_i cs β k' j ex ei;split at hd
       ·rename_i hn;split at hd
        ·rename_i l hl;cases hd;have J:=aV I D;have hi:=aV I io;rw[ex]at J;rw[ei]at hi;exact xk m (C.find ht) hk (C.find a8) d7 J hl hn hi E hc
        ·cases hd
       ·cases hd
      ·cases hd
     ·cases hd
    ·cases hd
   ·cases hd
  ·cases hd
 ·rename_i D i E;unfold uM at hd;split at hd
  ·rename_i cs ex;split at hd
   ·rename_i y hy;cases hd;have J:=aV I D;rw[ex]at J;exact zo m J E hy
   ·cases hd
  ·cases hd
 ·rename_i D xt t ok E;exact AH m E (aV I D) hd hc
 ·rename_i fn first cp E
  unfold Dc at hd;split at hd
  ·rename_i f e;cases hd;have e':first = #[]:=Array.ext' e
   subst e';exact wS m E (jm I _)
  ·cases hd
 ·rename_i t lo co E;unfold DL at hd;split at hd
  ·rename_i e te A X;obtain⟨a9,L,aa,M,N,h4,h5⟩:=ca C X;split at hd
   ·rename_i β k l c4 k' c' el ec;cases hd;have hl:=aV I lo;have cx:=aV I co;rw[el]at hl;rw[ec]at cx;exact EV m hn L M N h4 h5 E hl cx hc.1 hc.2.1 hc.2.2.1 hc.2.2.2
   ·cases hd
  ·cases hd
 ·rename_i t E;split at hd
  ·rename_i r b4;cases hd;have hd:=b4;unfold uJ at hd;split at hd
   ·rename_i K A c' hm;cases hd;obtain⟨ti,kt,et,te,L,M,N,h5,h6⟩:=nI C hm hc;exact y4 m hn N.isKey E
   ·cases hd
  ·unfold tM at hd;split at hd
   ·rename_i K c' hm;cases hd;obtain⟨ti,kt,et,te,L,M,N,h5⟩:=nH C hm hc;exact wK m hn N.isKey E
   ·cases hd
 ·rename_i t D ko ok E;split at hd
  ·rename_i r b4;cases hd;have hd:=b4;unfold mz at hd;split at hd
   ·rename_i K A c' hm;split at hd
    ·rename_i id ex;split at hd
     ·rename_i K1 A1 kv hi;split at hd
      ·rename_i i a5;split at hd
       ·rename_i q;obtain⟨rfl,rfl⟩:=q;cases hd;obtain⟨ti,kt,et,te,L,M,N,h5,h6⟩:=nI C hm hc;have J:=aV I D;have hk:=aV I ko;rw[ex]at J;exact BD m L M N h5 h6 E hi J (gD a5 N.isKey hk)
       ·cases hd
      ·cases hd
     ·cases hd
    ·cases hd
   ·cases hd
  ·unfold lz at hd;split at hd
   ·rename_i K c' hm;split at hd
    ·rename_i id ex;split at hd
     ·rename_i K1 kv hi;split at hd
      ·rename_i i j a5 _;split at hd
       ·rename_i q;obtain⟨rfl,rfl⟩:=q;cases hd;obtain⟨ti,kt,et,te,L,M,N,h5,hz⟩:=nH C hm hc.1;have J:=aV I D;have hk:=aV I ko;rw[ex]at J;rw[←ve hc.2,hz];exact yS m L M N h5 E hi J (gD a5 N.isKey hk)
       ·cases hd
      ·cases hd
     ·cases hd
    ·cases hd
   ·cases hd
 ·rename_i t D ko O E;split at hd
  ·rename_i r b4;cases hd;have hd:=b4;unfold fK at hd;split at hd
   ·rename_i K A c' hm;split at hd
    ·rename_i id ex;split at hd
     ·rename_i K1 A1 kv hi;split at hd
      ·rename_i i a5;split at hd
       ·rename_i q;obtain⟨rfl,rfl,c5,c6⟩:=q;split at hd
        ·rename_i z us hz;split at hd
         ·rename_i b5;cases hd;obtain⟨ti,kt,et,te,L,M,N,h5,h6⟩:=nI C hm hc;have J:=aV I D;have hk:=aV I ko;rw[ex]at J;exact kR m L M N (.inl E) hi (by rw[wo b5];exact hi) J (gD a5 N.isKey hk) (aV I O) c5 c6 hz
         ·cases hd
        ·cases hd
       ·cases hd
      ·cases hd
     ·cases hd
    ·cases hd
   ·cases hd
  ·unfold eY at hd;split at hd
   ·rename_i K c' hm;split at hd
    ·rename_i id ex;split at hd
     ·rename_i K1 kv hi;split at hd
      ·rename_i i v a5 c7;split at hd
       ·rename_i q;obtain⟨rfl,q2⟩:=q;cases hd;obtain⟨ti,kt,et,te,L,M,N,h5⟩:=nH C hm hc;have J:=aV I D;have hk:=aV I ko;rw[ex]at J;refine nW m L M N (.inl E) hi J (gD a5 N.isKey hk) (tN c7 (aV I O)) (fun p hp e=>?_);have:=List.all_eq_true.1 q2 p hp;rw[(fx N.isKey).2 e]at this;cases this
       ·cases hd
      ·cases hd
     ·cases hd
    ·cases hd
   ·cases hd
 ·rename_i t D ko O E;split at hd
  ·rename_i r b4;cases hd;have hd:=b4;unfold fK at hd;split at hd
   ·rename_i K A c' hm;split at hd
    ·rename_i id ex;split at hd
     ·rename_i K1 A1 kv hi;split at hd
      ·rename_i i a5;split at hd
       ·rename_i q;obtain⟨rfl,rfl,c5,c6⟩:=q;split at hd
        ·rename_i z us hz;split at hd
         ·rename_i b5;cases hd;obtain⟨ti,kt,et,te,L,M,N,h5,h6⟩:=nI C hm hc;have J:=aV I D;have hk:=aV I ko;rw[ex]at J;exact kR m L M N (.inr E) hi (by rw[wo b5];exact hi) J (gD a5 N.isKey hk) (aV I O) c5 c6 hz
         ·cases hd
        ·cases hd
       ·cases hd
      ·cases hd
     ·cases hd
    ·cases hd
   ·cases hd
  ·unfold eY at hd;split at hd
   ·rename_i K c' hm;split at hd
    ·rename_i id ex;split at hd
     ·rename_i K1 kv hi;split at hd
      ·rename_i i v a5 c7;split at hd
       ·rename_i q;obtain⟨rfl,q2⟩:=q;cases hd;obtain⟨ti,kt,et,te,L,M,N,h5⟩:=nH C hm hc;have J:=aV I D;have hk:=aV I ko;rw[ex]at J;refine nW m L M N (.inr E) hi J (gD a5 N.isKey hk) (tN c7 (aV I O)) (fun p hp e=>?_);have:=List.all_eq_true.1 q2 p hp;rw[(fx N.isKey).2 e]at this;cases this
       ·cases hd
      ·cases hd
     ·cases hd
    ·cases hd
   ·cases hd
 ·rename_i c E;obtain⟨callee,args,c8⟩:=c;unfold po at hd;simp only at hd;split at hd
  ·rename_i b;unfold qz at hd;split at hd
   ·rename_i x0 t ex et;obtain⟨D,Z,rfl⟩:∃D,args = #[D]∧ev s D=x0:=by
     match a1:args.toList,ex with
     | [D],ex=>exact⟨D,Array.ext' a1,by simpa using ex⟩
    have b2:c8 = #[t]:=Array.ext' et;subst Z b2;split at hd
    ·unfold sL at hd;split at hd
     ·rename_i ti ht;split at hd
      ·rename_i kt et id hk ex;split at hd
       ·rename_i K A kv hi;cases hd;have J:=aV I D;rw[ex]at J;exact yF m (C.find ht) hk hi J E
       ·cases hd
      ·cases hd
     ·cases hd
    unfold Cz at hd;split at hd
    ·rename_i ti ht;split at hd
     ·rename_i k hk;split at hd
      ·rename_i e he;split at hd
       ·cases hd
       ·rename_i a7;cases hd;refine zW m (C.find ht) (.inl ⟨e,he⟩) (aV I D) E hk ⟨fun h=>(by rw[he]at h;cases h),fun⟨β,str,ex⟩=>?_⟩;rw[ex]at a7;exact absurd rfl a7
      ·rename_i he;split at hd
       ·rename_i a7;cases hd;refine zW m (C.find ht) (.inr he) (aV I D) E hk ⟨fun _=>?_,fun _=>he⟩;unfold isStr at a7;split at a7
        ·rename_i β str ex;exact⟨β,str,ex⟩
        ·cases a7
       ·cases hd
      ·cases hd
     ·cases hd
    ·cases hd
   ·rename_i x0 y0 ex;obtain⟨D,O,Z,rfl,rfl⟩:∃D O,args = #[D,O]∧ev s D=x0∧ev s O=y0:=by
     match a1:args.toList,ex with
     | [D,O],ex=>exact⟨D,O,Array.ext' a1,by simp at ex;exact ex.1,by simp at ex;exact ex.2⟩
    subst Z;unfold DR at hd;split at hd
    ·rename_i β k i c4 k' j ex ey;split at hd
     ·rename_i c9;subst c9;cases hd;have J:=aV I D;have hy:=aV I O;rw[ex]at J;rw[ey]at hy;exact G7 m J hy E
     ·cases hd
    ·cases hd
   ·rename_i x0 y0 ex;obtain⟨D,O,Z,rfl,rfl⟩:∃D O,args = #[D,O]∧ev s D=x0∧ev s O=y0:=by
     match a1:args.toList,ex with
     | [D,O],ex=>exact⟨D,O,Array.ext' a1,by simp at ex;exact ex.1,by simp at ex;exact ex.2⟩
    subst Z;unfold DR at hd;split at hd
    ·rename_i β k i c4 k' j ex ey;split at hd
     ·rename_i c9;subst c9;cases hd;have J:=aV I D;have hy:=aV I O;rw[ex]at J;rw[ey]at hy;exact G4 m J hy E
     ·cases hd
    ·cases hd
   ·rename_i x0 y0 t t' ex et;obtain⟨D,O,Z,rfl,rfl⟩:∃D O,args = #[D,O]∧ev s D=x0∧ev s O=y0:=by
     match a1:args.toList,ex with
     | [D,O],ex=>exact⟨D,O,Array.ext' a1,by simp at ex;exact ex.1,by simp at ex;exact ex.2⟩
    have b2:c8 = #[t,t']:=Array.ext' et;subst Z b2;split at hd
    ·rename_i d8;subst d8;unfold mG at hd;split at hd
     ·rename_i e te A X;obtain⟨a9,L,aa,M,N,h4,h5⟩:=ca C X;split at hd
      ·rename_i ys b3;split at hd
       ·rename_i ex;cases hd;exact ub m hn L M N h4 h5 (aV I D) (aV I O) E (xs:=[]) (.inl ⟨ex,rfl,rfl,rfl⟩) b3 hc.1 hc.2
       ·rename_i id ex;split at hd
        ·rename_i e' B xs a4;split at hd
         ·rename_i b7;subst b7;split at hd
          ·rename_i d9;subst d9;simp only[Option.some.injEq,Prod.mk.injEq]at hd;obtain⟨rfl,rfl,rfl⟩:=hd;exact ub m hn L M N h4 h5 (aV I D) (aV I O) E (xs:=xs) (.inr ⟨id,ex,a4,rfl,rfl⟩) b3 hc.1 hc.2
          ·cases hd
         ·cases hd
        ·rename_i B xs a4;split at hd
         ·rename_i b7;subst b7;simp only[Option.some.injEq,Prod.mk.injEq]at hd;obtain⟨rfl,rfl,rfl⟩:=hd;have J:=aV I D;rw[ex]at J;exact u9 m hn L M N h4 h5 J (aV I O) E a4 b3 hc.1 hc.2.1 hc.2.2
         ·cases hd
        ·cases hd
       ·cases hd
      ·cases hd
     ·cases hd
    ·cases hd
   ·rename_i x0 y0 t t' ex et;obtain⟨D,O,Z,rfl,rfl⟩:∃D O,args = #[D,O]∧ev s D=x0∧ev s O=y0:=by
     match a1:args.toList,ex with
     | [D,O],ex=>exact⟨D,O,Array.ext' a1,by simp at ex;exact ex.1,by simp at ex;exact ex.2⟩
    have b2:c8 = #[t,t']:=Array.ext' et;subst Z b2;unfold rW at hd;split at hd
    ·rename_i e te A X;obtain⟨a9,L,aa,M,N,h4,h5⟩:=ca C X;split at hd
     ·rename_i ys b3;split at hd
      ·rename_i id ex;split at hd
       ·rename_i e' B xs a4;split at hd
        ·rename_i b7;subst b7;simp only[Option.some.injEq,Prod.mk.injEq]at hd;obtain⟨rfl,rfl,rfl⟩:=hd;have J:=aV I D;rw[ex]at J;exact EB m L M N h4 J (aV I O) E a4 b3
        ·cases hd
       ·cases hd
      ·cases hd
     ·cases hd
    ·cases hd
   ·cases hd
  ·rename_i fo;unfold uC at hd;split at hd
   ·rename_i fid cp q ef;split at hd
    ·rename_i ys u' de;have hf:=vZ (aV I fo);rw[ef]at hf;obtain⟨q1,q2,q3⟩:=nD m de;split at hd
     ·split at hd
      ·split at hd
       ·rename_i b8 hin hl hi;split at hd
        ·rename_i dk;cases hd;have hc:jo P fid b8 hin q.r q.hout:=by unfold wF at hc;rw[show q.die=none from ch]at hc;exact hc
         have hg:=Gq (new:=new) q1 cc E (V.mono q2 (fun _ _ h=>h) hf) (q3 _ (ju (jm I args.toList))) hl hi dk hc;refine fun K Q hk=>hg K Q fun v w' hp=>hk v w' ?_
         exact aF.after (h:=h) (u1:=u') rfl q2 hp
        ·cases hd
       ·cases hd
      ·cases hd
     ·split at hd
      ·rename_i b8 hl;cases hd;have hg:=EJ (new:=new) q1 E (V.mono q2 (fun _ _ h=>h) hf) (q3 _ (ju (jm I args.toList))) hl hc;refine fun K Q hk=>hg K Q fun v w' hp=>hk v w' ?_
       have:=aF.after (h:=h) (u1:=u) rfl q2 hp;simpa using this
      ·cases hd
    ·cases hd
   ·cases hd
  ·cases hd
 ·cases hd
def Jb:af→Bool
 | .unk=>true
 | _=>false
def dying(op:Op)(iG:Option uY):QW :=
 match op,iG with
 | .call c,some q=>match c.callee with
  | .value _=>if q.own && Jb q.r && q.hout.isEmpty then q.die else none
  | _=>none
 | _,_=>none
theorem Gv(m:Mem Bw w0 ρ φ h w)(J:eL n (Fr (own φ h) Bw w) ρ s a)(D:∀j,j<8→ρ (new+j)=none){o:Oper}{asm:Option Bool}{iG:Option uY}{y:Value}(e:dying o.op iG=some y){x:af}{u:gT}{c:Prop}
  (hd:gO P tb new asm iG o.op s h=some (x,u,c)) (hc:c):Ky P o a w y (fun E=>∃v,aF Bw w0 ρ φ h w new .unk u v E):=by
 unfold dying at e;split at e
 ·rename_i c0 q L;split at e
  ·rename_i X A;split at e
   ·rename_i f;simp only[Bool.and_eq_true,List.isEmpty_iff]at f;obtain⟨⟨B,p⟩,hout⟩:=f;obtain⟨callee,args,Y⟩:=c0;simp only at A;subst A;have Z:q.r = .unk:=by
     unfold Jb at p;split at p
     ·assumption
     ·cases p
    rw[L]at hd;simp only[gO,po]at hd;unfold uC at hd;split at hd
    ·rename_i fid M q' ef eq;cases eq;split at hd
     ·rename_i ys u' I;have N:=vZ (aV J X);rw[ef]at N;obtain⟨q1,O,q3⟩:=nD m I;rw[if_pos B]at hd;split at hd
      ·split at hd
       ·rename_i z hin hl hi;split at hd
        ·rename_i C;cases hd;rw[Z,hout]at C;have hc:jD P fid z hin y:=by unfold wF at hc;rw[e]at hc;exact hc
         have hg:=Ie (new:=new) q1 D L (V.mono O (fun _ _ h=>h) N) (q3 _ (ju (jm J args.toList))) hl hi C hc;refine fun K Q hk=>hg K Q fun E ⟨v,hp⟩=>hk E ⟨v,?_⟩
         rw[hout];exact aF.after (h:=h) (u1:=u') rfl O hp
        ·cases hd
       ·cases hd
      ·cases hd
     ·cases hd
    ·cases hd
   ·cases e
  ·cases e
 ·cases e
end
end Go.Tv
