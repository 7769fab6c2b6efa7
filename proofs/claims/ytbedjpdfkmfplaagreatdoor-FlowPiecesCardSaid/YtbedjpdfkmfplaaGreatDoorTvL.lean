import Derived.Test.YtbedjpdfkmfplaaGreatDoorTvKhm
namespace Go.Tv
open Go Go.RowKit
def qL(s:Nat→ag):Option Operand→Option (Option Int)
 | none=>some none
 | some x=>match ev s x with
  | .p _ (.int _) n=>some (some n)
  | _=>none
def iH(tb:bQ)(t:TypeId):Option (TypeId×TI×Ty) :=
 match tb.find t with
 | some ti=>match ti.k with
  | .sl e=>match tb.find e with
   | some j=>match j.T with
    | some A=>if 0<A.size then some (e,j,A)else none
    | none=>none
   | none=>none
  | _=>none
 | none=>none
def BH(tb:bQ)(new:Nat)(t:TypeId):XQ :=
 match tb.find t with
 | some ti=>some (.adr new 0 ti.size 0,[(new,some (.box ti.z))],True)
 | none=>none
def Ip(new:Nat)(x:ag):XQ :=
 if(cellsOf x).all ag.cell then some (.adr new 0 (cellsOf x).length 0,[(new,some (.box (cellsOf x)))],True)else none
def pD(tb:bQ)(t:TypeId)(j:QV)(xs:List ag):XQ :=
 match tb.find t with
 | some ti=>match ti.k with
  | .st q=>match parts tb q (j.zip xs) ti.z with
   | some f=>some (.agg f,[],True)
   | none=>none
  | .ar n e=>match tb.find e with
   | some u=>match parts tb ((List.range n).map fun i=>(i*u.size,e)) (j.zip xs) ti.z with
    | some f=>some (.agg f,[],True)
    | none=>none
   | none=>none
  | _=>none
 | none=>none
def m5(tb:bQ)(new:Nat)(t:TypeId)(len:Nat)(j:QV)(xs:List ag)(h:Nat→Qz):XQ :=
 match iH tb t with
 | some (e,q,A) =>
  if j=List.range len∧xs.all ag.Fj=true∧len*q.size≤16777216 then
   match DC A h xs with
   | some (u,z)=>some (.sl new,z++[(new,some (.arr e A u))],True)
   | none=>none
  else none
 | none=>none
def nH(ti:TI)(x:ag)(h:Nat→Qz):XQ :=
 match x,ti.k with
 | .ada id b n i,.int k=>match h id with
  | some (.box e)=>if b+n≤e.length then(match sB k ((e.drop b).take n)with
   | some l=>some (.p false (.int k) (l.getD i 0),[],True)
   | none=>none)else none
  | _=>none
 | _,_=>none
def lA(ti:TI)(x y:ag)(h:Nat→Qz):XQ :=
 match x,y with
 | .ada id b n i,.p _ (.int k) v=>match h id with
  | some (.box e)=>if b+n≤e.length∧ti.size=1 then(match sB k ((e.drop b).take n)with
   | some l=>some (.unk,[(id,some (.box (e.take b++xk k i v 0 l++e.drop (b+n))))],True)
   | none=>none)else none
  | _=>none
 | _,_=>none
def lE(tb:bQ)(t:TypeId)(x i:ag)(h:Nat→Qz):XQ :=
 match tb.find t with
 | some ti=>match ti.k with
  | .ar n e=>match tb.find e with
   | some f=>if f.size=1 then(match x,i with
    | .adr id j sz off,.p _ (.int _) m=>match h id with
     | some (.box _)=>some (.ada id (j*sz+off) n (show Int from m).toNat,[],0≤(show Int from m)∧(show Int from m)<(n:Int))
     | _=>none
    | .ada id b N p,.p _ (.int _) m=>some (.ada id b N (p+(show Int from m).toNat),[],(0≤(show Int from m)∧(show Int from m)<(n:Int))∧p+(show Int from m).toNat<N)
    | _,_=>none)else if 0<f.size then(match x,i with
    | .adr id j sz off,.p _ (.int _) m=>match h id with
     | some (.box _)=>some (.ada id (j*sz+off) (n*f.size) ((show Int from m).toNat*f.size),[],0≤(show Int from m)∧(show Int from m)<(n:Int))
     | _=>none
    | _,_=>none)else none
   | none=>none
  | _=>none
 | none=>none
def mD(new:Nat)(ti:TI)(x:ag)(h:Nat→Qz):XQ :=
 match x with
 | .adr id i sz off=>if sz=1∧off=0∧ti.k.agg=false then
   match h id with
   | some (.mat e v A u none)=>some (.sl new,[(id,some (.mat e v A u (some (i,new)))),(new,some (.arr v A (u.getD i [])))],i<u.length)
   | some (.mat e v A u (some (k,j)))=>match h j with
    | some (.arr C B z)=>if q:B=A then(if C=v then
      some (.sl new,[(j,none),(id,some (.mat e v A (u.set k (q ▸ z:List A.den)) none))]++[(id,some (.mat e v A (u.set k (q ▸ z:List A.den)) (some (i,new)))),(new,some (.arr v A ((u.set k (q ▸ z:List A.den)).getD i [])))],i<u.length)else none)else none
    | _=>none
   | _=>none
  else none
 | _=>none
def Bb(tb:bQ)(new:Nat)(t:TypeId)(x:ag)(h:Nat→Qz):XQ :=
 match tb.find t with
 | some ti=>match ll h x with
  | some (e,off,c)=>match fk ti e off with
   | some y=>some (y,[],c)
   | none=>none
  | none=>match nH ti x h with
   | some r=>some r
   | none=>mD new ti x h
 | none=>none
def uJ(id i:Nat)(e u:TypeId)(A:Ty)(f:List (List A.den))(hole:Option (Nat×Nat))(y:ag)(h:Nat→Qz):XQ :=
 match y with
 | .sl r=>match h r with
  | some (.arr z B _)=>if B=A∧z=u then
    match hole with
    | none=>some (.unk,[(id,some (.mat e u A f (some (i,r))))],i<f.length)
    | some (k,j)=>match h j with
     | none=>some (.unk,[(id,some (.mat e u A f (some (i,r))))],k=i∧i<f.length)
     | some (.arr D C v)=>if q:C=A then(if D=u∧j≠r then
       some (.unk,[(j,none),(id,some (.mat e u A (f.set k (q ▸ v:List A.den)) none))]++[(id,some (.mat e u A (f.set k (q ▸ v:List A.den)) (some (i,r))))],i<f.length)else none)else none
     | _=>none
   else none
  | _=>none
 | _=>none
def qe(tb:bQ)(t:TypeId)(x y:ag)(h:Nat→Qz):XQ :=
 match tb.find t with
 | some ti =>
  if(cellsOf y).all ag.cell=true∧(cellsOf y).length=ti.size then
   match x with
   | .adr id i sz off=>match h id with
    | some (.box f)=>if i*sz+off+ti.size≤f.length then some (.unk,[(id,some (.box (wr f (i*sz+off) (cellsOf y))))],True)else none
    | some (.arr e A xs) =>
     if sz=A.size∧off+ti.size≤A.size then
      match Dr A h xs i off y with
      | some (z,j)=>if j.all (fun p=>p.1 != id)then some (.unk,j++[(id,some (.arr e A (xs.set i z)))],i<xs.length)else none
      | none=>none
     else none
    | some (.mat e e2 A xss hole)=>if sz=1∧off=0 then uJ id i e e2 A xss hole y h else none
    | some (.bytes e xs)=>if sz=1∧off=0∧ti.size=1 then(match y with
     | .p _ (.int .u8) v=>some (.unk,[(id,some (.bytes e (xs.set i v)))],i<xs.length)
     | _=>none)else none
    | _=>none
   | _=>lA ti x y h
  else none
 | none=>none
def HS(x:ag):XQ :=
 match x with
 | .adr id i sz off=>some (.adr id i sz off,[],True)
 | .fad β e off=>some (.fad β e off,[],True)
 | .p β (.ptr A) q=>some (.fad β (flat β A (q.getD A.zero)) 0,[],q.isSome=true)
 | _=>none
def A4:ag→Option Bool
 | .nilp=>some true
 | .adr _ _ _ _=>some false
 | .fad _ _ _=>some false
 | _=>none
def Ii(op:BinOp)(b:Bool):Option ag :=
 match op with
 | .eql=>some (.p false .bool b)
 | .neq=>some (.p false .bool (!b))
 | _=>none
def HP(P:Program)(ti:TI)(op:BinOp)(t:TypeId)(x y:ag):XQ :=
 match x,y with
 | .agg f,.agg j=>match ti.T with
  | some T=>match iO T f,iO T j with
   | some (a,[]),some (b,[])=>match Ii op (IM T a b)with
    | some r=>some (r,[],L7 P t T)
    | none=>none
   | _,_=>none
  | none=>none
 | .p _ (.ptr _) q,.nilp=>match Ii op q.isNone with
  | some r=>some (r,[],∃e,P.underlying t=some (.pointer e))
  | none=>none
 | x,y=>match A4 x,A4 y with
  | some true,some b=>match Ii op b with
   | some r=>some (r,[],∃e,P.underlying t=some (.pointer e))
   | none=>none
  | some false,some true=>match Ii op false with
   | some r=>some (r,[],∃e,P.underlying t=some (.pointer e))
   | none=>none
  | _,_=>match x,y with
   | .lit (.iface _ _),.lit .nilIface=>match Ii op false with
    | some r=>some (r,[],∃u,P.underlying t=some (.interface u))
    | none=>none
   | _,_=>none
def uN(P:Program)(x:ag)(e:TypeId)(ok:Bool):XQ :=
 match x with
 | .lit (.iface t v)=>if t=e∧ok=true then some (.tup [A6 v,.p false .bool true],[],∃d,P.underlying e=some d∧(match d with | .interface _=>false | _=>true)=true)else none
 | _=>none
def IE(P:Program)(tb:bQ)(op:BinOp)(t:TypeId)(x y:ag):XQ :=
 match tb.find t with
 | some ti=>match bin ti.k op x y with
  | some (r,c)=>some (r,[],c)
  | none=>HP P ti op t x y
 | none=>none
def Lg(op:UnOp)(x:ag):XQ :=
 match un op x with
 | some r=>some (r,[],True)
 | none=>none
def GR(tb:bQ)(k:TK):Bool :=
 match k with
 | .sl e=>match tb.find e with
  | some f=>match f.k with
   | .int .u8=>true
   | _=>false
  | none=>false
 | _=>true
def JL(tb:bQ)(j:TK)(x:ag):Option ag :=
 match x with
 | .p _ .str l=>match j with
  | .sl e=>if GR tb (.sl e)then some (.p false (.slice (.int .u8)) (cf l))else none
  | _=>none
 | .p _ (.int _) n=>match j with
  | .str=>some (.p false .str (H9 n))
  | _=>none
 | _=>none
def Aw(tb:bQ)(st q:TypeId)(x:ag)(h:Nat→Qz):XQ :=
 match tb.find st with
 | some e=>match tb.find q with
  | some j=>match JL tb j.k x with
   | some r=>some (r,[],True)
   | none=>if GR tb e.k then(match conv e.k j.k h x with
    | some r=>some (r,[],True)
    | none=>none)else none
  | none=>none
 | none=>none
def Co(tb:bQ)(new:Nat)(st f:TypeId)(x:ag):XQ :=
 match tb.find st with
 | some _=>match tb.find f with
  | some j=>match x with
   | .p _ .str l=>match j.k with
    | .sl e=>if GR tb (.sl e)then some (.sl new,[(new,some (.bytes e (cf l)))],True)else none
    | _=>none
   | _=>none
  | none=>none
 | none=>none
def qh(tb:bQ)(new:Nat)(t:TypeId)(x:ag)(f hi:Option (Option Int))(h:Nat→Qz):XQ :=
 match tb.find t with
 | some ti=>match f,hi with
  | some l,some r=>match x with
   | .p _ .str s=>match ti.k with
    | .str=>some (.p false .str ((s.take (r.getD s.length).toNat).drop (l.getD 0).toNat),[],0≤l.getD 0∧l.getD 0≤r.getD s.length∧r.getD s.length≤s.length)
    | _=>none
   | .p β (.slice A) xs=>match iH tb t with
    | some (_,_,B)=>if A=B then some (.p β (.slice A) ((xs.take (r.getD xs.length).toNat).drop (l.getD 0).toNat),[],0≤l.getD 0∧l.getD 0≤r.getD xs.length∧r.getD xs.length≤xs.length)else none
    | none=>none
   | .sl id=>match h id with
    | some (.arr e A xs)=>match iH tb t with
     | some (_,_,_)=>match l,r with
      | none,some k=>some (.sl new,[(id,none),(new,some (.arr e A (xs.take k.toNat)))],0≤k∧k≤xs.length)
      | _,_=>none
     | none=>none
    | some (.fz A xs)=>match iH tb t with
     | some (_,_,B)=>if A=B then some (.p false (.slice A) ((xs.take (r.getD xs.length).toNat).drop (l.getD 0).toNat),[],0≤l.getD 0∧l.getD 0≤r.getD xs.length∧r.getD xs.length≤xs.length)else none
     | none=>none
    | _=>none
   | .nils=>match iH tb t with
    | some (_,_,_)=>some (.nils,[],0≤l.getD 0∧l.getD 0≤r.getD 0∧r.getD 0≤0)
    | none=>none
   | _=>none
  | _,_=>none
 | none=>none
def intOf:ag→Option Int
 | .p _ (.int _) n=>some n
 | _=>none
def uv(tb:bQ)(t:TypeId)(x:ag)(e:Option (Option Int))(hi mx:ag)(h:Nat→Qz):XQ :=
 match iH tb t,e,intOf hi,intOf mx with
 | some (_,_,B),some l,some r,some q=>match x with
  | .p β (.slice A) xs=>if A=B then some (.p β (.slice A) ((xs.take r.toNat).drop (l.getD 0).toNat),[],0≤l.getD 0∧l.getD 0≤r∧r≤q∧q≤xs.length)else none
  | .sl id=>match h id with
   | some (.fz A xs)=>if A=B then some (.p false (.slice A) ((xs.take r.toNat).drop (l.getD 0).toNat),[],0≤l.getD 0∧l.getD 0≤r∧r≤q∧q≤xs.length)else none
   | _=>none
  | _=>none
 | _,_,_,_=>none
def Ek(tb:bQ)(new:Nat)(t:TypeId)(x:ag)(e:Option (Option Int))(hi mx:ag)(h:Nat→Qz):XQ :=
 match iH tb t,e,intOf hi,intOf mx with
 | some (_,_,B),some none,some r,some q=>match gG h x with
  | some (.p false (.slice A) xs,u)=>if A=B then some (.sl new,u++[(new,some (.cutz A (xs.take r.toNat)))],0≤r∧r=q∧r≤xs.length)else none
  | _=>none
 | _,_,_,_=>none
def CJ(tb:bQ)(t:TypeId)(x:ag)(f:Nat):XQ :=
 match tb.find t with
 | some ti=>match ti.k with
  | .st e=>match e[f]? with
   | some (off,_)=>match x with
    | .adr id i sz k=>some (.adr id i sz (k+off),[],True)
    | .fad β j k=>some (.fad β j (k+off),[],True)
    | _=>none
   | none=>none
  | _=>none
 | none=>none
def jB(tb:bQ)(t:TypeId)(x i:ag)(h:Nat→Qz):XQ :=
 match iH tb t with
 | some (_,e,_)=>match i with
  | .p _ (.int _) n=>match zw h x n with
   | some (y,sz,c)=>if sz=e.size then some (y,[],c)else none
   | none=>none
  | _=>none
 | none=>none
def BL(tb:bQ)(t:TypeId)(x i:ag):XQ :=
 match tb.find t with
 | some ti=>match ti.k with
  | .str=>match x,i with
   | .p _ .str s,.p _ (.int _) n=>some (.p false (.int .u8) ((s.getD n.toNat 0).toNat:Int),[],0≤n∧n<s.length)
   | _,_=>none
  | .ar n e=>match tb.find e with
   | some j=>match j.k with
    | .int k=>match x,i with
     | .agg f,.p _ (.int _) m=>if f.length=n then(match sB k f with
      | some l=>some (.p false (.int k) (l.getD (show Int from m).toNat 0),[],0≤(show Int from m)∧(show Int from m)<(n:Int))
      | none=>none)else none
     | _,_=>none
    | _=>none
   | none=>none
  | _=>none
 | none=>none
def yy(x:ag)(i:Nat):XQ :=
 match x with
 | .tup e=>match e[i]? with
  | some y=>some (y,[],True)
  | none=>none
 | _=>none
def HR(e:TypeId)(f:TI)(A:Ty)(n:Nat):Obj :=
 match A with
 | .slice B=>match f.k,f.z with
  | .sl j,[.nils]=>if 0<B.size then .mat e j B (List.replicate n []) none else .arr e (.slice B) (List.replicate n [])
  | _,_=> .arr e (.slice B) (List.replicate n [])
 | A=> .arr e A (List.replicate n A.zero)
def Fq(tb:bQ)(new:Nat)(t:TypeId)(l c:ag):XQ :=
 match iH tb t with
 | some (e,f,A)=>match l,c with
  | .p _ (.int _) n,.p _ (.int _) k=>some (.sl new,[(new,some (HR e f A n.toNat))],0≤n∧n≤k∧(f.bytes:Int)*k≤281474976710656∧k≤9223372036854775807)
  | _,_=>none
 | none=>none
def isStr:ag→Bool
 | .p _ .str _=>true
 | _=>false
def Fh(tb:bQ)(t:TypeId)(x:ag)(h:Nat→Qz):XQ :=
 match tb.find t with
 | some ti=>match lenOf h x with
  | some n=>match ti.k with
   | .sl _=>if isStr x then none else some (.p false (.int .i64) n,[],True)
   | .str=>if isStr x then some (.p false (.int .i64) n,[],True)else none
   | _=>none
  | none=>none
 | none=>none
def nL(tb:bQ)(new:Nat)(t:TypeId)(x y:ag)(h:Nat→Qz):XQ :=
 match iH tb t with
 | some (e,j,A)=>match fp h A y with
  | some f=>match x with
   | .nils=>some (.sl new,[(new,some (.arr e A f))],(([]:List A.den).length+f.length)*j.bytes≤140737488355328∧([]:List A.den).length+f.length≤9223372036854775807)
   | .sl id=>match h id with
    | some (.arr u B xs)=>if q:B=A then(if u=e then some (.sl new,[(id,none),(new,some (.arr e A ((q ▸ xs:List A.den)++f)))],((q ▸ xs:List A.den).length+f.length)*j.bytes≤140737488355328∧(q ▸ xs:List A.den).length+f.length≤9223372036854775807)else none)else none
    | some (.cutz B xs)=>if q:B=A then some (.sl new,[(new,some (.arr e A ((q ▸ xs:List A.den)++f)))],0<f.length∧((q ▸ xs:List A.den).length+f.length)*j.bytes≤140737488355328∧(q ▸ xs:List A.den).length+f.length≤9223372036854775807)else none
    | _=>none
   | _=>none
  | none=>none
 | none=>none
def sO(tb:bQ)(t:TypeId)(x y:ag)(h:Nat→Qz):XQ :=
 match iH tb t with
 | some (_,_,A)=>match fp h A y with
  | some e=>match x with
   | .sl id=>match h id with
    | some (.arr f B xs)=>if q:B=A then some (.p false (.int .i64) ((min e.length (q ▸ xs:List A.den).length:Nat):Int),[(id,some (.arr f A (e.take (q ▸ xs:List A.den).length++(q ▸ xs:List A.den).drop e.length)))],True)else none
    | _=>none
   | _=>none
  | none=>none
 | none=>none
def J7(P:Program)(f:TypeId)(e:TI):Option (Ty×Prop) :=
 match JU e.k with
 | some K=>some (K,True)
 | none=>match e.T with
  | some K=>if K.scalar=false then some (K,fU P f K)else none
  | none=>none
def Ja(P:Program)(tb:bQ)(t:TypeId):Option (Ty×Ty×Prop) :=
 match tb.find t with
 | some ti=>match ti.k with
  | .mp e f=>match tb.find e,tb.find f with
   | some j,some q=>match J7 P e j,q.T with
    | some (K,c),some A=>some (K,A,c)
    | _,_=>none
   | _,_=>none
  | _=>none
 | none=>none
def uF(K:Ty)(x:ag):Option K.den :=
 match x with
 | .p _ f i=>if q:f=K then(if K.scalar=true then some (q ▸ i)else none)else none
 | .agg e=>if K.scalar=false∧e.length=K.size then match iO K e with
  | some (k,_)=>some k
  | none=>none
  else none
 | .lag k n j []=>if q:Ty.arr k n=K then some (q ▸ (show(Ty.arr k n).den from j))else none
 | _=>none
def xN(P:Program)(tb:bQ)(new:Nat)(t:TypeId):XQ :=
 match Ja P tb t with
 | some (K,A,c)=>some (.mp new,[(new,some (.mpo K A []))],c)
 | none=>none
def nC(P:Program)(tb:bQ)(t:TypeId)(x k:ag)(ok:Bool)(h:Nat→Qz):XQ :=
 match Ja P tb t with
 | some (K,A,c)=>match x with
  | .mp id=>match h id with
   | some (.mpo e f j)=>match uF e k with
    | some i=>if e=K∧f=A then
     some (if ok then .tup [enc false f ((aT e j i).getD f.zero),.p false .bool (aT e j i).isSome]else enc false f ((aT e j i).getD f.zero),[],c)else none
    | none=>none
   | _=>none
  | _=>none
 | none=>none
def ga(P:Program)(tb:bQ)(t:TypeId)(x k y:ag)(h:Nat→Qz):XQ :=
 match Ja P tb t with
 | some (K,A,c)=>match x with
  | .mp id=>match h id with
   | some (.mpo e f q)=>match uF e k with
    | some i=>if e=K∧f=A∧(cellsOf y).all ag.cell=true∧kY f y=true then
     match HE f h y with
     | some (z,j)=>if j.all (fun p=>p.1 != id)then some (.unk,j++[(id,some (.mpo e f (cq e q i z)))],c)else none
     | none=>none
     else none
    | none=>none
   | _=>none
  | _=>none
 | none=>none
def Jj(P:Program)(tb:bQ)(t:TypeId):Option (Ty×Prop) :=
 match tb.find t with
 | some ti=>match ti.k with
  | .mp e f=>match tb.find e,tb.find f with
   | some j,some q=>match q.T with
    | none=>J7 P e j
    | some _=>none
   | _,_=>none
  | _=>none
 | none=>none
def L8(tb:bQ)(t:TypeId):ag :=
 match tb.find t with
 | some ti=>match ti.k with
  | .mp _ e=>match tb.find e with
   | some f=>zV f
   | none=> .unk
  | _=> .unk
 | none=> .unk
def uZ(P:Program)(tb:bQ)(new:Nat)(t:TypeId):XQ :=
 match Jj P tb t with
 | some (K,c)=>some (.mp new,[(new,some (.mpl K []))],c)
 | none=>none
def valOf:ag→QW
 | .lit v=>some v
 | .fn f []=>some (.func (.func f) #[] #[])
 | .agg [.fn f []]=>some (.agg #[.func (.func f) #[] #[]])
 | _=>none
def fD(P:Program)(tb:bQ)(t:TypeId)(x k y:ag)(h:Nat→Qz):XQ :=
 match Jj P tb t with
 | some (K,c)=>match x with
  | .mp id=>match h id with
   | some (.mpl e f)=>match uF e k,valOf y with
    | some i,some v=>if e=K∧f.all (fun p=> !eD e p.1 i)=true then some (.unk,[(id,some (.mpl e (f++[(i,v)])))],c)else none
    | _,_=>none
   | _=>none
  | _=>none
 | none=>none
def l8(P:Program)(tb:bQ)(t:TypeId)(g:QV)(x k:ag)(ok:Bool)(h:Nat→Qz):XQ :=
 match Jj P tb t with
 | some (K,c)=>match x with
  | .mp id=>match h id with
   | some (.mpl e f)=>match uF e k,g with
    | some i,[j]=>if e=K∧ok=true then some (FR (L8 tb t) ((f[j]?).map (·.2)),[],c∧sd e f i j)else none
    | _,_=>none
   | _=>none
  | _=>none
 | none=>none
def uH(tb:bQ)(t:TypeId)(x:ag)(h:Nat→Qz):XQ :=
 match tb.find t with
 | some ti=>match ti.k,x with
  | .mp _ _,.mp id=>match h id with
   | some (.mpo _ _ e)=>some (.p false (.int .i64) (e.length:Int),[],True)
   | _=>none
  | _,_=>none
 | none=>none
def FE(b:Bool)(x y:ag):XQ :=
 match x,y with
 | .p _ (.int k) i,.p _ (.int e) j=>if e=k then some (.p false (.int k) (if b then max (show Int from i) j else min (show Int from i) j),[],True)else none
 | _,_=>none
def Oq:ag→Bool
 | .mp _=>true
 | _=>false
def AD:Ty→List Ty
 | .unit=>[]
 | .prod a b=>AD a++AD b
 | .tree e f=>[.int e,.int f,.slice (.tree e f)]
 | T=>[T]
def uK:Ty→ag→ag
 | .slice A,.nils=> .p false (.slice A) []
 | .ptr A,.nilp=> .p false (.ptr A) none
 | _,x=>x
def mN:List Ty→List ag→List ag
 | T::Ts,c::cs=>uK T c::mN Ts cs
 | _,cs=>cs
def E9(T:Ty):ag→ag
 | .agg e=> .agg (mN (AD T) e)
 | x=>uK T x
def xn(tb:bQ)(t:TypeId)(x:ag):ag :=
 match tb.find t with
 | some ti=>match ti.T with
  | some T=>E9 T x
  | none=>x
 | none=>x
def il(tb:bQ):List Bool→List TypeId→List ag→List ag
 | true::bs,t::ts,x::xs=>xn tb t x::il tb bs ts xs
 | false::bs,_::ts,x::xs=>x::il tb bs ts xs
 | _,_,xs=>xs
section
variable{P:Program}{Bw:Nat→Prop}{w0:cE P}{ρ:Nat→QW}{φ:Nat→Nat→Prop}{h:Nat→Qz}{w:World}{new:Nat}
theorem Js(m:Mem Bw w0 ρ φ h w){o:Oper}{a:Act}{t:TypeId}{ti:TI}(ht:aO P t ti){e:Operand}{x:ag}(f:V (Fr (own φ h) Bw w) ρ x (a.eval e))(j:o.op = .load t e)
  {r:ag} {u:iu} {c:Prop} (hd:nH ti x h=some (r,u,c)):Good P o a w (aG Bw w0 ρ φ h w new r u):=by
 unfold nH at hd;split at hd
 ·grind (splits:=6) (ematch:=4) [Af]
 ·cases hd
theorem HN(m:Mem Bw w0 ρ φ h w){o:Oper}{a:Act}{t:TypeId}{ti:TI}(ht:aO P t ti){e f:Operand}{x y:ag}(j:V (Fr (own φ h) Bw w) ρ x (a.eval e))(q:V (Fr (own φ h) Bw w) ρ y (a.eval f))(z:o.op = .store t e f)
  {r:ag} {u:iu} {c:Prop} (hd:lA ti x y h=some (r,u,c)):Good P o a w (aG Bw w0 ρ φ h w new r u):=by
 unfold lA at hd;split at hd
 ·grind (splits:=6) (ematch:=4) [yN]
 ·cases hd
theorem GI{tb:bQ}(m:Mem Bw w0 ρ φ h w)(f:bY P tb){o:Oper}{a:Act}{t:TypeId}{E io:Operand}{x i:ag}(B:V (Fr (own φ h) Bw w) ρ x (a.eval E))(hi:V (Fr (own φ h) Bw w) ρ i (a.eval io))(C:o.op = .indexAddr t E io)
  {r:ag} {u:iu} {c:Prop} (hd:lE tb t x i h=some (r,u,c)) (D:c):Good P o a w (aG Bw w0 ρ φ h w new r u):=by
 unfold lE at hd;split at hd
 ·rename_i ti ht;split at hd
  ·rename_i n e hk;split at hd
   ·rename_i L z;split at hd
    ·rename_i q;split at hd
     ·rename_i id j sz off β k I;split at hd
      ·rename_i J hb;cases hd;exact yV m (f.find ht) hk (f.find z) q B hb hi C D
      ·cases hd
     ·rename_i id b N p β k I;cases hd;exact wv m (f.find ht) hk (f.find z) q B hi C D
     ·cases hd
    ·split at hd
     ·rename_i q;split at hd
      ·rename_i id j sz off β k I;split at hd
       ·rename_i J hb;cases hd;exact wu m (f.find ht) hk (f.find z) q B hb hi C D
       ·cases hd
      ·cases hd
     ·cases hd
   ·cases hd
  ·cases hd
 ·cases hd
theorem GL(m:Mem Bw w0 ρ φ h w)(hn:ρ new=none){o:Oper}{a:Act}{t:TypeId}{ti:TI}(ht:aO P t ti){C:Operand}{x:ag}(E:V (Fr (own φ h) Bw w) ρ x (a.eval C))(I:o.op = .load t C)
  {r:ag} {u:iu} {c:Prop} (hd:mD new ti x h=some (r,u,c)) (J:c):Good P o a w (aG Bw w0 ρ φ h w new r u):=by
 unfold mD at hd;split at hd
 ·rename_i id i sz off;split at hd
  ·rename_i f;obtain⟨rfl,rfl,hk⟩:=f;split at hd
   ·grind (splits:=6) (ematch:=4) [tP]
   ·rename_i e Z A L k j hi;split at hd
    ·rename_i e3 B ys M;split at hd
     ·rename_i q;subst q;split at hd
      ·rename_i N;subst N;simp only[Option.some.injEq,Prod.mk.injEq]at hd;obtain⟨rfl,rfl,rfl⟩:=hd;obtain⟨O,D⟩:=m.xX hi M;have X:=tP (new:=new) O hn ht hk (V.mono D (fun _ _ h=>h) E) I (av _ _ _) (i:=i) (by rw[List.length_set];exact J);exact fun K Q z=>X K Q fun v w' Y=>z v w' (aG.Iz rfl D Y)
      ·cases hd
     ·cases hd
    ·cases hd
   ·cases hd
  ·cases hd
 ·cases hd
theorem JE(m:Mem Bw w0 ρ φ h w){o:Oper}{a:Act}{t:TypeId}{ti:TI}(ht:aO P t ti){I J:Operand}{id i:Nat}(M:V (Fr (own φ h) Bw w) ρ (.adr id i 1 0) (a.eval I)){y:ag}(N:V (Fr (own φ h) Bw w) ρ y (a.eval J))(z:(cellsOf y).length=ti.size)
  (O:o.op = .store t I J) {e L:TypeId} {A:Ty} {f:List (List A.den)} {hole:Option (Nat×Nat)} (hi:h id=some (.mat e L A f hole)) {r:ag} {u:iu} {c:Prop} (hd:uJ id i e L A f hole y h=some (r,u,c)) (X:c) :
  Good P o a w (aG Bw w0 ρ φ h w new r u):=by
 unfold uJ at hd;split at hd
 ·rename_i rr;have B:ti.size=1:=z.symm;split at hd
  ·split at hd
   ·split at hd
    ·grind (splits:=6) (ematch:=4) [pw]
    ·rename_i k j;split at hd
     ·grind (splits:=6) (ematch:=4) [pw]
     ·rename_i e4 C ys Y;split at hd
      ·rename_i q;subst q;split at hd
       ·rename_i Z;obtain⟨rfl,_⟩:=Z;simp only[Option.some.injEq,Prod.mk.injEq]at hd;obtain⟨rfl,rfl,rfl⟩:=hd;obtain⟨m',D⟩:=m.xX hi Y;have hg:=pw (new:=new) m' ht B (V.mono D (fun _ _ h=>h) M) (V.mono D (fun _ _ h=>h) N) O (av _ _ _) (i:=i) (by rw[List.length_set];exact X) (fun k j e=>by cases e);exact fun K Q E=>hg K Q fun v w' hp=>E v w' (aG.Iz rfl D hp)
       ·cases hd
      ·cases hd
     ·cases hd
   ·cases hd
  ·cases hd
 ·cases hd
theorem Hg(m:Mem Bw w0 ρ φ h w)(hn:ρ new=none){o:Oper}{a:Act}{t e:TypeId}{ti f:TI}(ht:aO P t ti)(hk:ti.k = .sl e)(j:aO P e f){A:Ty}(hT:f.T=some A)(z:0<A.size)
  {u co:Operand} (C:o.op = .makeSlice t u co) {β q:Bool} {D E:IntKind} {l c:Int} (hl:V (Fr (own φ h) Bw w) ρ (.p β (.int D) l) (a.eval u)) (I:V (Fr (own φ h) Bw w) ρ (.p q (.int E) c) (a.eval co))
  (J:0≤l) (L:l≤c) (M:(f.bytes:Int)*c≤281474976710656) (N:c≤9223372036854775807) :
  Good P o a w (aG Bw w0 ρ φ h w new (.sl new) [(new,some (HR e f A l.toNat))]):=by
 have key:=xZ (new:=new) m hn ht hk j hT z C hl I J L M N;unfold HR;split
 ·rename_i B;split
  ·rename_i X O hz;split
   ·grind (splits:=6) (ematch:=4) [AA]
   ·exact key
  ·exact key
 ·exact key
end
theorem BR{F:Bool→Addr→Value→Prop}{ρ:Nat→QW}{T:Ty}{x:ag}{v:Value}(h:V F ρ x v):V F ρ (uK T x) v:=by
 unfold uK;split
 ·simp only[V]at h ⊢;exact⟨rfl,none,0,0,h.symm,⟨rfl,Nat.le_refl _⟩,fun i hi=>absurd hi (by simp)⟩
 ·simp only[V]at h ⊢;exact⟨rfl,h.symm⟩
 ·exact h
theorem wF{T:Ty}{x:ag}:ids (uK T x)=ids x:=by
 unfold uK;split <;> simp[ids]
theorem wW{F:Bool→Addr→Value→Prop}{ρ:Nat→QW}:∀ {Ts:List Ty} {e:List ag} {g:Nat→Value→Prop},VL F ρ e g→VL F ρ (mN Ts e) g
 | [],e,g,h=>by cases e <;> exact h
 | T::Ts,[],g,h=>h
 | T::Ts,c::e,g,h=>by
  simp only[mN,VL]at h ⊢;obtain⟨⟨u,f,j⟩,q⟩:=h;exact⟨⟨u,f,BR j⟩,wW q⟩
theorem px:∀ {Ts:List Ty} {cs:List ag},(mN Ts cs).length=cs.length
 | [],cs=>by cases cs <;> rfl
 | T::Ts,[]=>rfl
 | T::Ts,c::cs=>by simp[mN,px (Ts:=Ts) (cs:=cs)]
theorem vB:∀ {Ts:List Ty} {cs:List ag},bA (mN Ts cs)=bA cs
 | [],cs=>by cases cs <;> rfl
 | T::Ts,[]=>rfl
 | T::Ts,c::cs=>by simp[mN,bA,wF,vB (Ts:=Ts) (cs:=cs)]
theorem Ih{tb:bQ}{t:TypeId}{F:Bool→Addr→Value→Prop}{ρ:Nat→QW}{x:ag}{v:Value}(h:V F ρ x v):V F ρ (xn tb t x) v:=by
 unfold xn;split
 ·split
  ·unfold E9;split
   ·grind (splits:=6) (ematch:=4) [V,px,wW]
   ·exact BR h
  ·exact h
 ·exact h
theorem Eu{tb:bQ}{t:TypeId}{x:ag}:ids (xn tb t x)=ids x:=by
 unfold xn;split
 ·split
  ·unfold E9;split
   ·simp only[ids,vB]
   ·exact wF
  ·rfl
 ·rfl
theorem jN{tb:bQ}{F:Bool→Addr→Value→Prop}{ρ:Nat→QW}:∀ {f:List Bool} {j:List TypeId} {xs:List ag} {e:QY},jf F ρ xs e→jf F ρ (il tb f j xs) e
 | true::f,t::j,x::xs,e,h=>by
  cases e with
  | nil=>exact h.elim
  | cons v e=>exact⟨Ih h.1,jN h.2⟩
 | false::f,t::j,x::xs,e,h=>by
  cases e with
  | nil=>exact h.elim
  | cons v e=>exact⟨h.1,jN h.2⟩
 | [],j,xs,e,h=>by simpa only [il]using h
 | b::f,[],xs,e,h=>by cases b <;> simpa only [il]using h
 | b::f,t::j,[],e,h=>by cases b <;> simpa only [il]using h
theorem oN{tb:bQ}:∀ {bs:List Bool} {ts:List TypeId} {xs:List ag},bA (il tb bs ts xs)=bA xs
 | true::bs,t::ts,x::xs=>by simp only[il,bA,Eu,oN (bs:=bs) (ts:=ts) (xs:=xs)]
 | false::bs,t::ts,x::xs=>by simp only[il,bA,oN (bs:=bs) (ts:=ts) (xs:=xs)]
 | [],ts,xs=>by simp only[il]
 | b::bs,[],xs=>by cases b <;> simp only[il]
 | b::bs,t::ts,[]=>by cases b <;> simp only[il]
def zf(h:Nat→Qz)(x:ag):Option (ag×iu) :=
 match x with
 | .agg e=>match rf h e with
  | some (f,u)=>some (.agg f,u)
  | none=>none
 | x=>gG h x
def frzL(h:Nat→Qz):List Bool→List ag→Option (List ag×iu)
 | _,[]=>some ([],[])
 | [],xs=>some (xs,[])
 | false::bs,x::xs=>match frzL h bs xs with
  | some (e,u)=>some (x::e,u)
  | none=>none
 | true::bs,x::xs=>match zf h x with
  | some (y,u)=>match frzL (apply u h) bs xs with
   | some (e,j)=>some (y::e,u++j)
   | none=>none
  | none=>none
structure yt where
 r:ag
 fl:List Bool
 own:Bool
 cn:List Bool
 g:QV
 hout:Qw
 die:QW
def dieOf:Option yt→QW
 | some q=>q.die
 | none=>none
def wC(P:Program)(f:FuncId)(args:List ag)(hin:Qw)(q:yt):Prop :=
 match q.die with
 | none=>gN P f args hin q.r q.hout
 | some x=>kg P f args hin x
def O8:Option yt→QV
 | some q=>q.g
 | none=>[]
def Cx:ag→ag
 | .lit (.func (.func f) e j)=>if e.isEmpty && j.isEmpty then .fn f []else .unk
 | x=>x
def KP:Option yt→List Bool
 | some q=>q.cn
 | none=>[]
def we(P:Program)(new:Nat)(jg:Option yt)(f:ag)(xs:List ag)(h:Nat→Qz):XQ :=
 match f,jg with
 | .fn fid e,some q=>match frzL h q.fl xs with
  | some (j,u) =>
   if q.own then
    if q.g.all (fun i=>(ym h (f::xs)).contains i)then
     match tY q.g (less q.g (apply u h)) (j++e),j8 q.g (apply u h) 0 q.g with
     | some args,some hin=>if uR q.g q.hout q.r then some (mM (sa q.g new) q.r,u++vL q.g new q.hout,wC P fid args hin q)else none
     | _,_=>none
    else none
   else match o5 (apply u h) (j++e)with
   | some args=>some (q.r,u,Pure P fid args q.r)
   | none=>none
  | none=>none
 | _,_=>none
def AG(asm:Option Bool)(c:ag)(s:Nat→ag)(x y:Operand):XQ :=
 match asm,c with
 | some b,.p _ .bool e=>some (ev s (if b then x else y),[],e=b)
 | none,.p _ .bool e=>match e with
  | true=>some (ev s x,[],True)
  | false=>some (ev s y,[],True)
 | _,_=>none
def Fp(fn:Fn)(first:List Operand)(e:List ag):XQ :=
 match fn,first with
 | .func f,[]=>some (.fn f e,[],True)
 | _,_=>none
def rv(tb:bQ)(new:Nat)(b:Builtin)(xs:List ag)(e:List TypeId)(h:Nat→Qz):XQ :=
 match b,xs,e with
 | .len,[x],[t]=>if Oq x then uH tb t x h else Fh tb t x h
 | .min,[x,y],_=>FE false x y
 | .max,[x,y],_=>FE true x y
 | .append,[x,y],[t,j]=>if t=j then nL tb new t x y h else none
 | .copy,[x,y],[t,_]=>sO tb t x y h
 | _,_,_=>none
def qq(P:Program)(tb:bQ)(new:Nat)(jg:Option yt)(c:Call)(s:Nat→ag)(h:Nat→Qz):XQ :=
 match c.callee with
 | .builtin b=>rv tb new b (c.args.toList.map (ev s)) c.argTypes.toList h
 | .value f=>we P new jg (Cx (ev s f)) (il tb (KP jg) c.argTypes.toList (c.args.toList.map (ev s))) h
 | _=>none
def im(P:Program)(tb:bQ)(new:Nat)(asm:Option Bool)(jg:Option yt)(op:Op)(s:Nat→ag)(h:Nat→Qz):XQ :=
 match op with
 | .move x=>some (ev s x,[],True)
 | .assign x=>some (ev s x,[],True)
 | .pick c x y=>AG asm (ev s c) s x y
 | .alloc t=>BH tb new t
 | .box _ x=>Ip new (ev s x)
 | .build t e=>pD tb t (e.toList.map (·.1)) (e.toList.map fun p=>ev s p.2)
 | .buildSlice t len e=>m5 tb new t len (e.toList.map (·.1)) (e.toList.map fun p=>ev s p.2) h
 | .load t x=>Bb tb new t (ev s x) h
 | .store t x y=>qe tb t (ev s x) (ev s y) h
 | .binOp op t x y _=>IE P tb op t (ev s x) (ev s y)
 | .nilCheck x=>HS (ev s x)
 | .unOp op _ x=>Lg op (ev s x)
 | .convert st u x=>match jg with
  | none=>Aw tb st u (ev s x) h
  | some _=>Co tb new st u (ev s x)
 | .slice t x q hi none=>qh tb new t (ev s x) (qL s q) (qL s hi) h
 | .slice t x q (some hi) (some mx)=>match jg with
  | none=>uv tb t (ev s x) (qL s q) (ev s hi) (ev s mx) h
  | some _=>Ek tb new t (ev s x) (qL s q) (ev s hi) (ev s mx) h
 | .fieldAddr t x f=>CJ tb t (ev s x) f
 | .indexAddr t x i=>match jB tb t (ev s x) (ev s i) h with
  | some r=>some r
  | none=>lE tb t (ev s x) (ev s i) h
 | .index t x i=>BL tb t (ev s x) (ev s i)
 | .extract x i=>yy (ev s x) i
 | .typeAssert x _ t ok=>uN P (ev s x) t ok
 | .makeFunc fn first j=>Fp fn first.toList (j.toList.map (ev s))
 | .makeSlice t l c=>Fq tb new t (ev s l) (ev s c)
 | .makeMap t none=>match xN P tb new t with
  | some r=>some r
  | none=>uZ P tb new t
 | .lookup t x k ok=>match nC P tb t (ev s x) (ev s k) ok h with
  | some r=>some r
  | none=>l8 P tb t (O8 jg) (ev s x) (ev s k) ok h
 | .mapUpdate t x k y=>match ga P tb t (ev s x) (ev s k) (ev s y) h with
  | some r=>some r
  | none=>fD P tb t (ev s x) (ev s k) (ev s y) h
 | .insert t x k y=>match ga P tb t (ev s x) (ev s k) (ev s y) h with
  | some r=>some r
  | none=>fD P tb t (ev s x) (ev s k) (ev s y) h
 | .call c=>qq P tb new jg c s h
 | _=>none
section
variable{P:Program}{tb:bQ}{Bw:Nat→Prop}{w0:cE P}{ρ:Nat→QW}{φ:Nat→Nat→Prop}{h:Nat→Qz}{w:World}{new:Nat}{n:NS}{s:Nat→ag}{a:Act}
theorem ca(f:bY P tb){t e:TypeId}{j:TI}{A:Ty}(h:iH tb t=some (e,j,A)):∃ti,aO P t ti∧tb.find t=some ti∧ti.k = .sl e∧aO P e j∧j.T=some A∧0<A.size:=by
 unfold iH at h;split at h
 ·rename_i ti q;split at h
  ·rename_i E u;split at h
   ·rename_i z B;split at h
    ·rename_i I C;split at h
     ·rename_i D;cases h;exact⟨ti,f.find q,q,u,f.find B,C,D⟩
     ·cases h
    ·cases h
   ·cases h
  ·cases h
 ·cases h
theorem oG(e:bY P tb){t:TypeId}{K A:Ty}{c:Prop}(h:Ja P tb t=some (K,A,c))(J:c):∃ti f j q,aO P t ti∧ti.k = .mp f j∧fU P f K∧aO P j q∧q.T=some A:=by
 unfold Ja at h;split at h
 ·rename_i ti z;split at h
  ·rename_i f j B;split at h
   ·rename_i L q C D;split at h
    ·rename_i M N O u E;cases h;refine⟨ti,f,j,q,e.find z,B,?_,e.find D,E⟩;unfold J7 at u;split at u
     ·rename_i V I;cases u;exact fU.zL (e.find C) I
     ·grind
    ·cases h
   ·cases h
  ·cases h
 ·cases h
theorem om(e:bY P tb){t:TypeId}{K:Ty}{c:Prop}(h:Jj P tb t=some (K,c))(E:c):∃ti f j q,aO P t ti∧ti.k = .mp f j∧fU P f K∧aO P j q∧L8 tb t=zV q:=by
 unfold Jj at h;split at h
 ·rename_i ti u;split at h
  ·rename_i f j z;split at h
   ·rename_i I q C B;split at h
    ·refine⟨ti,f,j,q,e.find u,z,?_,e.find B,by simp[L8,u,z,B]⟩;unfold J7 at h;split at h
     ·rename_i J D;cases h;exact fU.zL (e.find C) D
     ·grind
    ·cases h
   ·cases h
  ·cases h
 ·cases h
theorem uS{F:Bool→Addr→Value→Prop}{ρ:Nat→QW}{x:ag}{v u:Value}(h:valOf x=some v)(e:V F ρ x u):u=v:=by
 unfold valOf at h;split at h
 ·cases h;simpa only [V]using e
 ·grind (splits:=6) (ematch:=4) [V,Array.eq_empty_of_size_eq_zero]
 ·cases h;simp only[V,VL]at e;obtain⟨f,rfl,j,⟨J,q,z,rfl,B,_⟩,_⟩:=e;have C:z = #[]:=Array.eq_empty_of_size_eq_zero (by simpa using B);subst C;have D:f = #[.func (.func _) #[] #[]]:=Array.ext (by simpa using j) (fun i E I=>by
   have:i=0:=by simp at I;omega
   subst this;simpa [Array.getElem?_eq_getElem E]using q)
  rw[D]
 ·cases h
theorem xg{F:Bool→Addr→Value→Prop}{ρ:Nat→QW}{x:ag}{u:Value}(e:V F ρ x u):V F ρ (Cx x) u:=by
 unfold Cx;split
 ·rename_i f j q;split
  ·simp_all [Bool.and_eq_true,Array.isEmpty_iff,V,VL]
  ·trivial
 ·exact e
theorem BD{x:ag}:∀i∈ids (Cx x),i∈ids x:=by
 unfold Cx;split
 ·grind (splits:=6) (ematch:=4) [ids,bA]
 ·exact fun i hi=>hi
theorem hJ{F:Bool→Addr→Value→Prop}{ρ:Nat→QW}{K:Ty}{x:ag}{k:K.den}{v:Value}(h:uF K x=some k)(f:K.isKey=true)(e:V F ρ x v):v=aP K k:=by
 unfold uF at h;split at h
 ·grind (splits:=6) (ematch:=4) [nS]
 ·rename_i J;split at h
  ·rename_i C;split at h
   ·rename_i L r hu;cases h;simp only[V]at e;obtain⟨z,rfl,D,B⟩:=e;obtain⟨E,M,N⟩:=cZ hu B;rw[jO f C.1];congr 1;refine Array.ext_getElem? fun i=>?_
    rw[List.getElem?_toArray,←Array.getElem?_toList];rcases Nat.lt_or_ge i K.size with hi | hi
    ·have:=kJ (l:=z.toList) (o:=0) f (ai.mono (fun _ _ h=>h) (fun j u I=>by rw[Nat.zero_add,Array.getElem?_toList];exact I) E) i hi;rw[Nat.zero_add]at this;exact this
    ·simp_all [Array.length_toList,dT]
   ·cases h
  ·cases h
 ·rename_i O X xs;split at h
  ·rename_i q;subst q;cases h;simp only[V]at e;obtain⟨z,rfl,hl,-⟩:=e;rw[jO f rfl];cases z with
   | nil=>simp[cR]
   | cons _ _=>simp at hl
  ·cases h
 ·cases h
theorem rR{F:Bool→Addr→Value→Prop}(j:bV n F ρ s a){f:Option Operand}{l:Option Int}(h:qL s f=some l):uc F ρ a f l:=by
 unfold qL at h;cases f with
 | none=>cases h;trivial
 | some x =>
  simp only at h;split at h
  ·rename_i β k m e;cases h;have:=ba j x;rw[e]at this;exact⟨_,_,this⟩
  ·cases h
theorem mQ{F:Bool→Addr→Value→Prop}{x:ag}{n:Int}(h:intOf x=some n){v:Value}(e:V F ρ x v):∃β k,V F ρ (.p β (.int k) n) v:=by
 unfold intOf at h;split at h
 ·cases h;exact⟨_,_,e⟩
 ·cases h
theorem Ey(m:Mem Bw w0 ρ φ h w){x y:ag}{u:iu}(hd:zf h x=some (y,u)):
  Mem Bw w0 ρ φ (apply u h) w∧(∀β a v,Fr (own φ h) Bw w β a v→Fr (own φ (apply u h)) Bw w β a v)∧∀v,V (Fr (own φ h) Bw w) ρ x v→V (Fr (own φ (apply u h)) Bw w) ρ y v:=by
 unfold zf at hd;split at hd
 ·split at hd
  ·rename_i E I j;cases hd;obtain⟨q,z,A,B⟩:=pG m j;refine⟨q,z,fun v f=>?_⟩;simp only[V]at f ⊢;obtain⟨C,e,D,hl⟩:=f;exact⟨C,e,by rw[A];exact D,B _ hl⟩
  ·cases hd
 ·exact hZ m hd
theorem oh:∀ {z:List Bool} {xs j:List ag} {h:Nat→Qz} {u:iu},Mem Bw w0 ρ φ h w→frzL h z xs=some (j,u) →
  Mem Bw w0 ρ φ (apply u h) w∧(∀β a v,Fr (own φ h) Bw w β a v→Fr (own φ (apply u h)) Bw w β a v)∧∀e,jf (Fr (own φ h) Bw w) ρ xs e→jf (Fr (own φ (apply u h)) Bw w) ρ j e
 | _,[],j,h,u,m,hd=>by
  simp only[frzL]at hd;cases hd;exact⟨m,fun _ _ _ h=>h,fun _ h=>h⟩
 | [],x::xs,j,h,u,m,hd=>by
  simp only[frzL]at hd;cases hd;exact⟨m,fun _ _ _ h=>h,fun _ h=>h⟩
 | false::z,x::xs,j,h,u,m,hd=>by
  simp only[frzL]at hd;split at hd
  ·rename_i B O C;cases hd;obtain⟨D,q,E⟩:=oh m C;refine⟨D,q,fun e f=>?_⟩;cases e with
   | nil=>exact f.elim
   | cons v e=>exact⟨V.mono q (fun _ _ h=>h) f.1,E e f.2⟩
  ·cases hd
 | true::z,x::xs,j,h,u,m,hd=>by
  simp only[frzL]at hd;split at hd
  ·rename_i y u1 C;split at hd
   ·rename_i B X J;cases hd;obtain⟨D,q,E⟩:=Ey m C;obtain⟨L,I,M⟩:=oh D J;rw[fm];refine⟨L,fun β a v N=>I _ _ _ (q _ _ _ N),fun e f=>?_⟩;cases e with
    | nil=>exact f.elim
    | cons v e=>exact⟨V.mono I (fun _ _ h=>h) (E v f.1),M e (jf.mono q (fun _ _ h=>h) f.2)⟩
   ·cases hd
  ·cases hd
theorem xQ{e:iu}{i:Nat}(hu:e.all (fun p=>p.1 != i)=true):∀ {h:Nat→Qz},apply e h i=h i:=by
 induction e with
 | nil=>intro h;rfl
 | cons p e f =>
  intro h;obtain⟨j,o⟩:=p;simp only[List.all_cons,Bool.and_eq_true,bne_iff_ne,ne_eq]at hu;simp only[apply];rw[f hu.2,aD _ _ (Ne.symm hu.1)]
theorem tJ{F:Bool→Addr→Value→Prop}{x:ag}{b:Bool}(h:A4 x=some b){u:Value}(hu:V F ρ x u):∃q,u = .pointer q∧q.isNone=b:=by
 cases x <;> simp only[A4]at h <;> first | (cases h;done) | skip
 ·cases h;simp only[V]at hu;exact⟨none,hu,rfl⟩
 ·grind (splits:=6) (ematch:=4) [V]
 ·grind (splits:=6) (ematch:=4) [V]
theorem AR(d:Nat){t e:TypeId}(h:P.underlying t=some (.pointer e))(q:Option Addr):(Op.equalIn (d+1) t (.pointer none) (.pointer q)).run P w = .ok q.isNone w:=by
 simp[Op.equalIn,run_underlying h]
theorem yL(d:Nat){t e:TypeId}(h:P.underlying t=some (.pointer e))(a:Addr):(Op.equalIn (d+1) t (.pointer (some a)) (.pointer none)).run P w = .ok false w:=by
 simp[Op.equalIn,run_underlying h]
theorem Bk(d:Nat){t:TypeId}{e:Array (String×TypeId)}(h:P.underlying t=some (.interface e))(a:TypeId)(v:Value):(Op.equalIn (d+1) t (.iface a v) .nilIface).run P w = .ok false w:=by
 simp[Op.equalIn,run_underlying h]
theorem td{F:Bool→Addr→Value→Prop}{op:BinOp}{b:Bool}{r:ag}(h:Ii op b=some r){t:TypeId}{u v:Value}{xo yo:Operand}(f:(eqGuard op t xo yo u v).run P w = .ok () w)
  (j:(Op.equal t u v).run P w = .ok b w) (e:binOp .eql t u v=(do pure (.bool (←Op.equal t u v)))∧binOp .neq t u v=(do pure (.bool (!(←Op.equal t u v))))) :
  ∃z,(do eqGuard op t xo yo u v;binOp op t u v:Sem Value).run P w = .ok z w∧V F ρ r z:=by
 unfold Ii at h;split at h <;> cases h
 ·simp_all [jy]
 ·simp_all [jy]
theorem Ca{F:Bool→Addr→Value→Prop}{ti:TI}{op:BinOp}{t:TypeId}{x y r:ag}{M:iu}{c:Prop}(h:HP P ti op t x y=some (r,M,c))(C:c){u v:Value}(hu:V F ρ x u)(j:V F ρ y v)(E I:Operand):
  M=[]∧∃z,(do eqGuard op t E I u v;binOp op t u v:Sem Value).run P w = .ok z w∧V F ρ r z:=by
 have ptr:∀ {b:Bool} {q B:Option Addr},u = .pointer q→v = .pointer B→(∃e,P.underlying t=some (.pointer e))→(q.isNone=true∧B.isNone=b∨q.isNone=false∧B.isNone=true∧b=false)→Ii op b=some r →
   ∃z,(do eqGuard op t E I u v;binOp op t u v:Sem Value).run P w = .ok z w∧V F ρ r z:=fun {b q B} Z e2 D N f=>by
  subst Z e2;obtain⟨e,D⟩:=D;refine td f (bJ (by intro O e;cases e) (by intro e;cases e)) ?_ ⟨by cases q <;> cases B <;> rfl,by cases q <;> cases B <;> rfl⟩;unfold Op.equal Op.maxDepth;cases q with
  | none =>
   rcases N with⟨_,X⟩ | ⟨J,_⟩
   ·subst X;exact AR 9999 D B
   ·cases J
  | some a =>
   rcases N with⟨J,_⟩ | ⟨_,X,q3⟩
   ·cases J
   ·simp_all [yL]
 unfold HP at h;split at h
 ·rename_i O ds;split at h
  ·rename_i T hT;split at h
   ·rename_i a b ha hb;split at h
    ·rename_i Y f;cases h;refine⟨rfl,?_⟩;simp only[V]at hu j;obtain⟨xs,rfl,sx,lx⟩:=hu;obtain⟨ys,rfl,sy,ly⟩:=j;obtain⟨a1,a2,a3⟩:=cZ ha lx;obtain⟨b1,b2,b3⟩:=cZ hb ly;have hl:∀l:List ag,([]:List ag)=l.drop T.size→T.size≤l.length→l.length=T.size:=fun l h1 h2=>by
      grind (splits:=6) (ematch:=4) [List.length,List.length_nil,List.length_drop]
     have D:=C.2 w;have a4:T.scalar=false:=C.1.2;refine td f (run_eqGuard_agg w op t E I xs ys C.1.1) ?_ ⟨rfl,rfl⟩;refine D.2.2 (F false) a b _ _ ?_ ?_
     ·simp_all [o7,Bool.false_eq_true]
     ·grind (splits:=6) (ematch:=4) [o7,Bool.false_eq_true]
    ·cases h
   ·cases h
  ·cases h
 ·rename_i A q;split at h
  ·rename_i Y f;cases h;simp only[V]at hu j;cases q with
   | none =>
    have e:u = .pointer none:=hu.2.symm;exact⟨rfl,ptr e j C (.inl ⟨rfl,rfl⟩) f⟩
   | some y =>
    obtain⟨_,b,e,_⟩:=hu;exact⟨rfl,ptr e.symm j C (.inr ⟨rfl,rfl,rfl⟩) f⟩
  ·cases h
 ·split at h
  ·grind (splits:=6) (ematch:=4) [tJ]
  ·grind (splits:=6) (ematch:=4) [tJ]
  ·split at h
   ·split at h
    ·rename_i Y f;cases h;simp only[V]at hu j;subst hu j;obtain⟨ms,L⟩:=C;refine⟨rfl,td f (bJ (by intro O e;cases e) (by intro e;cases e)) ?_ ⟨rfl,rfl⟩⟩;unfold Op.equal Op.maxDepth;exact Bk 9999 L _ _
    ·cases h
   ·cases h
theorem Cn(m:Mem Bw w0 ρ φ h w){o:Oper}{f:Operand}{z e:TypeId}{ok:Bool}(B:o.op = .typeAssert f z e ok){x:ag}(j:V (Fr (own φ h) Bw w) ρ x (a.eval f)){y:ag}{u:iu}{c:Prop}
  (hd:uN P x e ok=some (y,u,c)) (C:c):Good P o a w (aG Bw w0 ρ φ h w new y u):=by
 unfold uN at hd;split at hd
 ·rename_i t v;split at hd
  ·rename_i q;obtain⟨rfl,rfl⟩:=q;cases hd;obtain⟨d,hd,hi⟩:=C;simp only[V]at j;refine Good.aH (v:= .tuple #[v,.bool true]) (w':=w) ?_ (aG.pure m ?_)
   ·simp only[execOp,B,j];simp only[Instr.typeAssert,Sem.run_bind,run_underlying hd,Result.andThen_ok];cases d <;> first | (simp at hi;done) | (simp;done)
   ·simp only[V,VL];exact⟨_,rfl,rfl,⟨v,by simp,DS v⟩,⟨.bool true,by simp,by simp only[V,ai];exact⟨rfl,trivial⟩⟩,trivial⟩
  ·cases hd
 ·cases hd
theorem Hp(C:bY P tb)(m:Mem Bw w0 ρ φ h w)(E:bV n (Fr (own φ h) Bw w) ρ s a)(cc:∀j,j<8→ρ (new+j)=none){o:Oper}{asm:Option Bool}{jg:Option yt}(ch:dieOf jg=none){x:ag}{u:iu}{c:Prop}
  (hd:im P tb new asm jg o.op s h=some (x,u,c)) (L:c):Good P o a w (aG Bw w0 ρ φ h w new x u):=by
 have hn:ρ new=none:=cc 0 (by omega);unfold im at hd;split at hd
 ·rename_i x' I;cases hd;exact zN m (ba E _) (.inl I)
 ·rename_i x' I;cases hd;exact zN m (ba E _) (.inr I)
 ·rename_i co D M I;unfold AG at hd;split at hd
  ·rename_i b β b' e;cases hd;subst L;have:=ba E co;rw[e]at this;exact ue m this (ba E _) I
  ·rename_i β b' e;have:=ba E co;rw[e]at this;split at hd
   ·grind (splits:=6) (ematch:=4) [ue,ba]
   ·grind (splits:=6) (ematch:=4) [ue,ba]
  ·cases hd
 ·rename_i t I;unfold BH at hd;split at hd
  ·rename_i ti ht;cases hd;exact Er m hn (C.find ht) I
  ·cases hd
 ·rename_i t D I;unfold Ip at hd;split at hd
  ·rename_i bs;cases hd;exact HI m hn (ba E D) bs I _
  ·cases hd
 ·rename_i t ps I;unfold pD at hd;split at hd
  ·rename_i ti ht;split at hd
   ·rename_i fs hk;split at hd
    ·rename_i ds bv;cases hd;have:=jM E (ps.toList.map (·.2));simp only[List.map_map]at this;exact xJ m C (C.find ht) hk I this bv
    ·cases hd
   ·rename_i n e hk;split at hd
    ·rename_i te a8;split at hd
     ·rename_i ds bv;cases hd;have:=jM E (ps.toList.map (·.2));simp only[List.map_map]at this;exact uO m C (C.find ht) hk (C.find a8) I this bv
     ·cases hd
    ·cases hd
   ·cases hd
  ·cases hd
 ·rename_i t len ps I;unfold m5 at hd;split at hd
  ·rename_i e te A a3;obtain⟨ti,N,_,O,X,h4,h5⟩:=ca C a3;split at hd
   ·rename_i Y;split at hd
    ·rename_i ys us ax;cases hd;have:=jM E (ps.toList.map (·.2));simp only[List.map_map]at this;exact vK m hn N O X h4 h5 I Y.1 this (fun x J=>EF ((List.all_eq_true.1 Y.2.1) x J)) ax Y.2.2
    ·cases hd
   ·cases hd
  ·cases hd
 ·rename_i t D I;unfold Bb at hd;split at hd
  ·rename_i ti ht;split at hd
   ·rename_i cs off c' d2;split at hd
    ·rename_i y hy;cases hd;exact HA m (C.find ht) (ba E D) I d2 L hy
    ·cases hd
   ·split at hd
    ·rename_i r0 bx;cases hd;exact Js m (C.find ht) (ba E D) I bx
    ·exact GL m hn (C.find ht) (ba E D) I hd L
  ·cases hd
 ·rename_i t D M I;unfold qe at hd;split at hd
  ·rename_i ti ht;split at hd
   ·rename_i Y;split at hd
    ·rename_i id i sz off ex;have J:=ba E D;rw[ex]at J;split at hd
     ·rename_i cs hi;split at hd
      ·rename_i cp;cases hd;exact wJ m (C.find ht) J (ba E M) Y.1 I hi Y.2 cp
      ·cases hd
     ·rename_i e A xs hi;split at hd
      ·rename_i a9;split at hd
       ·rename_i z us hz;split at hd
        ·rename_i b4;cases hd;rw[a9.1]at J;exact wS m (C.find ht) J (ba E M) Y.1 I hz hi (by rw[xQ b4];exact hi) Y.2 a9.2 L
        ·cases hd
       ·cases hd
      ·cases hd
     ·rename_i e e2 A du hole hi;split at hd
      ·rename_i a9;obtain⟨rfl,rfl⟩:=a9;exact JE m (C.find ht) J (ba E M) Y.2 I hi hd L
      ·cases hd
     ·rename_i e xs hi;split at hd
      ·rename_i a9;obtain⟨rfl,rfl,d3⟩:=a9;split at hd
       ·rename_i β v ey;have hy:=ba E M;rw[ey]at hy;cases hd;exact uD m (C.find ht) d3 J hy I hi L
       ·cases hd
      ·cases hd
     ·cases hd
    ·exact HN m (C.find ht) (ba E D) (ba E M) I hd
   ·cases hd
  ·cases hd
 ·rename_i op t D M t' I;unfold IE at hd;split at hd
  ·rename_i ti ht;split at hd
   ·rename_i r c' hr;cases hd;obtain⟨z,N,O⟩:=Hr (P:=P) (w:=w) (C.find ht) hr L (ba E D) (ba E M) D M;exact Good.aH (v:=z) (w':=w) (by simp only[execOp,I];rw[Sem.run_bind,N];rfl) (aG.pure m O)
   ·obtain⟨hu,z,N,O⟩:=Ca (P:=P) (w:=w) hd L (ba E D) (ba E M) D M;subst hu;exact Good.aH (v:=z) (w':=w) (by simp only[execOp,I];rw[Sem.run_bind,N];rfl) (aG.pure m O)
  ·cases hd
 ·rename_i D I;have J:=ba E D;unfold HS at hd;split at hd
  ·rename_i id i sz off ex;cases hd;rw[ex]at J;obtain⟨g,N,O⟩:∃g,_∧a.eval D = .pointer (some ⟨g,i*sz+off,none⟩):=by simpa only [V]using J
   exact Good.aH (v:=a.eval D) (w':=w) (by simp only[execOp,I,O];rfl) (aG.pure m J)
  ·rename_i β cs off ex;cases hd;rw[ex]at J;obtain⟨ad,N,O⟩:∃ad:Addr,a.eval D = .pointer (some (ad.add off))∧_:=by simpa only [V]using J
   exact Good.aH (v:=a.eval D) (w':=w) (by simp only[execOp,I,N];rfl) (aG.pure m J)
  ·rename_i β A q ex;cases hd;rw[ex]at J;cases q with
   | none=>cases L
   | some y =>
    obtain⟨_,b,e,hv⟩:_∧∃b:Addr,Value.pointer (some b)=a.eval D∧ai (Fr (own φ h) Bw w β) A y (fun k v=>Fr (own φ h) Bw w β (b.add k) v):=by simpa only [V,ai]using J
    refine Good.aH (v:=a.eval D) (w':=w) (by simp only[execOp,I,←e];rfl) (aG.pure m ?_);simp only[V,Option.getD_some];exact⟨b,by rw[←e];unfold Addr.add;simp,jX β A y _ hv⟩
  ·cases hd
 ·rename_i op t D I;unfold Lg at hd;split at hd
  ·rename_i r hr;cases hd;obtain⟨z,N,O⟩:=Dj (P:=P) (w:=w) hr (ba E D);exact Good.aH (v:=z) (w':=w) (by simp only[execOp,I];rw[Sem.run_bind,N];rfl) (aG.pure m O)
  ·cases hd
 ·rename_i st dt D I;split at hd
  ·unfold Aw at hd;split at hd
   ·rename_i si b5;split at hd
    ·rename_i di be;split at hd
     ·rename_i r hr;cases hd;obtain⟨dd,bi,a6⟩:=(C.find be).hu;unfold JL at hr;split at hr
      ·rename_i β l ex;have J:=ba E D;rw[ex]at J;split at hr
       ·rename_i e hk;split at hr
        ·rename_i a2;cases hr;rw[hk]at a6;simp only[UK]at a6;subst a6;simp only[GR]at a2;split at a2
         ·rename_i te a8;obtain⟨d,q1,q2⟩:=(C.find a8).hu;split at a2
          ·rename_i c2;rw[c2]at q2;simp only[UK]at q2;exact Ej m (C.find b5) bi (by rw[q1,q2]) I J
          ·cases a2
         ·cases a2
        ·cases hr
       ·cases hr
      ·rename_i β k n ex;have J:=ba E D;rw[ex]at J;split at hr
       ·rename_i hk;cases hr;rw[hk]at a6;simp only[UK]at a6;subst a6;exact Gx m (C.find b5) bi I J
       ·cases hr
      ·cases hr
     split at hd
     ·rename_i a2;split at hd
      ·rename_i r hr;cases hd;obtain⟨z,N,O⟩:=Es (P:=P) m (C.find b5) (C.find be) (fun e he=>by
        rw[he]at a2;simp only[GR]at a2;split at a2
        ·rename_i te a8;obtain⟨d,q1,q2⟩:=(C.find a8).hu;split at a2
         ·simp_all [UK]
         ·cases a2
        ·cases a2) hr (ba E D)
       exact Good.aH (v:=z) (w':=w) (by simp only[execOp,I];rw[Sem.run_bind,N];rfl) (aG.pure m O)
      ·cases hd
     ·cases hd
    ·cases hd
   ·cases hd
  ·unfold Co at hd;split at hd
   ·rename_i si b5;split at hd
    ·rename_i di be;obtain⟨dd,bi,a6⟩:=(C.find be).hu;split at hd
     ·rename_i β l ex;have J:=ba E D;rw[ex]at J;split at hd
      ·rename_i e hk;split at hd
       ·rename_i a2;cases hd;rw[hk]at a6;simp only[UK]at a6;subst a6;simp only[GR]at a2;split at a2
        ·rename_i te a8;obtain⟨d,q1,q2⟩:=(C.find a8).hu;split at a2
         ·rename_i c2;rw[c2]at q2;simp only[UK]at q2;exact Dx m hn (C.find b5) bi (by rw[q1,q2]) I J
         ·cases a2
        ·cases a2
       ·cases hd
      ·cases hd
     ·cases hd
    ·cases hd
   ·cases hd
 ·rename_i t D lo hi I;unfold qh at hd;split at hd
  ·rename_i ti ht;split at hd
   ·rename_i l r hl hr;have b6:=rR E hl;have aa:=rR E hr;have J:=ba E D;split at hd
    ·rename_i β str ex;rw[ex]at J;split at hd
     ·rename_i hk;cases hd;exact yj m (C.find ht) hk I J b6 aa L.1 L.2.1 L.2.2
     ·cases hd
    ·grind (splits:=6) (ematch:=4) [ca,pa]
    ·rename_i id ex;rw[ex]at J;split at hd
     ·rename_i e A xs a4;split at hd
      ·rename_i _ _ _ a3;obtain⟨b2,N,b3,O,X,h4,h5⟩:=ca C a3;split at hd
       ·rename_i k;cases hd;cases lo with
        | some _=>exact b6.elim
        | none =>
         cases hi with
         | none=>exact aa.elim
         | some e1 =>
          obtain⟨β,kk,hv⟩:=aa;exact xd m hn N O X (A:=A) I a4 J hv L.1 L.2
       ·cases hd
      ·cases hd
     ·rename_i A xs a4;split at hd
      ·rename_i _ _ B a3;obtain⟨b2,N,b3,O,X,h4,h5⟩:=ca C a3;split at hd
       ·rename_i b7;subst b7;cases hd;obtain⟨u,q1,q2⟩:=m.ob id _ a4;simp only[V]at J;rw[J.1]at q1;cases q1;exact pa m N O X h4 I q2 b6 aa L.1 L.2.1 L.2.2
       ·cases hd
      ·cases hd
     ·cases hd
    ·grind (splits:=6) (ematch:=4) [ca,yg]
    ·cases hd
   ·cases hd
  ·cases hd
 ·rename_i t D lo hi mx I;split at hd
  ·unfold uv at hd;split at hd
   ·rename_i _ _ B l r q a3 hl hr hq;obtain⟨b2,N,b3,O,X,h4,h5⟩:=ca C a3;have b6:=rR E hl;obtain⟨d4,k1,aa⟩:=mQ hr (ba E hi);obtain⟨d5,k2,c4⟩:=mQ hq (ba E mx);have J:=ba E D;split at hd
    ·grind (splits:=6) (ematch:=4) [uU]
    ·rename_i id ex;rw[ex]at J;split at hd
     ·rename_i A xs a4;split at hd
      ·rename_i b7;subst b7;cases hd;obtain⟨u,q1,q2⟩:=m.ob id _ a4;simp only[V]at J;rw[J.1]at q1;cases q1;exact uU m N O X h4 I q2 b6 aa c4 L.1 L.2.1 L.2.2.1 L.2.2.2
      ·cases hd
     ·cases hd
    ·cases hd
   ·cases hd
  ·unfold Ek at hd;split at hd
   ·rename_i _ _ B r q a3 hl hr hq;obtain⟨b2,N,b3,O,X,h4,h5⟩:=ca C a3;obtain⟨d4,k1,aa⟩:=mQ hr (ba E hi);obtain⟨d5,k2,c4⟩:=mQ hq (ba E mx);have J:=ba E D;have d6:lo=none:=by
     cases lo with
     | none=>rfl
     | some y =>simp only[qL]at hl;split at hl <;> cases hl
    subst d6;split at hd
    ·rename_i A xs u' ed;split at hd
     ·rename_i b7;subst b7;cases hd;obtain⟨c1,rfl,c3⟩:=L;obtain⟨m',hF,hv⟩:=hZ m ed;have:=AU (new:=new) m' hn N O X h4 I (hv _ J) (V.mono hF (fun _ _ h=>h) aa) (V.mono hF (fun _ _ h=>h) c4) c1 c3;exact fun K Q d7=>this K Q fun v w' hp=>d7 v w' (aG.after rfl hF hp)
     ·cases hd
    ·cases hd
   ·cases hd
 ·rename_i t D f I;unfold CJ at hd;split at hd
  ·rename_i ti ht;split at hd
   ·rename_i fs hk;split at hd
    ·rename_i off ft hf;split at hd
     ·rename_i id i sz k ex;cases hd;exact qb m (C.find ht) (ba E D) I hk hf (.inl ⟨_,_,_,_,ex,rfl⟩)
     ·rename_i β cs k ex;cases hd;exact qb m (C.find ht) (ba E D) I hk hf (.inr ⟨_,_,_,ex,rfl⟩)
     ·cases hd
    ·cases hd
   ·cases hd
  ·cases hd
 ·rename_i t D io I;split at hd
  case h_2=>exact GI m C (ba E D) (ba E io) I hd L
  rename_i r0 bx;cases hd;revert bx;intro hd;unfold jB at hd;split at hd
  ·rename_i e te A a3;obtain⟨b2,N,b3,O,X,h4,h5⟩:=ca C a3;split at hd
   ·rename_i β k i ei;split at hd
    ·rename_i y sz c' hy;split at hd
     ·rename_i a9;subst a9;cases hd;have hi:=ba E io;rw[ei]at hi;exact xF m N O X (ba E D) hi I hy L
     ·cases hd
    ·cases hd
   ·cases hd
  ·cases hd
 ·rename_i t D io I;unfold BL at hd;split at hd
  ·rename_i ti ht;split at hd
   ·rename_i hk;split at hd
    ·rename_i β str cx k i ex ei;cases hd;have J:=ba E D;have hi:=ba E io;rw[ex]at J;rw[ei]at hi;exact yu m (C.find ht) hk J hi I L.1 L.2
    ·cases hd
   ·rename_i n e hk;split at hd
    ·rename_i te a8;split at hd
     ·rename_i k d8;split at hd
      ·rename_i cs β k' j ex ei;split at hd
       ·rename_i hn;split at hd
        ·rename_i l hl;cases hd;have J:=ba E D;have hi:=ba E io;rw[ex]at J;rw[ei]at hi;exact yW m (C.find ht) hk (C.find a8) d8 J hl hn hi I L
        ·cases hd
       ·cases hd
      ·cases hd
     ·cases hd
    ·cases hd
   ·cases hd
  ·cases hd
 ·rename_i D i I;unfold yy at hd;split at hd
  ·rename_i cs ex;split at hd
   ·rename_i y hy;cases hd;have J:=ba E D;rw[ex]at J;exact Bn m J I hy
   ·cases hd
  ·cases hd
 ·rename_i D xt t ok I;exact Cn m I (ba E D) hd L
 ·rename_i fn first d1 I
  unfold Fp at hd;split at hd
  ·rename_i f e;cases hd;have e':first = #[]:=Array.ext' e
   subst e';exact zc m I (jM E _)
  ·cases hd
 ·grind (splits:=6) (ematch:=4) [Fq,ca,ba,Hg]
 ·rename_i t I;split at hd
  ·rename_i r b1;cases hd;have hd:=b1;unfold xN at hd;split at hd
   ·rename_i K A c' hm;cases hd;obtain⟨ti,kt,et,te,N,O,X,h5,h6⟩:=oG C hm L;exact AS m hn X.isKey I
   ·cases hd
  ·unfold uZ at hd;split at hd
   ·rename_i K c' hm;cases hd;obtain⟨ti,kt,et,te,N,O,X,h5⟩:=om C hm L;exact yU m hn X.isKey I
   ·cases hd
 ·rename_i t D ko ok I;split at hd
  ·rename_i r b1;cases hd;have hd:=b1;unfold nC at hd;split at hd
   ·rename_i K A c' hm;split at hd
    ·rename_i id ex;split at hd
     ·rename_i K1 A1 kv hi;split at hd
      ·rename_i i a5;split at hd
       ·rename_i q;obtain⟨rfl,rfl⟩:=q;cases hd;obtain⟨ti,kt,et,te,N,O,X,h5,h6⟩:=oG C hm L;have J:=ba E D;have hk:=ba E ko;rw[ex]at J;exact BT m N O X h5 h6 I hi J (hJ a5 X.isKey hk)
       ·cases hd
      ·cases hd
     ·cases hd
    ·cases hd
   ·cases hd
  ·unfold l8 at hd;split at hd
   ·rename_i K c' hm;split at hd
    ·rename_i id ex;split at hd
     ·rename_i K1 kv hi;split at hd
      ·rename_i i j a5 _;split at hd
       ·rename_i q;obtain⟨rfl,rfl⟩:=q;cases hd;obtain⟨ti,kt,et,te,N,O,X,h5,hz⟩:=om C hm L.1;have J:=ba E D;have hk:=ba E ko;rw[ex]at J;rw[←ye L.2,hz];exact AO m N O X h5 I hi J (hJ a5 X.isKey hk)
       ·cases hd
      ·cases hd
     ·cases hd
    ·cases hd
   ·cases hd
 ·rename_i t D ko M I;split at hd
  ·rename_i r b1;cases hd;have hd:=b1;unfold ga at hd;split at hd
   ·rename_i K A c' hm;split at hd
    ·rename_i id ex;split at hd
     ·rename_i K1 A1 kv hi;split at hd
      ·rename_i i a5;split at hd
       ·rename_i q;obtain⟨rfl,rfl,c5,c6⟩:=q;split at hd
        ·rename_i z us hz;split at hd
         ·rename_i b4;cases hd;obtain⟨ti,kt,et,te,N,O,X,h5,h6⟩:=oG C hm L;have J:=ba E D;have hk:=ba E ko;rw[ex]at J;exact lW m N O X (.inl I) hi (by rw[xQ b4];exact hi) J (hJ a5 X.isKey hk) (ba E M) c5 c6 hz
         ·cases hd
        ·cases hd
       ·cases hd
      ·cases hd
     ·cases hd
    ·cases hd
   ·cases hd
  ·unfold fD at hd;split at hd
   ·rename_i K c' hm;split at hd
    ·rename_i id ex;split at hd
     ·rename_i K1 kv hi;split at hd
      ·rename_i i v a5 c7;split at hd
       ·rename_i q;obtain⟨rfl,q2⟩:=q;cases hd;obtain⟨ti,kt,et,te,N,O,X,h5⟩:=om C hm L;have J:=ba E D;have hk:=ba E ko;rw[ex]at J;refine oY m N O X (.inl I) hi J (hJ a5 X.isKey hk) (uS c7 (ba E M)) (fun p hp e=>?_);have:=List.all_eq_true.1 q2 p hp;rw[(fQ X.isKey).2 e]at this;cases this
       ·cases hd
      ·cases hd
     ·cases hd
    ·cases hd
   ·cases hd
 ·rename_i t D ko M I;split at hd
  ·rename_i r b1;cases hd;have hd:=b1;unfold ga at hd;split at hd
   ·rename_i K A c' hm;split at hd
    ·rename_i id ex;split at hd
     ·rename_i K1 A1 kv hi;split at hd
      ·rename_i i a5;split at hd
       ·rename_i q;obtain⟨rfl,rfl,c5,c6⟩:=q;split at hd
        ·rename_i z us hz;split at hd
         ·rename_i b4;cases hd;obtain⟨ti,kt,et,te,N,O,X,h5,h6⟩:=oG C hm L;have J:=ba E D;have hk:=ba E ko;rw[ex]at J;exact lW m N O X (.inr I) hi (by rw[xQ b4];exact hi) J (hJ a5 X.isKey hk) (ba E M) c5 c6 hz
         ·cases hd
        ·cases hd
       ·cases hd
      ·cases hd
     ·cases hd
    ·cases hd
   ·cases hd
  ·unfold fD at hd;split at hd
   ·rename_i K c' hm;split at hd
    ·rename_i id ex;split at hd
     ·rename_i K1 kv hi;split at hd
      ·rename_i i v a5 c7;split at hd
       ·rename_i q;obtain⟨rfl,q2⟩:=q;cases hd;obtain⟨ti,kt,et,te,N,O,X,h5⟩:=om C hm L;have J:=ba E D;have hk:=ba E ko;rw[ex]at J;refine oY m N O X (.inr I) hi J (hJ a5 X.isKey hk) (uS c7 (ba E M)) (fun p hp e=>?_);have:=List.all_eq_true.1 q2 p hp;rw[(fQ X.isKey).2 e]at this;cases this
       ·cases hd
      ·cases hd
     ·cases hd
    ·cases hd
   ·cases hd
 ·rename_i c I;obtain⟨callee,args,c8⟩:=c;unfold qq at hd;simp only at hd;split at hd
  ·rename_i b;unfold rv at hd;split at hd
   ·rename_i x0 t ex et;obtain⟨D,Z,rfl⟩:∃D,args = #[D]∧ev s D=x0:=by
     match a1:args.toList,ex with
     | [D],ex=>exact⟨D,Array.ext' a1,by simpa using ex⟩
    have ac:c8 = #[t]:=Array.ext' et;subst Z ac;split at hd
    ·unfold uH at hd;split at hd
     ·rename_i ti ht;split at hd
      ·rename_i kt et id hk ex;split at hd
       ·rename_i K A kv hi;cases hd;have J:=ba E D;rw[ex]at J;exact AW m (C.find ht) hk hi J I
       ·cases hd
      ·cases hd
     ·cases hd
    unfold Fh at hd;split at hd
    ·rename_i ti ht;split at hd
     ·rename_i k hk;split at hd
      ·rename_i e he;split at hd
       ·cases hd
       ·rename_i a7;cases hd;refine DR m (C.find ht) (.inl ⟨e,he⟩) (ba E D) I hk ⟨fun h=>(by rw[he]at h;cases h),fun⟨β,str,ex⟩=>?_⟩;rw[ex]at a7;exact absurd rfl a7
      ·rename_i he;split at hd
       ·rename_i a7;cases hd;refine DR m (C.find ht) (.inr he) (ba E D) I hk ⟨fun _=>?_,fun _=>he⟩;unfold isStr at a7;split at a7
        ·rename_i β str ex;exact⟨β,str,ex⟩
        ·cases a7
       ·cases hd
      ·cases hd
     ·cases hd
    ·cases hd
   ·rename_i x0 y0 ex;obtain⟨D,M,Z,rfl,rfl⟩:∃D M,args = #[D,M]∧ev s D=x0∧ev s M=y0:=by
     match a1:args.toList,ex with
     | [D,M],ex=>exact⟨D,M,Array.ext' a1,by simp at ex;exact ex.1,by simp at ex;exact ex.2⟩
    subst Z;unfold FE at hd;split at hd
    ·rename_i β k i cx k' j ex ey;split at hd
     ·rename_i c9;subst c9;cases hd;have J:=ba E D;have hy:=ba E M;rw[ex]at J;rw[ey]at hy;exact II m J hy I
     ·cases hd
    ·cases hd
   ·rename_i x0 y0 ex;obtain⟨D,M,Z,rfl,rfl⟩:∃D M,args = #[D,M]∧ev s D=x0∧ev s M=y0:=by
     match a1:args.toList,ex with
     | [D,M],ex=>exact⟨D,M,Array.ext' a1,by simp at ex;exact ex.1,by simp at ex;exact ex.2⟩
    subst Z;unfold FE at hd;split at hd
    ·rename_i β k i cx k' j ex ey;split at hd
     ·rename_i c9;subst c9;cases hd;have J:=ba E D;have hy:=ba E M;rw[ex]at J;rw[ey]at hy;exact IY m J hy I
     ·cases hd
    ·cases hd
   ·rename_i x0 y0 t t' ex et;obtain⟨D,M,Z,rfl,rfl⟩:∃D M,args = #[D,M]∧ev s D=x0∧ev s M=y0:=by
     match a1:args.toList,ex with
     | [D,M],ex=>exact⟨D,M,Array.ext' a1,by simp at ex;exact ex.1,by simp at ex;exact ex.2⟩
    have ac:c8 = #[t,t']:=Array.ext' et;subst Z ac;split at hd
    ·rename_i d9;subst d9;unfold nL at hd;split at hd
     ·rename_i e te A a3;obtain⟨b2,N,b3,O,X,h4,h5⟩:=ca C a3;split at hd
      ·rename_i ys ax;split at hd
       ·rename_i ex;cases hd;exact vD m hn N O X h4 h5 (ba E D) (ba E M) I (xs:=[]) (.inl ⟨ex,rfl,rfl,rfl⟩) ax L.1 L.2
       ·rename_i id ex;split at hd
        ·rename_i e' B xs a4;split at hd
         ·rename_i b8;subst b8;split at hd
          ·rename_i de;subst de;simp only[Option.some.injEq,Prod.mk.injEq]at hd;obtain⟨rfl,rfl,rfl⟩:=hd;exact vD m hn N O X h4 h5 (ba E D) (ba E M) I (xs:=xs) (.inr ⟨id,ex,a4,rfl,rfl⟩) ax L.1 L.2
          ·cases hd
         ·cases hd
        ·rename_i B xs a4;split at hd
         ·rename_i b8;subst b8;simp only[Option.some.injEq,Prod.mk.injEq]at hd;obtain⟨rfl,rfl,rfl⟩:=hd;have J:=ba E D;rw[ex]at J;exact wT m hn N O X h4 h5 J (ba E M) I a4 ax L.1 L.2.1 L.2.2
         ·cases hd
        ·cases hd
       ·cases hd
      ·cases hd
     ·cases hd
    ·cases hd
   ·rename_i x0 y0 t t' ex et;obtain⟨D,M,Z,rfl,rfl⟩:∃D M,args = #[D,M]∧ev s D=x0∧ev s M=y0:=by
     match a1:args.toList,ex with
     | [D,M],ex=>exact⟨D,M,Array.ext' a1,by simp at ex;exact ex.1,by simp at ex;exact ex.2⟩
    have ac:c8 = #[t,t']:=Array.ext' et;subst Z ac;unfold sO at hd;split at hd
    ·rename_i e te A a3;obtain⟨b2,N,b3,O,X,h4,h5⟩:=ca C a3;split at hd
     ·rename_i ys ax;split at hd
      ·rename_i id ex;split at hd
       ·rename_i e' B xs a4;split at hd
        ·rename_i b8;subst b8;simp only[Option.some.injEq,Prod.mk.injEq]at hd;obtain⟨rfl,rfl,rfl⟩:=hd;have J:=ba E D;rw[ex]at J;exact Hy m N O X h4 J (ba E M) I a4 ax
        ·cases hd
       ·cases hd
      ·cases hd
     ·cases hd
    ·cases hd
   ·cases hd
  ·rename_i fo;unfold we at hd;split at hd
   ·rename_i fid d1 q ef;split at hd
    ·rename_i ys u' dk;have hf:=xg (ba E fo);rw[ef]at hf;obtain⟨q1,q2,q3⟩:=oh m dk;split at hd
     ·split at hd
      ·split at hd
       ·rename_i b9 hin hl hi;split at hd
        ·rename_i dm;cases hd;have L:gN P fid b9 hin q.r q.hout:=by unfold wC at L;rw[show q.die=none from ch]at L;exact L
         have hg:=HX (new:=new) q1 cc I (V.mono q2 (fun _ _ h=>h) hf) (q3 _ (jN (jM E args.toList))) hl hi dm L;refine fun K Q hk=>hg K Q fun v w' hp=>hk v w' ?_
         exact aG.after (h:=h) (u1:=u') rfl q2 hp
        ·cases hd
       ·cases hd
      ·cases hd
     ·split at hd
      ·rename_i b9 hl;cases hd;have hg:=Hv (new:=new) q1 I (V.mono q2 (fun _ _ h=>h) hf) (q3 _ (jN (jM E args.toList))) hl L;refine fun K Q hk=>hg K Q fun v w' hp=>hk v w' ?_
       have:=aG.after (h:=h) (u1:=u) rfl q2 hp;simpa using this
      ·cases hd
    ·cases hd
   ·cases hd
  ·cases hd
 ·cases hd
def K4:ag→Bool
 | .unk=>true
 | _=>false
def dying(op:Op)(jg:Option yt):QW :=
 match op,jg with
 | .call c,some q=>match c.callee with
  | .value _=>if q.own && K4 q.r && q.hout.isEmpty then q.die else none
  | _=>none
 | _,_=>none
theorem HK(m:Mem Bw w0 ρ φ h w)(L:bV n (Fr (own φ h) Bw w) ρ s a)(E:∀j,j<8→ρ (new+j)=none){o:Oper}{asm:Option Bool}{jg:Option yt}{y:Value}(e:dying o.op jg=some y){x:ag}{u:iu}{c:Prop}
  (hd:im P tb new asm jg o.op s h=some (x,u,c)) (A:c):MA P o a w y (fun I=>∃v,aG Bw w0 ρ φ h w new .unk u v I):=by
 unfold dying at e;split at e
 ·rename_i c0 q M;split at e
  ·rename_i Z B;split at e
   ·rename_i f;simp only[Bool.and_eq_true,List.isEmpty_iff]at f;obtain⟨⟨C,N⟩,hout⟩:=f;obtain⟨callee,args,a1⟩:=c0;simp only at B;subst B;have hr:q.r = .unk:=by
     grind (splits:=6) (ematch:=4) [K4]
    rw[M]at hd;simp only[im,qq]at hd;unfold we at hd;split at hd
    ·rename_i fid O q' ef eq;cases eq;split at hd
     ·rename_i ys u' J;have X:=xg (ba L Z);rw[ef]at X;obtain⟨q1,Y,q3⟩:=oh m J;rw[if_pos C]at hd;split at hd
      ·split at hd
       ·rename_i z hin hl hi;split at hd
        ·rename_i D;cases hd;rw[hr,hout]at D;have A:kg P fid z hin y:=by unfold wC at A;rw[e]at A;exact A
         have hg:=JZ (new:=new) q1 E M (V.mono Y (fun _ _ h=>h) X) (q3 _ (jN (jM L args.toList))) hl hi D A;refine fun K Q hk=>hg K Q fun I ⟨v,hp⟩=>hk I ⟨v,?_⟩
         rw[hout];exact aG.after (h:=h) (u1:=u') rfl Y hp
        ·cases hd
       ·cases hd
      ·cases hd
     ·cases hd
    ·cases hd
   ·cases e
  ·cases e
 ·cases e
end
end Go.Tv
