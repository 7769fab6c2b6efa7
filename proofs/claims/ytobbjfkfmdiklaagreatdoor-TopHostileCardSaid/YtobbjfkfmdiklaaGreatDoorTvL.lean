import Derived.Test.YtobbjfkfmdiklaaGreatDoorTvKhm
namespace Go.Tv
open Go Go.RowKit
def pL(s:Nat→af):Option Operand→Option (Option Int)
 | none=>some none
 | some x=>match ev s x with
  | .p _ (.int _) n=>some (some n)
  | _=>none
def gZ(tb:bQ)(t:TypeId):Option (TypeId×TI×Ty) :=
 match tb.find t with
 | some ti=>match ti.k with
  | .sl e=>match tb.find e with
   | some j=>match j.T with
    | some A=>if 0<A.size then some (e,j,A)else none
    | none=>none
   | none=>none
  | _=>none
 | none=>none
def AP(tb:bQ)(new:Nat)(t:TypeId):XQ :=
 match tb.find t with
 | some ti=>some (.adr new 0 ti.size 0,[(new,some (.box ti.z))],True)
 | none=>none
def GF(new:Nat)(x:af):XQ :=
 if(cellsOf x).all af.cell then some (.adr new 0 (cellsOf x).length 0,[(new,some (.box (cellsOf x)))],True)else none
def o6(tb:bQ)(t:TypeId)(j:QV)(xs:List af):XQ :=
 match tb.find t with
 | some ti=>match ti.k with
  | .st p=>match parts tb p (j.zip xs) ti.z with
   | some f=>some (.agg f,[],True)
   | none=>none
  | .ar n e=>match tb.find e with
   | some q=>match parts tb ((List.range n).map fun i=>(i*q.size,e)) (j.zip xs) ti.z with
    | some f=>some (.agg f,[],True)
    | none=>none
   | none=>none
  | _=>none
 | none=>none
def mf(tb:bQ)(new:Nat)(t:TypeId)(len:Nat)(j:QV)(xs:List af)(h:Nat→Qz):XQ :=
 match gZ tb t with
 | some (e,p,A) =>
  if j=List.range len∧xs.all af.CW=true∧len*p.size≤16777216 then
   match Bv A h xs with
   | some (q,u)=>some (.sl new,u++[(new,some (.arr e A q))],True)
   | none=>none
  else none
 | none=>none
def mC(ti:TI)(x:af)(h:Nat→Qz):XQ :=
 match x,ti.k with
 | .ada id b n i,.int k=>match h id with
  | some (.box f)=>if b+n≤f.length then(match qK k ((f.drop b).take n)with
   | some l=>some (.p false (.int k) (l.getD i 0),[],True)
   | none=>none)else none
  | _=>none
 | _,_=>none
def kH(ti:TI)(x y:af)(h:Nat→Qz):XQ :=
 match x,y with
 | .ada id b n i,.p _ (.int k) v=>match h id with
  | some (.box f)=>if b+n≤f.length∧ti.size=1 then(match qK k ((f.drop b).take n)with
   | some l=>some (.unk,[(id,some (.box (f.take b++uW k i v 0 l++f.drop (b+n))))],True)
   | none=>none)else none
  | _=>none
 | _,_=>none
def kL(tb:bQ)(t:TypeId)(x i:af)(h:Nat→Qz):XQ :=
 match tb.find t with
 | some ti=>match ti.k with
  | .ar n e=>match tb.find e with
   | some f=>if f.size=1 then(match x,i with
    | .adr id j sz off,.p _ (.int _) m=>match h id with
     | some (.box _)=>some (.ada id (j*sz+off) n (show Int from m).toNat,[],0≤(show Int from m)∧(show Int from m)<(n:Int))
     | _=>none
    | .ada id b N p,.p _ (.int _) m=>some (.ada id b N (p+(show Int from m).toNat),[],(0≤(show Int from m)∧(show Int from m)<(n:Int))∧p+(show Int from m).toNat<N)
    | _,_=>none)else if 0<f.size then(match x,i with
    | .adr id j sz off,.p _ (.int _) m=>match h id with
     | some (.box _)=>some (.ada id (j*sz+off) (n*f.size) ((show Int from m).toNat*f.size),[],0≤(show Int from m)∧(show Int from m)<(n:Int))
     | _=>none
    | _,_=>none)else none
   | none=>none
  | _=>none
 | none=>none
def lR(new:Nat)(ti:TI)(x:af)(h:Nat→Qz):XQ :=
 match x with
 | .adr id i sz off=>if sz=1∧off=0∧ti.k.agg=false then
   match h id with
   | some (.mat e u A p none)=>some (.sl new,[(id,some (.mat e u A p (some (i,new)))),(new,some (.arr u A (p.getD i [])))],i<p.length)
   | some (.mat e u A p (some (k,j)))=>match h j with
    | some (.arr z B v)=>if q:B=A then(if z=u then
      some (.sl new,[(j,none),(id,some (.mat e u A (p.set k (q ▸ v:List A.den)) none))]++[(id,some (.mat e u A (p.set k (q ▸ v:List A.den)) (some (i,new)))),(new,some (.arr u A ((p.set k (q ▸ v:List A.den)).getD i [])))],i<p.length)else none)else none
    | _=>none
   | _=>none
  else none
 | _=>none
def yL(tb:bQ)(new:Nat)(t:TypeId)(x:af)(h:Nat→Qz):XQ :=
 match tb.find t with
 | some ti=>match lU h x with
  | some (j,off,c)=>match fY ti j off with
   | some y=>some (y,[],c)
   | none=>none
  | none=>match mC ti x h with
   | some r=>some r
   | none=>lR new ti x h
 | none=>none
def sA(id i:Nat)(e p:TypeId)(A:Ty)(f:List (List A.den))(hole:Option (Nat×Nat))(y:af)(h:Nat→Qz):XQ :=
 match y with
 | .sl r=>match h r with
  | some (.arr v B _)=>if B=A∧v=p then
    match hole with
    | none=>some (.unk,[(id,some (.mat e p A f (some (i,r))))],i<f.length)
    | some (k,j)=>match h j with
     | none=>some (.unk,[(id,some (.mat e p A f (some (i,r))))],k=i∧i<f.length)
     | some (.arr x C u)=>if q:C=A then(if x=p∧j≠r then
       some (.unk,[(j,none),(id,some (.mat e p A (f.set k (q ▸ u:List A.den)) none))]++[(id,some (.mat e p A (f.set k (q ▸ u:List A.den)) (some (i,r))))],i<f.length)else none)else none
     | _=>none
   else none
  | _=>none
 | _=>none
def ov(tb:bQ)(t:TypeId)(x y:af)(h:Nat→Qz):XQ :=
 match tb.find t with
 | some ti =>
  if(cellsOf y).all af.cell=true∧(cellsOf y).length=ti.size then
   match x with
   | .adr id i sz off=>match h id with
    | some (.box f)=>if i*sz+off+ti.size≤f.length then some (.unk,[(id,some (.box (wr f (i*sz+off) (cellsOf y))))],True)else none
    | some (.arr e A xs) =>
     if sz=A.size∧off+ti.size≤A.size then
      match BL A h xs i off y with
      | some (z,j)=>if j.all (fun p=>p.1 != id)then some (.unk,j++[(id,some (.arr e A (xs.set i z)))],i<xs.length)else none
      | none=>none
     else none
    | some (.mat e e2 A xss hole)=>if sz=1∧off=0 then sA id i e e2 A xss hole y h else none
    | some (.bytes e xs)=>if sz=1∧off=0∧ti.size=1 then(match y with
     | .p _ (.int .u8) v=>some (.unk,[(id,some (.bytes e (xs.set i v)))],i<xs.length)
     | _=>none)else none
    | _=>none
   | _=>kH ti x y h
  else none
 | none=>none
def FI(x:af):XQ :=
 match x with
 | .adr id i sz off=>some (.adr id i sz off,[],True)
 | .fad β f off=>some (.fad β f off,[],True)
 | .p β (.ptr A) q=>some (.fad β (flat β A (q.getD A.zero)) 0,[],q.isSome=true)
 | _=>none
def zw:af→Option Bool
 | .nilp=>some true
 | .adr _ _ _ _=>some false
 | .fad _ _ _=>some false
 | _=>none
def FK(op:BinOp)(b:Bool):Option af :=
 match op with
 | .eql=>some (.p false .bool b)
 | .neq=>some (.p false .bool (!b))
 | _=>none
def FJ(P:Program)(ti:TI)(op:BinOp)(t:TypeId)(x y:af):XQ :=
 match x,y with
 | .agg f,.agg j=>match ti.T with
  | some T=>match ik T f,ik T j with
   | some (a,[]),some (b,[])=>match FK op (Hx T a b)with
    | some r=>some (r,[],J3 P t T)
    | none=>none
   | _,_=>none
  | none=>none
 | .p _ (.ptr _) q,.nilp=>match FK op q.isNone with
  | some r=>some (r,[],∃e,P.underlying t=some (.pointer e))
  | none=>none
 | x,y=>match zw x,zw y with
  | some true,some b=>match FK op b with
   | some r=>some (r,[],∃e,P.underlying t=some (.pointer e))
   | none=>none
  | some false,some true=>match FK op false with
   | some r=>some (r,[],∃e,P.underlying t=some (.pointer e))
   | none=>none
  | _,_=>match x,y with
   | .lit (.iface _ _),.lit .nilIface=>match FK op false with
    | some r=>some (r,[],∃u,P.underlying t=some (.interface u))
    | none=>none
   | _,_=>none
def sM(P:Program)(x:af)(f:TypeId)(ok:Bool):XQ :=
 match x with
 | .lit (.iface t v)=>if t=f∧ok=true then some (.tup [zg v,.p false .bool true],[],∃d,P.underlying f=some d∧(match d with | .interface _=>false | _=>true)=true)else none
 | _=>none
def GH(P:Program)(tb:bQ)(op:BinOp)(t:TypeId)(x y:af):XQ :=
 match tb.find t with
 | some ti=>match bin ti.k op x y with
  | some (r,c)=>some (r,[],c)
  | none=>FJ P ti op t x y
 | none=>none
def I7(op:UnOp)(x:af):XQ :=
 match un op x with
 | some r=>some (r,[],True)
 | none=>none
def EN(tb:bQ)(k:TK):Bool :=
 match k with
 | .sl e=>match tb.find e with
  | some f=>match f.k with
   | .int .u8=>true
   | _=>false
  | none=>false
 | _=>true
def Ha(tb:bQ)(j:TK)(x:af):Option af :=
 match x with
 | .p _ .str l=>match j with
  | .sl e=>if EN tb (.sl e)then some (.p false (.slice (.int .u8)) (cJ l))else none
  | _=>none
 | .p _ (.int _) n=>match j with
  | .str=>some (.p false .str (GL n))
  | _=>none
 | _=>none
def yK(tb:bQ)(st q:TypeId)(x:af)(h:Nat→Qz):XQ :=
 match tb.find st with
 | some j=>match tb.find q with
  | some p=>match Ha tb p.k x with
   | some r=>some (r,[],True)
   | none=>if EN tb j.k then(match conv j.k p.k h x with
    | some r=>some (r,[],True)
    | none=>none)else none
  | none=>none
 | none=>none
def Ai(tb:bQ)(new:Nat)(st f:TypeId)(x:af):XQ :=
 match tb.find st with
 | some _=>match tb.find f with
  | some j=>match x with
   | .p _ .str l=>match j.k with
    | .sl e=>if EN tb (.sl e)then some (.sl new,[(new,some (.bytes e (cJ l)))],True)else none
    | _=>none
   | _=>none
  | none=>none
 | none=>none
def oF(tb:bQ)(new:Nat)(t:TypeId)(x:af)(f hi:Option (Option Int))(h:Nat→Qz):XQ :=
 match tb.find t with
 | some ti=>match f,hi with
  | some l,some r=>match x with
   | .p _ .str s=>match ti.k with
    | .str=>some (.p false .str ((s.take (r.getD s.length).toNat).drop (l.getD 0).toNat),[],0≤l.getD 0∧l.getD 0≤r.getD s.length∧r.getD s.length≤s.length)
    | _=>none
   | .p β (.slice A) xs=>match gZ tb t with
    | some (_,_,B)=>if A=B then some (.p β (.slice A) ((xs.take (r.getD xs.length).toNat).drop (l.getD 0).toNat),[],0≤l.getD 0∧l.getD 0≤r.getD xs.length∧r.getD xs.length≤xs.length)else none
    | none=>none
   | .sl id=>match h id with
    | some (.arr e A xs)=>match gZ tb t with
     | some (_,_,_)=>match l,r with
      | none,some k=>some (.sl new,[(id,none),(new,some (.arr e A (xs.take k.toNat)))],0≤k∧k≤xs.length)
      | _,_=>none
     | none=>none
    | some (.fz A xs)=>match gZ tb t with
     | some (_,_,B)=>if A=B then some (.p false (.slice A) ((xs.take (r.getD xs.length).toNat).drop (l.getD 0).toNat),[],0≤l.getD 0∧l.getD 0≤r.getD xs.length∧r.getD xs.length≤xs.length)else none
     | none=>none
    | _=>none
   | .nils=>match gZ tb t with
    | some (_,_,_)=>some (.nils,[],0≤l.getD 0∧l.getD 0≤r.getD 0∧r.getD 0≤0)
    | none=>none
   | _=>none
  | _,_=>none
 | none=>none
def intOf:af→Option Int
 | .p _ (.int _) n=>some n
 | _=>none
def sR(tb:bQ)(t:TypeId)(x:af)(j:Option (Option Int))(hi mx:af)(h:Nat→Qz):XQ :=
 match gZ tb t,j,intOf hi,intOf mx with
 | some (_,_,B),some l,some r,some q=>match x with
  | .p β (.slice A) xs=>if A=B then some (.p β (.slice A) ((xs.take r.toNat).drop (l.getD 0).toNat),[],0≤l.getD 0∧l.getD 0≤r∧r≤q∧q≤xs.length)else none
  | .sl id=>match h id with
   | some (.fz A xs)=>if A=B then some (.p false (.slice A) ((xs.take r.toNat).drop (l.getD 0).toNat),[],0≤l.getD 0∧l.getD 0≤r∧r≤q∧q≤xs.length)else none
   | _=>none
  | _=>none
 | _,_,_,_=>none
def CA(tb:bQ)(new:Nat)(t:TypeId)(x:af)(j:Option (Option Int))(hi mx:af)(h:Nat→Qz):XQ :=
 match gZ tb t,j,intOf hi,intOf mx with
 | some (_,_,B),some none,some r,some q=>match fV h x with
  | some (.p false (.slice A) xs,u)=>if A=B then some (.sl new,u++[(new,some (.cutz A (xs.take r.toNat)))],0≤r∧r=q∧r≤xs.length)else none
  | _=>none
 | _,_,_,_=>none
def Ax(tb:bQ)(t:TypeId)(x:af)(f:Nat):XQ :=
 match tb.find t with
 | some ti=>match ti.k with
  | .st j=>match j[f]? with
   | some (off,_)=>match x with
    | .adr id i sz k=>some (.adr id i sz (k+off),[],True)
    | .fad β p k=>some (.fad β p (k+off),[],True)
    | _=>none
   | none=>none
  | _=>none
 | none=>none
def iS(tb:bQ)(t:TypeId)(x i:af)(h:Nat→Qz):XQ :=
 match gZ tb t with
 | some (_,f,_)=>match i with
  | .p _ (.int _) n=>match xX h x n with
   | some (y,sz,c)=>if sz=f.size then some (y,[],c)else none
   | none=>none
  | _=>none
 | none=>none
def AY(tb:bQ)(t:TypeId)(x i:af):XQ :=
 match tb.find t with
 | some ti=>match ti.k with
  | .str=>match x,i with
   | .p _ .str s,.p _ (.int _) n=>some (.p false (.int .u8) ((s.getD n.toNat 0).toNat:Int),[],0≤n∧n<s.length)
   | _,_=>none
  | .ar n e=>match tb.find e with
   | some j=>match j.k with
    | .int k=>match x,i with
     | .agg f,.p _ (.int _) m=>if f.length=n then(match qK k f with
      | some l=>some (.p false (.int k) (l.getD (show Int from m).toNat 0),[],0≤(show Int from m)∧(show Int from m)<(n:Int))
      | none=>none)else none
     | _,_=>none
    | _=>none
   | none=>none
  | _=>none
 | none=>none
def uP(x:af)(i:Nat):XQ :=
 match x with
 | .tup f=>match f[i]? with
  | some y=>some (y,[],True)
  | none=>none
 | _=>none
def F2(e:TypeId)(f:TI)(A:Ty)(n:Nat):Obj :=
 match A with
 | .slice B=>match f.k,f.z with
  | .sl j,[.nils]=>if 0<B.size then .mat e j B (List.replicate n []) none else .arr e (.slice B) (List.replicate n [])
  | _,_=> .arr e (.slice B) (List.replicate n [])
 | A=> .arr e A (List.replicate n A.zero)
def DJ(tb:bQ)(new:Nat)(t:TypeId)(l c:af):XQ :=
 match gZ tb t with
 | some (e,f,A)=>match l,c with
  | .p _ (.int _) n,.p _ (.int _) k=>some (.sl new,[(new,some (F2 e f A n.toNat))],0≤n∧n≤k∧(f.bytes:Int)*k≤281474976710656∧k≤9223372036854775807)
  | _,_=>none
 | none=>none
def isStr:af→Bool
 | .p _ .str _=>true
 | _=>false
def CX(tb:bQ)(t:TypeId)(x:af)(h:Nat→Qz):XQ :=
 match tb.find t with
 | some ti=>match lenOf h x with
  | some n=>match ti.k with
   | .sl _=>if isStr x then none else some (.p false (.int .i64) n,[],True)
   | .str=>if isStr x then some (.p false (.int .i64) n,[],True)else none
   | _=>none
  | none=>none
 | none=>none
def mH(tb:bQ)(new:Nat)(t:TypeId)(x y:af)(h:Nat→Qz):XQ :=
 match gZ tb t with
 | some (e,j,A)=>match eG h A y with
  | some f=>match x with
   | .nils=>some (.sl new,[(new,some (.arr e A f))],(([]:List A.den).length+f.length)*j.bytes≤140737488355328∧([]:List A.den).length+f.length≤9223372036854775807)
   | .sl id=>match h id with
    | some (.arr p B xs)=>if q:B=A then(if p=e then some (.sl new,[(id,none),(new,some (.arr e A ((q ▸ xs:List A.den)++f)))],((q ▸ xs:List A.den).length+f.length)*j.bytes≤140737488355328∧(q ▸ xs:List A.den).length+f.length≤9223372036854775807)else none)else none
    | some (.cutz B xs)=>if q:B=A then some (.sl new,[(new,some (.arr e A ((q ▸ xs:List A.den)++f)))],0<f.length∧((q ▸ xs:List A.den).length+f.length)*j.bytes≤140737488355328∧(q ▸ xs:List A.den).length+f.length≤9223372036854775807)else none
    | _=>none
   | _=>none
  | none=>none
 | none=>none
def rT(tb:bQ)(t:TypeId)(x y:af)(h:Nat→Qz):XQ :=
 match gZ tb t with
 | some (_,_,A)=>match eG h A y with
  | some f=>match x with
   | .sl id=>match h id with
    | some (.arr j B xs)=>if q:B=A then some (.p false (.int .i64) ((min f.length (q ▸ xs:List A.den).length:Nat):Int),[(id,some (.arr j A (f.take (q ▸ xs:List A.den).length++(q ▸ xs:List A.den).drop f.length)))],True)else none
    | _=>none
   | _=>none
  | none=>none
 | none=>none
def Ij(P:Program)(j:TypeId)(f:TI):Option (Ty×Prop) :=
 match HO f.k with
 | some K=>some (K,True)
 | none=>match f.T with
  | some K=>if K.scalar=false then some (K,gQ P j K)else none
  | none=>none
def Hy(P:Program)(tb:bQ)(t:TypeId):Option (Ty×Ty×Prop) :=
 match tb.find t with
 | some ti=>match ti.k with
  | .mp f j=>match tb.find f,tb.find j with
   | some p,some q=>match Ij P f p,q.T with
    | some (K,c),some A=>some (K,A,c)
    | _,_=>none
   | _,_=>none
  | _=>none
 | none=>none
def sW(K:Ty)(x:af):Option K.den :=
 match x with
 | .p _ j i=>if q:j=K then(if K.scalar=true then some (q ▸ i)else none)else none
 | .agg f=>if K.scalar=false∧f.length=K.size then match ik K f with
  | some (k,_)=>some k
  | none=>none
  else none
 | .lag k n u []=>if q:Ty.arr k n=K then some (q ▸ (show(Ty.arr k n).den from u))else none
 | _=>none
def uV(P:Program)(tb:bQ)(new:Nat)(t:TypeId):XQ :=
 match Hy P tb t with
 | some (K,A,c)=>some (.mp new,[(new,some (.mpo K A []))],c)
 | none=>none
def mG(P:Program)(tb:bQ)(t:TypeId)(x k:af)(ok:Bool)(h:Nat→Qz):XQ :=
 match Hy P tb t with
 | some (K,A,c)=>match x with
  | .mp id=>match h id with
   | some (.mpo f j q)=>match sW f k with
    | some i=>if f=K∧j=A then
     some (if ok then .tup [enc false j ((bj f q i).getD j.zero),.p false .bool (bj f q i).isSome]else enc false j ((bj f q i).getD j.zero),[],c)else none
    | none=>none
   | _=>none
  | _=>none
 | none=>none
def fG(P:Program)(tb:bQ)(t:TypeId)(x k y:af)(h:Nat→Qz):XQ :=
 match Hy P tb t with
 | some (K,A,c)=>match x with
  | .mp id=>match h id with
   | some (.mpo f j u)=>match sW f k with
    | some i=>if f=K∧j=A∧(cellsOf y).all af.cell=true∧kG j y=true then
     match Fk j h y with
     | some (z,q)=>if q.all (fun p=>p.1 != id)then some (.unk,q++[(id,some (.mpo f j (cI f u i z)))],c)else none
     | none=>none
     else none
    | none=>none
   | _=>none
  | _=>none
 | none=>none
def F0(P:Program)(tb:bQ)(t:TypeId):Option (Ty×Prop) :=
 match tb.find t with
 | some ti=>match ti.k with
  | .mp f j=>match tb.find f,tb.find j with
   | some p,some q=>match q.T with
    | none=>Ij P f p
    | some _=>none
   | _,_=>none
  | _=>none
 | none=>none
def JB(tb:bQ)(t:TypeId):af :=
 match tb.find t with
 | some ti=>match ti.k with
  | .mp _ f=>match tb.find f with
   | some j=>zV j
   | none=> .unk
  | _=> .unk
 | none=> .unk
def tX(P:Program)(tb:bQ)(new:Nat)(t:TypeId):XQ :=
 match F0 P tb t with
 | some (K,c)=>some (.mp new,[(new,some (.mpl K []))],c)
 | none=>none
def valOf:af→QW
 | .lit v=>some v
 | .fn f []=>some (.func (.func f) #[] #[])
 | .agg [.fn f []]=>some (.agg #[.func (.func f) #[] #[]])
 | _=>none
def eU(P:Program)(tb:bQ)(t:TypeId)(x k y:af)(h:Nat→Qz):XQ :=
 match F0 P tb t with
 | some (K,c)=>match x with
  | .mp id=>match h id with
   | some (.mpl f j)=>match sW f k,valOf y with
    | some i,some v=>if f=K∧j.all (fun p=> !ez f p.1 i)=true then some (.unk,[(id,some (.mpl f (j++[(i,v)])))],c)else none
    | _,_=>none
   | _=>none
  | _=>none
 | none=>none
def lq(P:Program)(tb:bQ)(t:TypeId)(g:QV)(x k:af)(ok:Bool)(h:Nat→Qz):XQ :=
 match F0 P tb t with
 | some (K,c)=>match x with
  | .mp id=>match h id with
   | some (.mpl f p)=>match sW f k,g with
    | some i,[j]=>if f=K∧ok=true then some (Dm (JB tb t) ((p[j]?).map (·.2)),[],c∧su f p i j)else none
    | _,_=>none
   | _=>none
  | _=>none
 | none=>none
def sv(tb:bQ)(t:TypeId)(x:af)(h:Nat→Qz):XQ :=
 match tb.find t with
 | some ti=>match ti.k,x with
  | .mp _ _,.mp id=>match h id with
   | some (.mpo _ _ j)=>some (.p false (.int .i64) (j.length:Int),[],True)
   | _=>none
  | _,_=>none
 | none=>none
def D3(b:Bool)(x y:af):XQ :=
 match x,y with
 | .p _ (.int k) i,.p _ (.int f) j=>if f=k then some (.p false (.int k) (if b then max (show Int from i) j else min (show Int from i) j),[],True)else none
 | _,_=>none
def LL:af→Bool
 | .mp _=>true
 | _=>false
def zD:Ty→List Ty
 | .unit=>[]
 | .prod a b=>zD a++zD b
 | .tree f j=>[.int f,.int j,.slice (.tree f j)]
 | T=>[T]
def sV:Ty→af→af
 | .slice A,.nils=> .p false (.slice A) []
 | .ptr A,.nilp=> .p false (.ptr A) none
 | _,x=>x
def lX:List Ty→List af→List af
 | T::Ts,c::cs=>sV T c::lX Ts cs
 | _,cs=>cs
def Dd(T:Ty):af→af
 | .agg f=> .agg (lX (zD T) f)
 | x=>sV T x
def wN(tb:bQ)(t:TypeId)(x:af):af :=
 match tb.find t with
 | some ti=>match ti.T with
  | some T=>Dd T x
  | none=>x
 | none=>x
def gK(tb:bQ):List Bool→List TypeId→List af→List af
 | true::bs,t::ts,x::xs=>wN tb t x::gK tb bs ts xs
 | false::bs,_::ts,x::xs=>x::gK tb bs ts xs
 | _,_,xs=>xs
section
variable{P:Program}{Bw:Nat→Prop}{w0:cv P}{ρ:Nat→QW}{φ:Nat→Nat→Prop}{h:Nat→Qz}{w:World}{new:Nat}
theorem FO(m:Mem Bw w0 ρ φ h w){o:Oper}{a:Act}{t:TypeId}{ti:TI}(ht:aO P t ti){f:Operand}{x:af}(j:V (Fr (own φ h) Bw w) ρ x (a.eval f))(p:o.op = .load t f)
  {r:af} {u:gP} {c:Prop} (hd:mC ti x h=some (r,u,c)):Good P o a w (aF Bw w0 ρ φ h w new r u):=by
 unfold mC at hd;split at hd
 ·rename_i id b n i k hk;split at hd
  ·rename_i q hb;split at hd
   ·rename_i hn;split at hd
    ·rename_i l hl;cases hd;exact y6 m ht hk j p hb hl hn
    ·cases hd
   ·cases hd
  ·cases hd
 ·cases hd
theorem FV(m:Mem Bw w0 ρ φ h w){o:Oper}{a:Act}{t:TypeId}{ti:TI}(ht:aO P t ti){f j:Operand}{x y:af}(p:V (Fr (own φ h) Bw w) ρ x (a.eval f))(q:V (Fr (own φ h) Bw w) ρ y (a.eval j))(z:o.op = .store t f j)
  {r:af} {u:gP} {c:Prop} (hd:kH ti x y h=some (r,u,c)):Good P o a w (aF Bw w0 ρ φ h w new r u):=by
 unfold kH at hd;split at hd
 ·rename_i id b n i β k v;split at hd
  ·rename_i B hb;split at hd
   ·rename_i hn;split at hd
    ·rename_i l hl;cases hd;exact xx m ht hn.2 p q z hb hl hn.1
    ·cases hd
   ·cases hd
  ·cases hd
 ·cases hd
theorem Ei{tb:bQ}(m:Mem Bw w0 ρ φ h w)(f:cb P tb){o:Oper}{a:Act}{t:TypeId}{D io:Operand}{x i:af}(B:V (Fr (own φ h) Bw w) ρ x (a.eval D))(hi:V (Fr (own φ h) Bw w) ρ i (a.eval io))(C:o.op = .indexAddr t D io)
  {r:af} {u:gP} {c:Prop} (hd:kL tb t x i h=some (r,u,c)) (hc:c):Good P o a w (aF Bw w0 ρ φ h w new r u):=by
 unfold kL at hd;split at hd
 ·rename_i ti ht;split at hd
  ·rename_i n e hk;split at hd
   ·rename_i J z;split at hd
    ·rename_i q;split at hd
     ·rename_i id j sz off β k E;split at hd
      ·rename_i I hb;cases hd;exact xn m (f.find ht) hk (f.find z) q B hb hi C hc
      ·cases hd
     ·rename_i id b N p β k E;cases hd;exact vS m (f.find ht) hk (f.find z) q B hi C hc
     ·cases hd
    ·split at hd
     ·rename_i q;split at hd
      ·rename_i id j sz off β k E;split at hd
       ·rename_i I hb;cases hd;exact wG m (f.find ht) hk (f.find z) q B hb hi C hc
       ·cases hd
      ·cases hd
     ·cases hd
   ·cases hd
  ·cases hd
 ·cases hd
theorem ER(m:Mem Bw w0 ρ φ h w)(hn:ρ new=none){o:Oper}{a:Act}{t:TypeId}{ti:TI}(ht:aO P t ti){C:Operand}{x:af}(D:V (Fr (own φ h) Bw w) ρ x (a.eval C))(E:o.op = .load t C)
  {r:af} {u:gP} {c:Prop} (hd:lR new ti x h=some (r,u,c)) (hc:c):Good P o a w (aF Bw w0 ρ φ h w new r u):=by
 unfold lR at hd;split at hd
 ·rename_i id i sz off;split at hd
  ·rename_i f;obtain⟨rfl,rfl,hk⟩:=f;split at hd
   ·rename_i e J A p hi;cases hd;exact qU m hn ht hk D E hi hc
   ·rename_i e J A p k j hi;split at hd
    ·rename_i X B Y L;split at hd
     ·rename_i q;subst q;split at hd
      ·rename_i M;subst M;simp only[Option.some.injEq,Prod.mk.injEq]at hd;obtain⟨rfl,rfl,rfl⟩:=hd;obtain⟨N,I⟩:=m.wC hi L;have O:=qU (new:=new) N hn ht hk (V.mono I (fun _ _ h=>h) D) E (aB _ _ _) (i:=i) (by rw[List.length_set];exact hc);exact fun K Q z=>O K Q fun v w' hp=>z v w' (aF.G2 rfl I hp)
      ·cases hd
     ·cases hd
    ·cases hd
   ·cases hd
  ·cases hd
 ·cases hd
theorem Ga(m:Mem Bw w0 ρ φ h w){o:Oper}{a:Act}{t:TypeId}{ti:TI}(ht:aO P t ti){J L:Operand}{id i:Nat}(x:V (Fr (own φ h) Bw w) ρ (.adr id i 1 0) (a.eval J)){y:af}(z:V (Fr (own φ h) Bw w) ρ y (a.eval L))(B:(cellsOf y).length=ti.size)
  (D:o.op = .store t J L) {e M:TypeId} {A:Ty} {p:List (List A.den)} {hole:Option (Nat×Nat)} (hi:h id=some (.mat e M A p hole)) {r:af} {u:gP} {c:Prop} (hd:sA id i e M A p hole y h=some (r,u,c)) (hc:c) :
  Good P o a w (aF Bw w0 ρ φ h w new r u):=by
 unfold sA at hd;split at hd
 ·rename_i Z;have f:ti.size=1:=B.symm;split at hd
  ·split at hd
   ·split at hd
    ·cases hd;exact pk m ht f x z D hi hc (fun k j e=>by cases e)
    ·rename_i k j;split at hd
     ·cases hd;exact pk m ht f x z D hi hc.2 (fun k' j' e=>by cases e;exact hc.1)
     ·rename_i e4 C ys N;split at hd
      ·rename_i q;subst q;split at hd
       ·rename_i O;obtain⟨rfl,_⟩:=O;simp only[Option.some.injEq,Prod.mk.injEq]at hd;obtain⟨rfl,rfl,rfl⟩:=hd;obtain⟨X,E⟩:=m.wC hi N;have Y:=pk (new:=new) X ht f (V.mono E (fun _ _ h=>h) x) (V.mono E (fun _ _ h=>h) z) D (aB _ _ _) (i:=i) (by rw[List.length_set];exact hc) (fun k j e=>by cases e);exact fun K Q I=>Y K Q fun v w' hp=>I v w' (aF.G2 rfl E hp)
       ·cases hd
      ·cases hd
     ·cases hd
   ·cases hd
  ·cases hd
 ·cases hd
theorem EV(m:Mem Bw w0 ρ φ h w)(hn:ρ new=none){o:Oper}{a:Act}{t e:TypeId}{ti j:TI}(ht:aO P t ti)(hk:ti.k = .sl e)(f:aO P e j){A:Ty}(hT:j.T=some A)(D:0<A.size)
  {u co:Operand} (x:o.op = .makeSlice t u co) {β q:Bool} {E I:IntKind} {l c:Int} (hl:V (Fr (own φ h) Bw w) ρ (.p β (.int E) l) (a.eval u)) (hc:V (Fr (own φ h) Bw w) ρ (.p q (.int I) c) (a.eval co))
  (h1:0≤l) (h2:l≤c) (z:(j.bytes:Int)*c≤281474976710656) (C:c≤9223372036854775807) :
  Good P o a w (aF Bw w0 ρ φ h w new (.sl new) [(new,some (F2 e j A l.toNat))]):=by
 have key:=vm (new:=new) m hn ht hk f hT D x hl hc h1 h2 z C;unfold F2;split
 ·rename_i B;split
  ·rename_i L J hz;split
   ·rename_i hB;exact zx m hn ht hk f hT hz hB x hl hc h1 h2 z C
   ·exact key
  ·exact key
 ·exact key
end
theorem AD{F:Bool→Addr→Value→Prop}{ρ:Nat→QW}{T:Ty}{x:af}{v:Value}(h:V F ρ x v):V F ρ (sV T x) v:=by
 unfold sV;split
 ·simp only[V]at h ⊢;exact⟨rfl,none,0,0,h.symm,⟨rfl,Nat.le_refl _⟩,fun i hi=>absurd hi (by simp)⟩
 ·simp only[V]at h ⊢;exact⟨rfl,h.symm⟩
 ·exact h
theorem wu{T:Ty}{x:af}:ids (sV T x)=ids x:=by
 unfold sV;split <;> simp[ids]
theorem uX{F:Bool→Addr→Value→Prop}{ρ:Nat→QW}:∀ {Ts:List Ty} {f:List af} {g:Nat→Value→Prop},VL F ρ f g→VL F ρ (lX Ts f) g
 | [],f,g,h=>by cases f <;> exact h
 | T::Ts,[],g,h=>h
 | T::Ts,c::f,g,h=>by
  simp only[lX,VL]at h ⊢;obtain⟨⟨u,j,p⟩,q⟩:=h;exact⟨⟨u,j,AD p⟩,uX q⟩
theorem pb:∀ {Ts:List Ty} {cs:List af},(lX Ts cs).length=cs.length
 | [],cs=>by cases cs <;> rfl
 | T::Ts,[]=>rfl
 | T::Ts,c::cs=>by simp[lX,pb (Ts:=Ts) (cs:=cs)]
theorem tS:∀ {Ts:List Ty} {cs:List af},bu (lX Ts cs)=bu cs
 | [],cs=>by cases cs <;> rfl
 | T::Ts,[]=>rfl
 | T::Ts,c::cs=>by simp[lX,bu,wu,tS (Ts:=Ts) (cs:=cs)]
theorem G5{tb:bQ}{t:TypeId}{F:Bool→Addr→Value→Prop}{ρ:Nat→QW}{x:af}{v:Value}(h:V F ρ x v):V F ρ (wN tb t x) v:=by
 unfold wN;split
 ·split
  ·unfold Dd;split
   ·simp only[V]at h ⊢;obtain⟨f,e,j,hl⟩:=h;exact⟨f,e,by rw[pb];exact j,uX hl⟩
   ·exact AD h
  ·exact h
 ·exact h
theorem C5{tb:bQ}{t:TypeId}{x:af}:ids (wN tb t x)=ids x:=by
 unfold wN;split
 ·split
  ·unfold Dd;split
   ·simp only[ids,tS]
   ·exact wu
  ·rfl
 ·rfl
theorem js{tb:bQ}{F:Bool→Addr→Value→Prop}{ρ:Nat→QW}:∀ {j:List Bool} {p:List TypeId} {xs:List af} {f:QY},iD F ρ xs f→iD F ρ (gK tb j p xs) f
 | true::j,t::p,x::xs,f,h=>by
  cases f with
  | nil=>exact h.elim
  | cons v f=>exact⟨G5 h.1,js h.2⟩
 | false::j,t::p,x::xs,f,h=>by
  cases f with
  | nil=>exact h.elim
  | cons v f=>exact⟨h.1,js h.2⟩
 | [],p,xs,f,h=>by simpa only [gK]using h
 | b::j,[],xs,f,h=>by cases b <;> simpa only [gK]using h
 | b::j,t::p,[],f,h=>by cases b <;> simpa only [gK]using h
theorem nf{tb:bQ}:∀ {bs:List Bool} {ts:List TypeId} {xs:List af},bu (gK tb bs ts xs)=bu xs
 | true::bs,t::ts,x::xs=>by simp only[gK,bu,C5,nf (bs:=bs) (ts:=ts) (xs:=xs)]
 | false::bs,t::ts,x::xs=>by simp only[gK,bu,nf (bs:=bs) (ts:=ts) (xs:=xs)]
 | [],ts,xs=>by simp only[gK]
 | b::bs,[],xs=>by cases b <;> simp only[gK]
 | b::bs,t::ts,[]=>by cases b <;> simp only[gK]
def wZ(h:Nat→Qz)(x:af):Option (af×gP) :=
 match x with
 | .agg f=>match pR h f with
  | some (j,u)=>some (.agg j,u)
  | none=>none
 | x=>fV h x
def frzL(h:Nat→Qz):List Bool→List af→Option (List af×gP)
 | _,[]=>some ([],[])
 | [],xs=>some (xs,[])
 | false::bs,x::xs=>match frzL h bs xs with
  | some (j,u)=>some (x::j,u)
  | none=>none
 | true::bs,x::xs=>match wZ h x with
  | some (y,u)=>match frzL (apply u h) bs xs with
   | some (j,p)=>some (y::j,u++p)
   | none=>none
  | none=>none
structure wE where
 r:af
 fl:List Bool
 own:Bool
 cn:List Bool
 g:QV
 hout:Qw
 die:QW
def dieOf:Option wE→QW
 | some q=>q.die
 | none=>none
def vK(P:Program)(f:FuncId)(args:List af)(hin:Qw)(q:wE):Prop :=
 match q.die with
 | none=>ju P f args hin q.r q.hout
 | some x=>jG P f args hin x
def M0:Option wE→QV
 | some q=>q.g
 | none=>[]
def A8:af→af
 | .lit (.func (.func f) j p)=>if j.isEmpty && p.isEmpty then .fn f []else .unk
 | x=>x
def HP:Option wE→List Bool
 | some q=>q.cn
 | none=>[]
def uB(P:Program)(new:Nat)(iE:Option wE)(f:af)(xs:List af)(h:Nat→Qz):XQ :=
 match f,iE with
 | .fn fid j,some q=>match frzL h q.fl xs with
  | some (p,u) =>
   if q.own then
    if q.g.all (fun i=>(vD h (f::xs)).contains i)then
     match ra q.g (less q.g (apply u h)) (p++j),jR q.g (apply u h) 0 q.g with
     | some args,some hin=>if tw q.g q.hout q.r then some (l4 (rI q.g new) q.r,u++ug q.g new q.hout,vK P fid args hin q)else none
     | _,_=>none
    else none
   else match nT (apply u h) (p++j)with
   | some args=>some (q.r,u,Pure P fid args q.r)
   | none=>none
  | none=>none
 | _,_=>none
def yZ(asm:Option Bool)(c:af)(s:Nat→af)(x y:Operand):XQ :=
 match asm,c with
 | some b,.p _ .bool j=>some (ev s (if b then x else y),[],j=b)
 | none,.p _ .bool j=>match j with
  | true=>some (ev s x,[],True)
  | false=>some (ev s y,[],True)
 | _,_=>none
def Ds(fn:Fn)(first:List Operand)(j:List af):XQ :=
 match fn,first with
 | .func f,[]=>some (.fn f j,[],True)
 | _,_=>none
def qm(tb:bQ)(new:Nat)(b:Builtin)(xs:List af)(j:List TypeId)(h:Nat→Qz):XQ :=
 match b,xs,j with
 | .len,[x],[t]=>if LL x then sv tb t x h else CX tb t x h
 | .min,[x,y],_=>D3 false x y
 | .max,[x,y],_=>D3 true x y
 | .append,[x,y],[t,p]=>if t=p then mH tb new t x y h else none
 | .copy,[x,y],[t,_]=>rT tb t x y h
 | _,_,_=>none
def pz(P:Program)(tb:bQ)(new:Nat)(iE:Option wE)(c:Call)(s:Nat→af)(h:Nat→Qz):XQ :=
 match c.callee with
 | .builtin b=>qm tb new b (c.args.toList.map (ev s)) c.argTypes.toList h
 | .value f=>uB P new iE (A8 (ev s f)) (gK tb (HP iE) c.argTypes.toList (c.args.toList.map (ev s))) h
 | _=>none
def gN(P:Program)(tb:bQ)(new:Nat)(asm:Option Bool)(iE:Option wE)(op:Op)(s:Nat→af)(h:Nat→Qz):XQ :=
 match op with
 | .move x=>some (ev s x,[],True)
 | .assign x=>some (ev s x,[],True)
 | .pick c x y=>yZ asm (ev s c) s x y
 | .alloc t=>AP tb new t
 | .box _ x=>GF new (ev s x)
 | .build t j=>o6 tb t (j.toList.map (·.1)) (j.toList.map fun p=>ev s p.2)
 | .buildSlice t len j=>mf tb new t len (j.toList.map (·.1)) (j.toList.map fun p=>ev s p.2) h
 | .load t x=>yL tb new t (ev s x) h
 | .store t x y=>ov tb t (ev s x) (ev s y) h
 | .binOp op t x y _=>GH P tb op t (ev s x) (ev s y)
 | .nilCheck x=>FI (ev s x)
 | .unOp op _ x=>I7 op (ev s x)
 | .convert st z x=>match iE with
  | none=>yK tb st z (ev s x) h
  | some _=>Ai tb new st z (ev s x)
 | .slice t x u hi none=>oF tb new t (ev s x) (pL s u) (pL s hi) h
 | .slice t x u (some hi) (some mx)=>match iE with
  | none=>sR tb t (ev s x) (pL s u) (ev s hi) (ev s mx) h
  | some _=>CA tb new t (ev s x) (pL s u) (ev s hi) (ev s mx) h
 | .fieldAddr t x f=>Ax tb t (ev s x) f
 | .indexAddr t x i=>match iS tb t (ev s x) (ev s i) h with
  | some r=>some r
  | none=>kL tb t (ev s x) (ev s i) h
 | .index t x i=>AY tb t (ev s x) (ev s i)
 | .extract x i=>uP (ev s x) i
 | .typeAssert x _ t ok=>sM P (ev s x) t ok
 | .makeFunc fn first q=>Ds fn first.toList (q.toList.map (ev s))
 | .makeSlice t l c=>DJ tb new t (ev s l) (ev s c)
 | .makeMap t none=>match uV P tb new t with
  | some r=>some r
  | none=>tX P tb new t
 | .lookup t x k ok=>match mG P tb t (ev s x) (ev s k) ok h with
  | some r=>some r
  | none=>lq P tb t (M0 iE) (ev s x) (ev s k) ok h
 | .mapUpdate t x k y=>match fG P tb t (ev s x) (ev s k) (ev s y) h with
  | some r=>some r
  | none=>eU P tb t (ev s x) (ev s k) (ev s y) h
 | .insert t x k y=>match fG P tb t (ev s x) (ev s k) (ev s y) h with
  | some r=>some r
  | none=>eU P tb t (ev s x) (ev s k) (ev s y) h
 | .call c=>pz P tb new iE c s h
 | _=>none
section
variable{P:Program}{tb:bQ}{Bw:Nat→Prop}{w0:cv P}{ρ:Nat→QW}{φ:Nat→Nat→Prop}{h:Nat→Qz}{w:World}{new:Nat}{n:NS}{s:Nat→af}{a:Act}
theorem bY(f:cb P tb){t e:TypeId}{j:TI}{A:Ty}(h:gZ tb t=some (e,j,A)):∃ti,aO P t ti∧tb.find t=some ti∧ti.k = .sl e∧aO P e j∧j.T=some A∧0<A.size:=by
 unfold gZ at h;split at h
 ·rename_i ti h1;split at h
  ·rename_i z h2;split at h
   ·rename_i p q;split at h
    ·rename_i B u;split at h
     ·rename_i x;cases h;exact⟨ti,f.find h1,h1,h2,f.find q,u,x⟩
     ·cases h
    ·cases h
   ·cases h
  ·cases h
 ·cases h
theorem np(j:cb P tb){t:TypeId}{K A:Ty}{c:Prop}(h:Hy P tb t=some (K,A,c))(hc:c):∃ti p q u,aO P t ti∧ti.k = .mp p q∧gQ P p K∧aO P q u∧u.T=some A:=by
 unfold Hy at h;split at h
 ·rename_i ti h1;split at h
  ·rename_i p q h2;split at h
   ·rename_i D u x z;split at h
    ·rename_i E c' I f B;cases h;refine⟨ti,p,q,u,j.find h1,h2,?_,j.find z,B⟩;unfold Ij at f;split at f
     ·rename_i J C;cases f;exact gQ.Ef (j.find x) C
     ·split at f
      ·split at f
       ·cases f;exact hc
       ·cases f
      ·cases f
    ·cases h
   ·cases h
  ·cases h
 ·cases h
theorem nt(f:cb P tb){t:TypeId}{K:Ty}{c:Prop}(h:F0 P tb t=some (K,c))(hc:c):∃ti j p q,aO P t ti∧ti.k = .mp j p∧gQ P j K∧aO P p q∧JB tb t=zV q:=by
 unfold F0 at h;split at h
 ·rename_i ti h1;split at h
  ·rename_i j p h2;split at h
   ·rename_i B q x u;split at h
    ·refine⟨ti,j,p,q,f.find h1,h2,?_,f.find u,by simp[JB,h1,h2,u]⟩;unfold Ij at h;split at h
     ·rename_i C z;cases h;exact gQ.Ef (f.find x) z
     ·split at h
      ·split at h
       ·cases h;exact hc
       ·cases h
      ·cases h
    ·cases h
   ·cases h
  ·cases h
 ·cases h
theorem tp{F:Bool→Addr→Value→Prop}{ρ:Nat→QW}{x:af}{v u:Value}(h:valOf x=some v)(f:V F ρ x u):u=v:=by
 unfold valOf at h;split at h
 ·cases h;simpa only [V]using f
 ·cases h;simp only[V]at f;obtain⟨j,e,p,_⟩:=f;have:j = #[]:=Array.eq_empty_of_size_eq_zero (by simpa using p);subst this;exact e
 ·cases h;simp only[V,VL]at f;obtain⟨j,rfl,p,⟨E,q,z,rfl,B,_⟩,_⟩:=f;have h1:z = #[]:=Array.eq_empty_of_size_eq_zero (by simpa using B);subst h1;have h2:j = #[.func (.func _) #[] #[]]:=Array.ext (by simpa using p) (fun i C D=>by
   have:i=0:=by simp at D;omega
   subst this;simpa [Array.getElem?_eq_getElem C]using q)
  rw[h2]
 ·cases h
theorem vX{F:Bool→Addr→Value→Prop}{ρ:Nat→QW}{x:af}{u:Value}(j:V F ρ x u):V F ρ (A8 x) u:=by
 unfold A8;split
 ·rename_i f p q;split
  ·rename_i hc;simp only[Bool.and_eq_true,Array.isEmpty_iff]at hc;obtain⟨rfl,rfl⟩:=hc;simp only[V]at j ⊢;exact⟨#[],j,rfl,by simp only[VL]⟩
  ·trivial
 ·exact j
theorem Bq{x:af}:∀i∈ids (A8 x),i∈ids x:=by
 unfold A8;split
 ·split
  ·intro i hi;simp[ids,bu]at hi
  ·intro i hi;simp[ids]at hi
 ·exact fun i hi=>hi
theorem gy{F:Bool→Addr→Value→Prop}{ρ:Nat→QW}{K:Ty}{x:af}{k:K.den}{v:Value}(h:sW K x=some k)(f:K.isKey=true)(p:V F ρ x v):v=aS K k:=by
 unfold sW at h;split at h
 ·rename_i β I i;split at h
  ·rename_i q;subst q;split at h
   ·rename_i z;cases h;exact rH f z p
   ·cases h
  ·cases h
 ·rename_i J;split at h
  ·rename_i z;split at h
   ·rename_i L r hu;cases h;simp only[V]at p;obtain⟨B,rfl,C,D⟩:=p;obtain⟨h1,h2,M⟩:=cM hu D;rw[jr f z.1];congr 1;refine Array.ext_getElem? fun i=>?_
    rw[List.getElem?_toArray,←Array.getElem?_toList];rcases Nat.lt_or_ge i K.size with hi | hi
    ·have:=j3 (l:=B.toList) (o:=0) f (ah.mono (fun _ _ h=>h) (fun j u E=>by rw[Nat.zero_add,Array.getElem?_toList];exact E) h1) i hi;rw[Nat.zero_add]at this;exact this
    ·rw[List.getElem?_eq_none (by rw[Array.length_toList,C,z.2];exact hi)];rw[List.getElem?_eq_none (by rw[cT f];exact hi)]
   ·cases h
  ·cases h
 ·rename_i N O xs;split at h
  ·rename_i q;subst q;cases h;simp only[V]at p;obtain⟨B,rfl,hl,-⟩:=p;rw[jr f rfl];cases B with
   | nil=>simp[cH]
   | cons _ _=>simp at hl
  ·cases h
 ·cases h
theorem qA{F:Bool→Addr→Value→Prop}(j:eH n F ρ s a){f:Option Operand}{l:Option Int}(h:pL s f=some l):sH F ρ a f l:=by
 unfold pL at h;cases f with
 | none=>cases h;trivial
 | some x =>
  simp only at h;split at h
  ·rename_i β k m e;cases h;have:=aV j x;rw[e]at this;exact⟨_,_,this⟩
  ·cases h
theorem lQ{F:Bool→Addr→Value→Prop}{x:af}{n:Int}(h:intOf x=some n){v:Value}(f:V F ρ x v):∃β k,V F ρ (.p β (.int k) n) v:=by
 unfold intOf at h;split at h
 ·cases h;exact⟨_,_,f⟩
 ·cases h
theorem C3(m:Mem Bw w0 ρ φ h w){x y:af}{u:gP}(hd:wZ h x=some (y,u)):
  Mem Bw w0 ρ φ (apply u h) w∧(∀β a v,Fr (own φ h) Bw w β a v→Fr (own φ (apply u h)) Bw w β a v)∧∀v,V (Fr (own φ h) Bw w) ρ x v→V (Fr (own φ (apply u h)) Bw w) ρ y v:=by
 unfold wZ at hd;split at hd
 ·split at hd
  ·rename_i C D h1;cases hd;obtain⟨j,p,q,z⟩:=ph m h1;refine⟨j,p,fun v f=>?_⟩;simp only[V]at f ⊢;obtain⟨A,e,B,hl⟩:=f;exact⟨A,e,by rw[q];exact B,z _ hl⟩
  ·cases hd
 ·exact gA m hd
theorem ni:∀ {z:List Bool} {xs p:List af} {h:Nat→Qz} {u:gP},Mem Bw w0 ρ φ h w→frzL h z xs=some (p,u) →
  Mem Bw w0 ρ φ (apply u h) w∧(∀β a v,Fr (own φ h) Bw w β a v→Fr (own φ (apply u h)) Bw w β a v)∧∀f,iD (Fr (own φ h) Bw w) ρ xs f→iD (Fr (own φ (apply u h)) Bw w) ρ p f
 | _,[],p,h,u,m,hd=>by
  simp only[frzL]at hd;cases hd;exact⟨m,fun _ _ _ h=>h,fun _ h=>h⟩
 | [],x::xs,p,h,u,m,hd=>by
  simp only[frzL]at hd;cases hd;exact⟨m,fun _ _ _ h=>h,fun _ h=>h⟩
 | false::z,x::xs,p,h,u,m,hd=>by
  simp only[frzL]at hd;split at hd
  ·rename_i B M h1;cases hd;obtain⟨C,q,D⟩:=ni m h1;refine⟨C,q,fun f j=>?_⟩;cases f with
   | nil=>exact j.elim
   | cons v f=>exact⟨V.mono q (fun _ _ h=>h) j.1,D f j.2⟩
  ·cases hd
 | true::z,x::xs,p,h,u,m,hd=>by
  simp only[frzL]at hd;split at hd
  ·rename_i y u1 h1;split at hd
   ·rename_i B N h2;cases hd;obtain⟨C,q,D⟩:=C3 m h1;obtain⟨I,E,J⟩:=ni C h2;rw[eR];refine⟨I,fun β a v L=>E _ _ _ (q _ _ _ L),fun f j=>?_⟩;cases f with
    | nil=>exact j.elim
    | cons v f=>exact⟨V.mono E (fun _ _ h=>h) (D v j.1),J f (iD.mono q (fun _ _ h=>h) j.2)⟩
   ·cases hd
  ·cases hd
theorem vQ{f:gP}{i:Nat}(hu:f.all (fun p=>p.1 != i)=true):∀ {h:Nat→Qz},apply f h i=h i:=by
 induction f with
 | nil=>intro h;rfl
 | cons p f q =>
  intro h;obtain⟨j,o⟩:=p;simp only[List.all_cons,Bool.and_eq_true,bne_iff_ne,ne_eq]at hu;simp only[apply];rw[q hu.2,aR _ _ (Ne.symm hu.1)]
theorem kD{F:Bool→Addr→Value→Prop}{x:af}{b:Bool}(h:zw x=some b){u:Value}(hu:V F ρ x u):∃q,u = .pointer q∧q.isNone=b:=by
 cases x <;> simp only[zw]at h <;> first | (cases h;done) | skip
 ·cases h;simp only[V]at hu;exact⟨none,hu,rfl⟩
 ·cases h;simp only[V]at hu;obtain⟨g,_,e⟩:=hu;exact⟨_,e,rfl⟩
 ·cases h;simp only[V]at hu;obtain⟨f,e,_⟩:=hu;exact⟨_,e,rfl⟩
theorem zN(d:Nat){t e:TypeId}(h:P.underlying t=some (.pointer e))(q:Option Addr):(Op.equalIn (d+1) t (.pointer none) (.pointer q)).run P w = .ok q.isNone w:=by
 simp[Op.equalIn,run_underlying h]
theorem xm(d:Nat){t e:TypeId}(h:P.underlying t=some (.pointer e))(a:Addr):(Op.equalIn (d+1) t (.pointer (some a)) (.pointer none)).run P w = .ok false w:=by
 simp[Op.equalIn,run_underlying h]
theorem zz(d:Nat){t:TypeId}{f:Array (String×TypeId)}(h:P.underlying t=some (.interface f))(a:TypeId)(v:Value):(Op.equalIn (d+1) t (.iface a v) .nilIface).run P w = .ok false w:=by
 simp[Op.equalIn,run_underlying h]
theorem qN{F:Bool→Addr→Value→Prop}{op:BinOp}{b:Bool}{r:af}(h:FK op b=some r){t:TypeId}{u v:Value}{xo yo:Operand}(j:(eqGuard op t xo yo u v).run P w = .ok () w)
  (p:(Op.equal t u v).run P w = .ok b w) (f:binOp .eql t u v=(do pure (.bool (←Op.equal t u v)))∧binOp .neq t u v=(do pure (.bool (!(←Op.equal t u v))))) :
  ∃z,(do eqGuard op t xo yo u v;binOp op t u v:Sem Value).run P w = .ok z w∧V F ρ r z:=by
 unfold FK at h;split at h <;> cases h
 ·exact⟨_,by rw[Sem.run_bind,j,Result.andThen_ok,f.1,Sem.run_bind,p];rfl,iP _ _⟩
 ·exact⟨_,by rw[Sem.run_bind,j,Result.andThen_ok,f.2,Sem.run_bind,p];rfl,iP _ _⟩
theorem BY{F:Bool→Addr→Value→Prop}{ti:TI}{op:BinOp}{t:TypeId}{x y r:af}{us:gP}{c:Prop}(h:FJ P ti op t x y=some (r,us,c))(hc:c){u v:Value}(hu:V F ρ x u)(p:V F ρ y v)(J L:Operand):
  us=[]∧∃z,(do eqGuard op t J L u v;binOp op t u v:Sem Value).run P w = .ok z w∧V F ρ r z:=by
 have ptr:∀ {b:Bool} {q j:Option Addr},u = .pointer q→v = .pointer j→(∃e,P.underlying t=some (.pointer e))→(q.isNone=true∧j.isNone=b∨q.isNone=false∧j.isNone=true∧b=false)→FK op b=some r →
   ∃z,(do eqGuard op t J L u v;binOp op t u v:Sem Value).run P w = .ok z w∧V F ρ r z:=fun {b q j} C D B hq f=>by
  subst C D;obtain⟨e,B⟩:=B;refine qN f (bL (by intro M e;cases e) (by intro e;cases e)) ?_ ⟨by cases q <;> cases j <;> rfl,by cases q <;> cases j <;> rfl⟩;unfold Op.equal Op.maxDepth;cases q with
  | none =>
   rcases hq with⟨_,N⟩ | ⟨O,_⟩
   ·subst N;exact zN 9999 B j
   ·cases O
  | some a =>
   rcases hq with⟨O,_⟩ | ⟨_,N,q3⟩
   ·cases O
   ·cases j with
    | none=>subst q3;exact xm 9999 B a
    | some _=>cases N
 unfold FJ at h;split at h
 ·rename_i M ds;split at h
  ·rename_i T hT;split at h
   ·rename_i a b ha hb;split at h
    ·rename_i I f;cases h;refine⟨rfl,?_⟩;simp only[V]at hu p;obtain⟨xs,rfl,sx,lx⟩:=hu;obtain⟨ys,rfl,sy,ly⟩:=p;obtain⟨a1,a2,a3⟩:=cM ha lx;obtain⟨b1,b2,b3⟩:=cM hb ly;have hl:∀l:List af,([]:List af)=l.drop T.size→T.size≤l.length→l.length=T.size:=fun l h1 h2=>by have:=congrArg List.length h1;simp only[List.length_nil,List.length_drop]at this;omega
     have B:=hc.2 w;have E:T.scalar=false:=hc.1.2;refine qN f (run_eqGuard_agg w op t J L xs ys hc.1.1) ?_ ⟨rfl,rfl⟩;refine B.2.2 (F false) a b _ _ ?_ ?_
     ·unfold nU;rw[E];simp only[Bool.false_eq_true,if_false];exact⟨xs,rfl,by rw[sx,hl M a2 a3],a1⟩
     ·unfold nU;rw[E];simp only[Bool.false_eq_true,if_false];exact⟨ys,rfl,by rw[sy,hl ds b2 b3],b1⟩
    ·cases h
   ·cases h
  ·cases h
 ·rename_i A q;split at h
  ·rename_i I f;cases h;simp only[V]at hu p;cases q with
   | none =>
    have e:u = .pointer none:=hu.2.symm;exact⟨rfl,ptr e p hc (.inl ⟨rfl,rfl⟩) f⟩
   | some y =>
    obtain⟨_,b,e,_⟩:=hu;exact⟨rfl,ptr e.symm p hc (.inr ⟨rfl,rfl,rfl⟩) f⟩
  ·cases h
 ·split at h
  ·rename_i b h1 h2;split at h
   ·rename_i I f;cases h;obtain⟨q,C,D⟩:=kD h1 hu;obtain⟨j,X,Y⟩:=kD h2 p;exact⟨rfl,ptr C X hc (.inl ⟨D,Y⟩) f⟩
   ·cases h
  ·rename_i h1 h2;split at h
   ·rename_i I f;cases h;obtain⟨q,C,D⟩:=kD h1 hu;obtain⟨j,X,Y⟩:=kD h2 p;exact⟨rfl,ptr C X hc (.inr ⟨D,Y,rfl⟩) f⟩
   ·cases h
  ·split at h
   ·split at h
    ·rename_i I f;cases h;simp only[V]at hu p;subst hu p;obtain⟨ms,Z⟩:=hc;refine⟨rfl,qN f (bL (by intro M e;cases e) (by intro e;cases e)) ?_ ⟨rfl,rfl⟩⟩;unfold Op.equal Op.maxDepth;exact zz 9999 Z _ _
    ·cases h
   ·cases h
theorem z7(m:Mem Bw w0 ρ φ h w){o:Oper}{j:Operand}{z f:TypeId}{ok:Bool}(B:o.op = .typeAssert j z f ok){x:af}(p:V (Fr (own φ h) Bw w) ρ x (a.eval j)){y:af}{u:gP}{c:Prop}
  (hd:sM P x f ok=some (y,u,c)) (hc:c):Good P o a w (aF Bw w0 ρ φ h w new y u):=by
 unfold sM at hd;split at hd
 ·rename_i t v;split at hd
  ·rename_i q;obtain⟨rfl,rfl⟩:=q;cases hd;obtain⟨d,hd,hi⟩:=hc;simp only[V]at p;refine Good.aG (v:= .tuple #[v,.bool true]) (w':=w) ?_ (aF.pure m ?_)
   ·simp only[execOp,B,p];simp only[Instr.typeAssert,Sem.run_bind,run_underlying hd,Result.andThen_ok];cases d <;> first | (simp at hi;done) | (simp;done)
   ·simp only[V,VL];exact⟨_,rfl,rfl,⟨v,by simp,AV v⟩,⟨.bool true,by simp,by simp only[V,ah];exact⟨rfl,trivial⟩⟩,trivial⟩
  ·cases hd
 ·cases hd
theorem E3(C:cb P tb)(m:Mem Bw w0 ρ φ h w)(I:eH n (Fr (own φ h) Bw w) ρ s a)(c8:∀j,j<8→ρ (new+j)=none){o:Oper}{asm:Option Bool}{iE:Option wE}(c9:dieOf iE=none){x:af}{u:gP}{c:Prop}
  (hd:gN P tb new asm iE o.op s h=some (x,u,c)) (hc:c):Good P o a w (aF Bw w0 ρ φ h w new x u):=by
 have hn:ρ new=none:=c8 0 (by omega);unfold gN at hd;split at hd
 ·rename_i x' E;cases hd;exact ym m (aV I _) (.inl E)
 ·rename_i x' E;cases hd;exact ym m (aV I _) (.inr E)
 ·rename_i co D M E;unfold yZ at hd;split at hd
  ·rename_i b β b' e;cases hd;subst hc;have:=aV I co;rw[e]at this;exact sD m this (aV I _) E
  ·rename_i β b' e;have:=aV I co;rw[e]at this;split at hd
   ·cases hd;exact sD (b:=true) m this (aV I _) E
   ·cases hd;exact sD (b:=false) m this (aV I _) E
  ·cases hd
 ·rename_i t E;unfold AP at hd;split at hd
  ·rename_i ti ht;cases hd;exact Da m hn (C.find ht) E
  ·cases hd
 ·rename_i t D E;unfold GF at hd;split at hd
  ·rename_i be;cases hd;exact FF m hn (aV I D) be E _
  ·cases hd
 ·rename_i t ps E;unfold o6 at hd;split at hd
  ·rename_i ti ht;split at hd
   ·rename_i fs hk;split at hd
    ·rename_i ds bi;cases hd;have:=jk I (ps.toList.map (·.2));simp only[List.map_map]at this;exact vH m C (C.find ht) hk E this bi
    ·cases hd
   ·rename_i n e hk;split at hd
    ·rename_i te a6;split at hd
     ·rename_i ds bi;cases hd;have:=jk I (ps.toList.map (·.2));simp only[List.map_map]at this;exact tj m C (C.find ht) hk (C.find a6) E this bi
     ·cases hd
    ·cases hd
   ·cases hd
  ·cases hd
 ·rename_i t len ps E;unfold mf at hd;split at hd
  ·rename_i e te A N;obtain⟨ti,h1,_,h2,L,h4,h5⟩:=bY C N;split at hd
   ·rename_i O;split at hd
    ·rename_i ys us b1;cases hd;have:=jk I (ps.toList.map (·.2));simp only[List.map_map]at this;exact uy m hn h1 h2 L h4 h5 E O.1 this (fun x J=>Cw ((List.all_eq_true.1 O.2.1) x J)) b1 O.2.2
    ·cases hd
   ·cases hd
  ·cases hd
 ·rename_i t D E;unfold yL at hd;split at hd
  ·rename_i ti ht;split at hd
   ·rename_i cs off c' cp;split at hd
    ·rename_i y hy;cases hd;exact EJ m (C.find ht) (aV I D) E cp hc hy
    ·cases hd
   ·split at hd
    ·rename_i r0 bs;cases hd;exact FO m (C.find ht) (aV I D) E bs
    ·exact ER m hn (C.find ht) (aV I D) E hd hc
  ·cases hd
 ·rename_i t D M E;unfold ov at hd;split at hd
  ·rename_i ti ht;split at hd
   ·rename_i O;split at hd
    ·rename_i id i sz off ex;have J:=aV I D;rw[ex]at J;split at hd
     ·rename_i cs hi;split at hd
      ·rename_i cc;cases hd;exact wj m (C.find ht) J (aV I M) O.1 E hi O.2 cc
      ·cases hd
     ·rename_i e A xs hi;split at hd
      ·rename_i aa;split at hd
       ·rename_i z us hz;split at hd
        ·rename_i b3;cases hd;rw[aa.1]at J;exact wo m (C.find ht) J (aV I M) O.1 E hz hi (by rw[vQ b3];exact hi) O.2 aa.2 hc
        ·cases hd
       ·cases hd
      ·cases hd
     ·rename_i e e2 A de hole hi;split at hd
      ·rename_i aa;obtain⟨rfl,rfl⟩:=aa;exact Ga m (C.find ht) J (aV I M) O.2 E hi hd hc
      ·cases hd
     ·rename_i e xs hi;split at hd
      ·rename_i aa;obtain⟨rfl,rfl,cx⟩:=aa;split at hd
       ·rename_i β v ey;have hy:=aV I M;rw[ey]at hy;cases hd;exact sT m (C.find ht) cx J hy E hi hc
       ·cases hd
      ·cases hd
     ·cases hd
    ·exact FV m (C.find ht) (aV I D) (aV I M) E hd
   ·cases hd
  ·cases hd
 ·rename_i op t D M t' E;unfold GH at hd;split at hd
  ·rename_i ti ht;split at hd
   ·rename_i r c' hr;cases hd;obtain⟨z,h1,h2⟩:=Fh (P:=P) (w:=w) (C.find ht) hr hc (aV I D) (aV I M) D M;exact Good.aG (v:=z) (w':=w) (by simp only[execOp,E];rw[Sem.run_bind,h1];rfl) (aF.pure m h2)
   ·obtain⟨hu,z,h1,h2⟩:=BY (P:=P) (w:=w) hd hc (aV I D) (aV I M) D M;subst hu;exact Good.aG (v:=z) (w':=w) (by simp only[execOp,E];rw[Sem.run_bind,h1];rfl) (aF.pure m h2)
  ·cases hd
 ·rename_i D E;have J:=aV I D;unfold FI at hd;split at hd
  ·rename_i id i sz off ex;cases hd;rw[ex]at J;obtain⟨g,h1,h2⟩:∃g,_∧a.eval D = .pointer (some ⟨g,i*sz+off,none⟩):=by simpa only [V]using J
   exact Good.aG (v:=a.eval D) (w':=w) (by simp only[execOp,E,h2];rfl) (aF.pure m J)
  ·rename_i β cs off ex;cases hd;rw[ex]at J;obtain⟨ad,h1,h2⟩:∃ad:Addr,a.eval D = .pointer (some (ad.add off))∧_:=by simpa only [V]using J
   exact Good.aG (v:=a.eval D) (w':=w) (by simp only[execOp,E,h1];rfl) (aF.pure m J)
  ·rename_i β A q ex;cases hd;rw[ex]at J;cases q with
   | none=>cases hc
   | some y =>
    obtain⟨_,b,e,hv⟩:_∧∃b:Addr,Value.pointer (some b)=a.eval D∧ah (Fr (own φ h) Bw w β) A y (fun k v=>Fr (own φ h) Bw w β (b.add k) v):=by simpa only [V,ah]using J
    refine Good.aG (v:=a.eval D) (w':=w) (by simp only[execOp,E,←e];rfl) (aF.pure m ?_);simp only[V,Option.getD_some];exact⟨b,by rw[←e];unfold Addr.add;simp,jy β A y _ hv⟩
  ·cases hd
 ·rename_i op t D E;unfold I7 at hd;split at hd
  ·rename_i r hr;cases hd;obtain⟨z,h1,h2⟩:=Hw (P:=P) (w:=w) hr (aV I D);exact Good.aG (v:=z) (w':=w) (by simp only[execOp,E];rw[Sem.run_bind,h1];rfl) (aF.pure m h2)
  ·cases hd
 ·rename_i st dt D E;split at hd
  ·unfold yK at hd;split at hd
   ·rename_i si b4;split at hd
    ·rename_i di b7;split at hd
     ·rename_i r hr;cases hd;obtain⟨dd,b8,a4⟩:=(C.find b7).hu;unfold Ha at hr;split at hr
      ·rename_i β l ex;have J:=aV I D;rw[ex]at J;split at hr
       ·rename_i e hk;split at hr
        ·rename_i Z;cases hr;rw[hk]at a4;simp only[UK]at a4;subst a4;simp only[EN]at Z;split at Z
         ·rename_i te a6;obtain⟨d,q1,q2⟩:=(C.find a6).hu;split at Z
          ·rename_i bv;rw[bv]at q2;simp only[UK]at q2;exact CY m (C.find b4) b8 (by rw[q1,q2]) E J
          ·cases Z
         ·cases Z
        ·cases hr
       ·cases hr
      ·rename_i β k n ex;have J:=aV I D;rw[ex]at J;split at hr
       ·rename_i hk;cases hr;rw[hk]at a4;simp only[UK]at a4;subst a4;exact Ej m (C.find b4) b8 E J
       ·cases hr
      ·cases hr
     split at hd
     ·rename_i Z;split at hd
      ·rename_i r hr;cases hd;obtain⟨z,h1,h2⟩:=Db (P:=P) m (C.find b4) (C.find b7) (fun e he=>by
        rw[he]at Z;simp only[EN]at Z;split at Z
        ·rename_i te a6;obtain⟨d,q1,q2⟩:=(C.find a6).hu;split at Z
         ·rename_i hk;rw[hk]at q2;simp only[UK]at q2;rw[q1,q2]
         ·cases Z
        ·cases Z) hr (aV I D)
       exact Good.aG (v:=z) (w':=w) (by simp only[execOp,E];rw[Sem.run_bind,h1];rfl) (aF.pure m h2)
      ·cases hd
     ·cases hd
    ·cases hd
   ·cases hd
  ·unfold Ai at hd;split at hd
   ·rename_i si b4;split at hd
    ·rename_i di b7;obtain⟨dd,b8,a4⟩:=(C.find b7).hu;split at hd
     ·rename_i β l ex;have J:=aV I D;rw[ex]at J;split at hd
      ·rename_i e hk;split at hd
       ·rename_i Z;cases hd;rw[hk]at a4;simp only[UK]at a4;subst a4;simp only[EN]at Z;split at Z
        ·rename_i te a6;obtain⟨d,q1,q2⟩:=(C.find a6).hu;split at Z
         ·rename_i bv;rw[bv]at q2;simp only[UK]at q2;exact Aq m hn (C.find b4) b8 (by rw[q1,q2]) E J
         ·cases Z
        ·cases Z
       ·cases hd
      ·cases hd
     ·cases hd
    ·cases hd
   ·cases hd
 ·rename_i t D lo hi E;unfold oF at hd;split at hd
  ·rename_i ti ht;split at hd
   ·rename_i l r hl hr;have ac:=qA I hl;have a1:=qA I hr;have J:=aV I D;split at hd
    ·rename_i β str ex;rw[ex]at J;split at hd
     ·rename_i hk;cases hd;exact wA m (C.find ht) hk E J ac a1 hc.1 hc.2.1 hc.2.2
     ·cases hd
    ·rename_i β A xs ex;rw[ex]at J;split at hd
     ·rename_i _ _ B N;obtain⟨a7,h1,a8,h2,L,h4,h5⟩:=bY C N;split at hd
      ·rename_i a9;subst a9;cases hd;exact nS m h1 h2 L h4 E J ac a1 hc.1 hc.2.1 hc.2.2
      ·cases hd
     ·cases hd
    ·rename_i id ex;rw[ex]at J;split at hd
     ·rename_i e A xs a2;split at hd
      ·rename_i _ _ _ N;obtain⟨a7,h1,a8,h2,L,h4,h5⟩:=bY C N;split at hd
       ·rename_i k;cases hd;cases lo with
        | some _=>exact ac.elim
        | none =>
         cases hi with
         | none=>exact a1.elim
         | some dk =>
          obtain⟨β,kk,hv⟩:=a1;exact vf m hn h1 h2 L (A:=A) E a2 J hv hc.1 hc.2
       ·cases hd
      ·cases hd
     ·rename_i A xs a2;split at hd
      ·rename_i _ _ B N;obtain⟨a7,h1,a8,h2,L,h4,h5⟩:=bY C N;split at hd
       ·rename_i a9;subst a9;cases hd;obtain⟨u,q1,q2⟩:=m.ob id _ a2;simp only[V]at J;rw[J.1]at q1;cases q1;exact nS m h1 h2 L h4 E q2 ac a1 hc.1 hc.2.1 hc.2.2
       ·cases hd
      ·cases hd
     ·cases hd
    ·rename_i ex;rw[ex]at J;split at hd
     ·rename_i _ _ A N;obtain⟨a7,h1,a8,h2,L,h4,h5⟩:=bY C N;cases hd;exact vU m h1 h2 L E J ac a1 hc.1 hc.2.1 hc.2.2
     ·cases hd
    ·cases hd
   ·cases hd
  ·cases hd
 ·rename_i t D lo hi mx E;split at hd
  ·unfold sR at hd;split at hd
   ·rename_i _ _ B l r q N hl hr hq;obtain⟨a7,h1,a8,h2,L,h4,h5⟩:=bY C N;have ac:=qA I hl;obtain⟨d1,k1,a1⟩:=lQ hr (aV I hi);obtain⟨d2,k2,b9⟩:=lQ hq (aV I mx);have J:=aV I D;split at hd
    ·rename_i β A xs ex;rw[ex]at J;split at hd
     ·rename_i a9;subst a9;cases hd;exact tL m h1 h2 L h4 E J ac a1 b9 hc.1 hc.2.1 hc.2.2.1 hc.2.2.2
     ·cases hd
    ·rename_i id ex;rw[ex]at J;split at hd
     ·rename_i A xs a2;split at hd
      ·rename_i a9;subst a9;cases hd;obtain⟨u,q1,q2⟩:=m.ob id _ a2;simp only[V]at J;rw[J.1]at q1;cases q1;exact tL m h1 h2 L h4 E q2 ac a1 b9 hc.1 hc.2.1 hc.2.2.1 hc.2.2.2
      ·cases hd
     ·cases hd
    ·cases hd
   ·cases hd
  ·unfold CA at hd;split at hd
   ·rename_i _ _ B r q N hl hr hq;obtain⟨a7,h1,a8,h2,L,h4,h5⟩:=bY C N;obtain⟨d1,k1,a1⟩:=lQ hr (aV I hi);obtain⟨d2,k2,b9⟩:=lQ hq (aV I mx);have J:=aV I D;have d3:lo=none:=by
     cases lo with
     | none=>rfl
     | some y =>simp only[pL]at hl;split at hl <;> cases hl
    subst d3;split at hd
    ·rename_i A xs u' ed;split at hd
     ·rename_i a9;subst a9;cases hd;obtain⟨c1,rfl,c3⟩:=hc;obtain⟨m',hF,hv⟩:=gA m ed;have:=zM (new:=new) m' hn h1 h2 L h4 E (hv _ J) (V.mono hF (fun _ _ h=>h) a1) (V.mono hF (fun _ _ h=>h) b9) c1 c3;exact fun K Q d4=>this K Q fun v w' hp=>d4 v w' (aF.after rfl hF hp)
     ·cases hd
    ·cases hd
   ·cases hd
 ·rename_i t D f E;unfold Ax at hd;split at hd
  ·rename_i ti ht;split at hd
   ·rename_i fs hk;split at hd
    ·rename_i off ft hf;split at hd
     ·rename_i id i sz k ex;cases hd;exact oN m (C.find ht) (aV I D) E hk hf (.inl ⟨_,_,_,_,ex,rfl⟩)
     ·rename_i β cs k ex;cases hd;exact oN m (C.find ht) (aV I D) E hk hf (.inr ⟨_,_,_,ex,rfl⟩)
     ·cases hd
    ·cases hd
   ·cases hd
  ·cases hd
 ·rename_i t D io E;split at hd
  case h_2=>exact Ei m C (aV I D) (aV I io) E hd hc
  rename_i r0 bs;cases hd;revert bs;intro hd;unfold iS at hd;split at hd
  ·rename_i e te A N;obtain⟨a7,h1,a8,h2,L,h4,h5⟩:=bY C N;split at hd
   ·rename_i β k i ei;split at hd
    ·rename_i y sz c' hy;split at hd
     ·rename_i aa;subst aa;cases hd;have hi:=aV I io;rw[ei]at hi;exact uS m h1 h2 L (aV I D) hi E hy hc
     ·cases hd
    ·cases hd
   ·cases hd
  ·cases hd
 ·rename_i t D io E;unfold AY at hd;split at hd
  ·rename_i ti ht;split at hd
   ·rename_i hk;split at hd
    ·rename_i β str bx k i ex ei;cases hd;have J:=aV I D;have hi:=aV I io;rw[ex]at J;rw[ei]at hi;exact wJ m (C.find ht) hk J hi E hc.1 hc.2
    ·cases hd
   ·rename_i n e hk;split at hd
    ·rename_i te a6;split at hd
     ·rename_i k d5;split at hd
      ·rename_i cs β k' j ex ei;split at hd
       ·rename_i hn;split at hd
        ·rename_i l hl;cases hd;have J:=aV I D;have hi:=aV I io;rw[ex]at J;rw[ei]at hi;exact xr m (C.find ht) hk (C.find a6) d5 J hl hn hi E hc
        ·cases hd
       ·cases hd
      ·cases hd
     ·cases hd
    ·cases hd
   ·cases hd
  ·cases hd
 ·rename_i D i E;unfold uP at hd;split at hd
  ·rename_i cs ex;split at hd
   ·rename_i y hy;cases hd;have J:=aV I D;rw[ex]at J;exact zG m J E hy
   ·cases hd
  ·cases hd
 ·rename_i D xt t ok E;exact z7 m E (aV I D) hd hc
 ·rename_i fn first ch E
  unfold Ds at hd;split at hd
  ·rename_i f e;cases hd;have e':first = #[]:=Array.ext' e
   subst e';exact wW m E (jk I _)
  ·cases hd
 ·rename_i t lo co E;unfold DJ at hd;split at hd
  ·rename_i e te A N;obtain⟨a7,h1,a8,h2,L,h4,h5⟩:=bY C N;split at hd
   ·rename_i β k l bx k' c' el ec;cases hd;have hl:=aV I lo;have cl:=aV I co;rw[el]at hl;rw[ec]at cl;exact EV m hn h1 h2 L h4 h5 E hl cl hc.1 hc.2.1 hc.2.2.1 hc.2.2.2
   ·cases hd
  ·cases hd
 ·rename_i t E;split at hd
  ·rename_i r b2;cases hd;have hd:=b2;unfold uV at hd;split at hd
   ·rename_i K A c' hm;cases hd;obtain⟨ti,kt,et,te,h1,h2,L,h5,h6⟩:=np C hm hc;exact yS m hn L.isKey E
   ·cases hd
  ·unfold tX at hd;split at hd
   ·rename_i K c' hm;cases hd;obtain⟨ti,kt,et,te,h1,h2,L,h5⟩:=nt C hm hc;exact xE m hn L.isKey E
   ·cases hd
 ·rename_i t D ko ok E;split at hd
  ·rename_i r b2;cases hd;have hd:=b2;unfold mG at hd;split at hd
   ·rename_i K A c' hm;split at hd
    ·rename_i id ex;split at hd
     ·rename_i K1 A1 kv hi;split at hd
      ·rename_i i a3;split at hd
       ·rename_i q;obtain⟨rfl,rfl⟩:=q;cases hd;obtain⟨ti,kt,et,te,h1,h2,L,h5,h6⟩:=np C hm hc;have J:=aV I D;have hk:=aV I ko;rw[ex]at J;exact BZ m h1 h2 L h5 h6 E hi J (gy a3 L.isKey hk)
       ·cases hd
      ·cases hd
     ·cases hd
    ·cases hd
   ·cases hd
  ·unfold lq at hd;split at hd
   ·rename_i K c' hm;split at hd
    ·rename_i id ex;split at hd
     ·rename_i K1 kv hi;split at hd
      ·rename_i i j a3 _;split at hd
       ·rename_i q;obtain⟨rfl,rfl⟩:=q;cases hd;obtain⟨ti,kt,et,te,h1,h2,L,h5,hz⟩:=nt C hm hc.1;have J:=aV I D;have hk:=aV I ko;rw[ex]at J;rw[←u4 hc.2,hz];exact yX m h1 h2 L h5 E hi J (gy a3 L.isKey hk)
       ·cases hd
      ·cases hd
     ·cases hd
    ·cases hd
   ·cases hd
 ·rename_i t D ko M E;split at hd
  ·rename_i r b2;cases hd;have hd:=b2;unfold fG at hd;split at hd
   ·rename_i K A c' hm;split at hd
    ·rename_i id ex;split at hd
     ·rename_i K1 A1 kv hi;split at hd
      ·rename_i i a3;split at hd
       ·rename_i q;obtain⟨rfl,rfl,c2,c4⟩:=q;split at hd
        ·rename_i z us hz;split at hd
         ·rename_i b3;cases hd;obtain⟨ti,kt,et,te,h1,h2,L,h5,h6⟩:=np C hm hc;have J:=aV I D;have hk:=aV I ko;rw[ex]at J;exact kR m h1 h2 L (.inl E) hi (by rw[vQ b3];exact hi) J (gy a3 L.isKey hk) (aV I M) c2 c4 hz
         ·cases hd
        ·cases hd
       ·cases hd
      ·cases hd
     ·cases hd
    ·cases hd
   ·cases hd
  ·unfold eU at hd;split at hd
   ·rename_i K c' hm;split at hd
    ·rename_i id ex;split at hd
     ·rename_i K1 kv hi;split at hd
      ·rename_i i v a3 c5;split at hd
       ·rename_i q;obtain⟨rfl,q2⟩:=q;cases hd;obtain⟨ti,kt,et,te,h1,h2,L,h5⟩:=nt C hm hc;have J:=aV I D;have hk:=aV I ko;rw[ex]at J;refine nR m h1 h2 L (.inl E) hi J (gy a3 L.isKey hk) (tp c5 (aV I M)) (fun p hp e=>?_);have:=List.all_eq_true.1 q2 p hp;rw[(fj L.isKey).2 e]at this;cases this
       ·cases hd
      ·cases hd
     ·cases hd
    ·cases hd
   ·cases hd
 ·rename_i t D ko M E;split at hd
  ·rename_i r b2;cases hd;have hd:=b2;unfold fG at hd;split at hd
   ·rename_i K A c' hm;split at hd
    ·rename_i id ex;split at hd
     ·rename_i K1 A1 kv hi;split at hd
      ·rename_i i a3;split at hd
       ·rename_i q;obtain⟨rfl,rfl,c2,c4⟩:=q;split at hd
        ·rename_i z us hz;split at hd
         ·rename_i b3;cases hd;obtain⟨ti,kt,et,te,h1,h2,L,h5,h6⟩:=np C hm hc;have J:=aV I D;have hk:=aV I ko;rw[ex]at J;exact kR m h1 h2 L (.inr E) hi (by rw[vQ b3];exact hi) J (gy a3 L.isKey hk) (aV I M) c2 c4 hz
         ·cases hd
        ·cases hd
       ·cases hd
      ·cases hd
     ·cases hd
    ·cases hd
   ·cases hd
  ·unfold eU at hd;split at hd
   ·rename_i K c' hm;split at hd
    ·rename_i id ex;split at hd
     ·rename_i K1 kv hi;split at hd
      ·rename_i i v a3 c5;split at hd
       ·rename_i q;obtain⟨rfl,q2⟩:=q;cases hd;obtain⟨ti,kt,et,te,h1,h2,L,h5⟩:=nt C hm hc;have J:=aV I D;have hk:=aV I ko;rw[ex]at J;refine nR m h1 h2 L (.inr E) hi J (gy a3 L.isKey hk) (tp c5 (aV I M)) (fun p hp e=>?_);have:=List.all_eq_true.1 q2 p hp;rw[(fj L.isKey).2 e]at this;cases this
       ·cases hd
      ·cases hd
     ·cases hd
    ·cases hd
   ·cases hd
 ·rename_i c E;obtain⟨callee,args,c6⟩:=c;unfold pz at hd;simp only at hd;split at hd
  ·rename_i b;unfold qm at hd;split at hd
   ·rename_i x0 t ex et;obtain⟨D,X,rfl⟩:∃D,args = #[D]∧ev s D=x0:=by
     match Y:args.toList,ex with
     | [D],ex=>exact⟨D,Array.ext' Y,by simpa using ex⟩
    have ax:c6 = #[t]:=Array.ext' et;subst X ax;split at hd
    ·unfold sv at hd;split at hd
     ·rename_i ti ht;split at hd
      ·rename_i kt et id hk ex;split at hd
       ·rename_i K A kv hi;cases hd;have J:=aV I D;rw[ex]at J;exact yH m (C.find ht) hk hi J E
       ·cases hd
      ·cases hd
     ·cases hd
    unfold CX at hd;split at hd
    ·rename_i ti ht;split at hd
     ·rename_i k hk;split at hd
      ·rename_i e he;split at hd
       ·cases hd
       ·rename_i a5;cases hd;refine Al m (C.find ht) (.inl ⟨e,he⟩) (aV I D) E hk ⟨fun h=>(by rw[he]at h;cases h),fun⟨β,str,ex⟩=>?_⟩;rw[ex]at a5;exact absurd rfl a5
      ·rename_i he;split at hd
       ·rename_i a5;cases hd;refine Al m (C.find ht) (.inr he) (aV I D) E hk ⟨fun _=>?_,fun _=>he⟩;unfold isStr at a5;split at a5
        ·rename_i β str ex;exact⟨β,str,ex⟩
        ·cases a5
       ·cases hd
      ·cases hd
     ·cases hd
    ·cases hd
   ·rename_i x0 y0 ex;obtain⟨D,M,X,rfl,rfl⟩:∃D M,args = #[D,M]∧ev s D=x0∧ev s M=y0:=by
     match Y:args.toList,ex with
     | [D,M],ex=>exact⟨D,M,Array.ext' Y,by simp at ex;exact ex.1,by simp at ex;exact ex.2⟩
    subst X;unfold D3 at hd;split at hd
    ·rename_i β k i bx k' j ex ey;split at hd
     ·rename_i c7;subst c7;cases hd;have J:=aV I D;have hy:=aV I M;rw[ex]at J;rw[ey]at hy;exact FM m J hy E
     ·cases hd
    ·cases hd
   ·rename_i x0 y0 ex;obtain⟨D,M,X,rfl,rfl⟩:∃D M,args = #[D,M]∧ev s D=x0∧ev s M=y0:=by
     match Y:args.toList,ex with
     | [D,M],ex=>exact⟨D,M,Array.ext' Y,by simp at ex;exact ex.1,by simp at ex;exact ex.2⟩
    subst X;unfold D3 at hd;split at hd
    ·rename_i β k i bx k' j ex ey;split at hd
     ·rename_i c7;subst c7;cases hd;have J:=aV I D;have hy:=aV I M;rw[ex]at J;rw[ey]at hy;exact Hb m J hy E
     ·cases hd
    ·cases hd
   ·rename_i x0 y0 t t' ex et;obtain⟨D,M,X,rfl,rfl⟩:∃D M,args = #[D,M]∧ev s D=x0∧ev s M=y0:=by
     match Y:args.toList,ex with
     | [D,M],ex=>exact⟨D,M,Array.ext' Y,by simp at ex;exact ex.1,by simp at ex;exact ex.2⟩
    have ax:c6 = #[t,t']:=Array.ext' et;subst X ax;split at hd
    ·rename_i d6;subst d6;unfold mH at hd;split at hd
     ·rename_i e te A N;obtain⟨a7,h1,a8,h2,L,h4,h5⟩:=bY C N;split at hd
      ·rename_i ys b1;split at hd
       ·rename_i ex;cases hd;exact tR m hn h1 h2 L h4 h5 (aV I D) (aV I M) E (xs:=[]) (.inl ⟨ex,rfl,rfl,rfl⟩) b1 hc.1 hc.2
       ·rename_i id ex;split at hd
        ·rename_i e' B xs a2;split at hd
         ·rename_i b5;subst b5;split at hd
          ·rename_i d7;subst d7;simp only[Option.some.injEq,Prod.mk.injEq]at hd;obtain⟨rfl,rfl,rfl⟩:=hd;exact tR m hn h1 h2 L h4 h5 (aV I D) (aV I M) E (xs:=xs) (.inr ⟨id,ex,a2,rfl,rfl⟩) b1 hc.1 hc.2
          ·cases hd
         ·cases hd
        ·rename_i B xs a2;split at hd
         ·rename_i b5;subst b5;simp only[Option.some.injEq,Prod.mk.injEq]at hd;obtain⟨rfl,rfl,rfl⟩:=hd;have J:=aV I D;rw[ex]at J;exact vZ m hn h1 h2 L h4 h5 J (aV I M) E a2 b1 hc.1 hc.2.1 hc.2.2
         ·cases hd
        ·cases hd
       ·cases hd
      ·cases hd
     ·cases hd
    ·cases hd
   ·rename_i x0 y0 t t' ex et;obtain⟨D,M,X,rfl,rfl⟩:∃D M,args = #[D,M]∧ev s D=x0∧ev s M=y0:=by
     match Y:args.toList,ex with
     | [D,M],ex=>exact⟨D,M,Array.ext' Y,by simp at ex;exact ex.1,by simp at ex;exact ex.2⟩
    have ax:c6 = #[t,t']:=Array.ext' et;subst X ax;unfold rT at hd;split at hd
    ·rename_i e te A N;obtain⟨a7,h1,a8,h2,L,h4,h5⟩:=bY C N;split at hd
     ·rename_i ys b1;split at hd
      ·rename_i id ex;split at hd
       ·rename_i e' B xs a2;split at hd
        ·rename_i b5;subst b5;simp only[Option.some.injEq,Prod.mk.injEq]at hd;obtain⟨rfl,rfl,rfl⟩:=hd;have J:=aV I D;rw[ex]at J;exact Eo m h1 h2 L h4 J (aV I M) E a2 b1
        ·cases hd
       ·cases hd
      ·cases hd
     ·cases hd
    ·cases hd
   ·cases hd
  ·rename_i fo;unfold uB at hd;split at hd
   ·rename_i fid ch q ef;split at hd
    ·rename_i ys u' d8;have hf:=vX (aV I fo);rw[ef]at hf;obtain⟨q1,q2,q3⟩:=ni m d8;split at hd
     ·split at hd
      ·split at hd
       ·rename_i b6 hin hl hi;split at hd
        ·rename_i d9;cases hd;have hc:ju P fid b6 hin q.r q.hout:=by unfold vK at hc;rw[show q.die=none from c9]at hc;exact hc
         have hg:=Gq (new:=new) q1 c8 E (V.mono q2 (fun _ _ h=>h) hf) (q3 _ (js (jk I args.toList))) hl hi d9 hc;refine fun K Q hk=>hg K Q fun v w' hp=>hk v w' ?_
         exact aF.after (h:=h) (u1:=u') rfl q2 hp
        ·cases hd
       ·cases hd
      ·cases hd
     ·split at hd
      ·rename_i b6 hl;cases hd;have hg:=Et (new:=new) q1 E (V.mono q2 (fun _ _ h=>h) hf) (q3 _ (js (jk I args.toList))) hl hc;refine fun K Q hk=>hg K Q fun v w' hp=>hk v w' ?_
       have:=aF.after (h:=h) (u1:=u) rfl q2 hp;simpa using this
      ·cases hd
    ·cases hd
   ·cases hd
  ·cases hd
 ·cases hd
def I6:af→Bool
 | .unk=>true
 | _=>false
def dying(op:Op)(iE:Option wE):QW :=
 match op,iE with
 | .call c,some q=>match c.callee with
  | .value _=>if q.own && I6 q.r && q.hout.isEmpty then q.die else none
  | _=>none
 | _,_=>none
theorem Hq(m:Mem Bw w0 ρ φ h w)(L:eH n (Fr (own φ h) Bw w) ρ s a)(E:∀j,j<8→ρ (new+j)=none){o:Oper}{asm:Option Bool}{iE:Option wE}{y:Value}(f:dying o.op iE=some y){x:af}{u:gP}{c:Prop}
  (hd:gN P tb new asm iE o.op s h=some (x,u,c)) (hc:c):KB P o a w y (fun I=>∃v,aF Bw w0 ρ φ h w new .unk u v I):=by
 unfold dying at f;split at f
 ·rename_i c0 q M;split at f
  ·rename_i Y B;split at f
   ·rename_i p;simp only[Bool.and_eq_true,List.isEmpty_iff]at p;obtain⟨⟨C,z⟩,hout⟩:=p;obtain⟨callee,args,Z⟩:=c0;simp only at B;subst B;have hr:q.r = .unk:=by
     unfold I6 at z;split at z
     ·assumption
     ·cases z
    rw[M]at hd;simp only[gN,pz]at hd;unfold uB at hd;split at hd
    ·rename_i fid N q' ef eq;cases eq;split at hd
     ·rename_i ys u' J;have O:=vX (aV L Y);rw[ef]at O;obtain⟨q1,X,q3⟩:=ni m J;rw[if_pos C]at hd;split at hd
      ·split at hd
       ·rename_i A hin hl hi;split at hd
        ·rename_i D;cases hd;rw[hr,hout]at D;have hc:jG P fid A hin y:=by unfold vK at hc;rw[f]at hc;exact hc
         have hg:=H4 (new:=new) q1 E M (V.mono X (fun _ _ h=>h) O) (q3 _ (js (jk L args.toList))) hl hi D hc;refine fun K Q hk=>hg K Q fun I ⟨v,hp⟩=>hk I ⟨v,?_⟩
         rw[hout];exact aF.after (h:=h) (u1:=u') rfl X hp
        ·cases hd
       ·cases hd
      ·cases hd
     ·cases hd
    ·cases hd
   ·cases f
  ·cases f
 ·cases f
end
end Go.Tv
