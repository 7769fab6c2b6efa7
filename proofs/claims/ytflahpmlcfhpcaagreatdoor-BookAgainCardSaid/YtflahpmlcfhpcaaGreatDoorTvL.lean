import Derived.Test.YtflahpmlcfhpcaaGreatDoorTvKhm
namespace Go.Tv
open Go Go.RowKit
def pB(s:Nat→ag):Option Operand→Option (Option Int)
 | none=>some none
 | some x=>match ev s x with
  | .p _ (.int _) n=>some (some n)
  | _=>none
def hN(tb:bU)(t:TypeId):Option (TypeId×TI×Ty) :=
 match tb.find t with
 | some ti=>match ti.k with
  | .sl e=>match tb.find e with
   | some j=>match j.T with
    | some A=>if 0<A.size then some (e,j,A)else none
    | none=>none
   | none=>none
  | _=>none
 | none=>none
def Bx(tb:bU)(new:Nat)(t:TypeId):Qk :=
 match tb.find t with
 | some ti=>some (.adr new 0 ti.size 0,[(new,some (.box ti.z))],True)
 | none=>none
def Hi(new:Nat)(x:ag):Qk :=
 if(cellsOf x).all ag.cell then some (.adr new 0 (cellsOf x).length 0,[(new,some (.box (cellsOf x)))],True)else none
def oM(tb:bU)(t:TypeId)(j:QV)(xs:List ag):Qk :=
 match tb.find t with
 | some ti=>match ti.k with
  | .st p=>match parts tb p (j.zip xs) ti.z with
   | some f=>some (.agg f,[],True)
   | none=>none
  | .ar n e=>match tb.find e with
   | some q=>match parts tb ((List.range n).map fun i=>(i*q.size,e)) (j.zip xs) ti.z with
    | some f=>some (.agg f,[],True)
    | none=>none
   | none=>none
  | _=>none
 | none=>none
def mn(tb:bU)(new:Nat)(t:TypeId)(len:Nat)(j:QV)(xs:List ag)(h:Nat→Qz):Qk :=
 match hN tb t with
 | some (e,p,A) =>
  if j=List.range len∧xs.all ag.BT=true∧len*p.size≤16777216 then
   match zF A h xs with
   | some (q,u)=>some (.sl new,u++[(new,some (.arr e A q))],True)
   | none=>none
  else none
 | none=>none
def mD(ti:TI)(x:ag)(h:Nat→Qz):Qk :=
 match x,ti.k with
 | .ada id b n i,.int k=>match h id with
  | some (.box e)=>if b+n≤e.length then(match rz k ((e.drop b).take n)with
   | some l=>some (.p false (.int k) (l.getD i 0),[],True)
   | none=>none)else none
  | _=>none
 | _,_=>none
def kM(ti:TI)(x y:ag)(h:Nat→Qz):Qk :=
 match x,y with
 | .ada id b n i,.p _ (.int k) v=>match h id with
  | some (.box e)=>if b+n≤e.length∧ti.size=1 then(match rz k ((e.drop b).take n)with
   | some l=>some (.unk,[(id,some (.box (e.take b++uO k i v 0 l++e.drop (b+n))))],True)
   | none=>none)else none
  | _=>none
 | _,_=>none
def kL(tb:bU)(t:TypeId)(x i:ag)(h:Nat→Qz):Qk :=
 match tb.find t with
 | some ti=>match ti.k with
  | .ar n e=>match tb.find e with
   | some f=>if f.size=1 then(match x,i with
    | .adr id j sz off,.p _ (.int _) m=>match h id with
     | some (.box _)=>some (.ada id (j*sz+off) n (show Int from m).toNat,[],0≤(show Int from m)∧(show Int from m)<(n:Int))
     | _=>none
    | .ada id b N p,.p _ (.int _) m=>some (.ada id b N (p+(show Int from m).toNat),[],(0≤(show Int from m)∧(show Int from m)<(n:Int))∧p+(show Int from m).toNat<N)
    | _,_=>none)else if 0<f.size then(match x,i with
    | .adr id j sz off,.p _ (.int _) m=>match h id with
     | some (.box _)=>some (.ada id (j*sz+off) (n*f.size) ((show Int from m).toNat*f.size),[],0≤(show Int from m)∧(show Int from m)<(n:Int))
     | _=>none
    | _,_=>none)else none
   | none=>none
  | _=>none
 | none=>none
def lS(new:Nat)(ti:TI)(x:ag)(h:Nat→Qz):Qk :=
 match x with
 | .adr id i sz off=>if sz=1∧off=0∧ti.k.agg=false then
   match h id with
   | some (.mat e u A p none)=>some (.sl new,[(id,some (.mat e u A p (some (i,new)))),(new,some (.arr u A (p.getD i [])))],i<p.length)
   | some (.mat e u A p (some (k,j)))=>match h j with
    | some (.arr z B v)=>if q:B=A then(if z=u then
      some (.sl new,[(j,none),(id,some (.mat e u A (p.set k (q ▸ v:List A.den)) none))]++[(id,some (.mat e u A (p.set k (q ▸ v:List A.den)) (some (i,new)))),(new,some (.arr u A ((p.set k (q ▸ v:List A.den)).getD i [])))],i<p.length)else none)else none
    | _=>none
   | _=>none
  else none
 | _=>none
def yR(tb:bU)(new:Nat)(t:TypeId)(x:ag)(h:Nat→Qz):Qk :=
 match tb.find t with
 | some ti=>match lU h x with
  | some (e,off,c)=>match gk ti e off with
   | some y=>some (y,[],c)
   | none=>none
  | none=>match mD ti x h with
   | some r=>some r
   | none=>lS new ti x h
 | none=>none
def ss(id i:Nat)(e p:TypeId)(A:Ty)(f:List (List A.den))(hole:Option (Nat×Nat))(y:ag)(h:Nat→Qz):Qk :=
 match y with
 | .sl r=>match h r with
  | some (.arr v B _)=>if B=A∧v=p then
    match hole with
    | none=>some (.unk,[(id,some (.mat e p A f (some (i,r))))],i<f.length)
    | some (k,j)=>match h j with
     | none=>some (.unk,[(id,some (.mat e p A f (some (i,r))))],k=i∧i<f.length)
     | some (.arr x C u)=>if q:C=A then(if x=p∧j≠r then
       some (.unk,[(j,none),(id,some (.mat e p A (f.set k (q ▸ u:List A.den)) none))]++[(id,some (.mat e p A (f.set k (q ▸ u:List A.den)) (some (i,r))))],i<f.length)else none)else none
     | _=>none
   else none
  | _=>none
 | _=>none
def oz(tb:bU)(t:TypeId)(x y:ag)(h:Nat→Qz):Qk :=
 match tb.find t with
 | some ti =>
  if(cellsOf y).all ag.cell=true∧(cellsOf y).length=ti.size then
   match x with
   | .adr id i sz off=>match h id with
    | some (.box f)=>if i*sz+off+ti.size≤f.length then some (.unk,[(id,some (.box (wr f (i*sz+off) (cellsOf y))))],True)else none
    | some (.arr e A xs) =>
     if sz=A.size∧off+ti.size≤A.size then
      match zI A h xs i off y with
      | some (z,j)=>if j.all (fun p=>p.1 != id)then some (.unk,j++[(id,some (.arr e A (xs.set i z)))],i<xs.length)else none
      | none=>none
     else none
    | some (.mat e e2 A xss hole)=>if sz=1∧off=0 then ss id i e e2 A xss hole y h else none
    | some (.bytes e xs)=>if sz=1∧off=0∧ti.size=1 then(match y with
     | .p _ (.int .u8) v=>some (.unk,[(id,some (.bytes e (xs.set i v)))],i<xs.length)
     | _=>none)else none
    | _=>none
   | _=>kM ti x y h
  else none
 | none=>none
def FM(x:ag):Qk :=
 match x with
 | .adr id i sz off=>some (.adr id i sz off,[],True)
 | .fad β e off=>some (.fad β e off,[],True)
 | .p β (.ptr A) q=>some (.fad β (flat β A (q.getD A.zero)) 0,[],q.isSome=true)
 | _=>none
def zo:ag→Option Bool
 | .nilp=>some true
 | .adr _ _ _ _=>some false
 | .fad _ _ _=>some false
 | _=>none
def GW(op:BinOp)(b:Bool):Option ag :=
 match op with
 | .eql=>some (.p false .bool b)
 | .neq=>some (.p false .bool (!b))
 | _=>none
def Fh(P:Program)(ti:TI)(op:BinOp)(t:TypeId)(x y:ag):Qk :=
 match x,y with
 | .agg f,.agg j=>match ti.T with
  | some T=>match iz T f,iz T j with
   | some (a,[]),some (b,[])=>match GW op (FI T a b)with
    | some r=>some (r,[],H6 P t T)
    | none=>none
   | _,_=>none
  | none=>none
 | .p _ (.ptr _) q,.nilp=>match GW op q.isNone with
  | some r=>some (r,[],∃e,P.underlying t=some (.pointer e))
  | none=>none
 | x,y=>match zo x,zo y with
  | some true,some b=>match GW op b with
   | some r=>some (r,[],∃e,P.underlying t=some (.pointer e))
   | none=>none
  | some false,some true=>match GW op false with
   | some r=>some (r,[],∃e,P.underlying t=some (.pointer e))
   | none=>none
  | _,_=>match x,y with
   | .lit (.iface _ _),.lit .nilIface=>match GW op false with
    | some r=>some (r,[],∃u,P.underlying t=some (.interface u))
    | none=>none
   | _,_=>none
def se(P:Program)(x:ag)(e:TypeId)(ok:Bool):Qk :=
 match x with
 | .lit (.iface t v)=>if t=e∧ok=true then some (.tup [yw v,.p false .bool true],[],∃d,P.underlying e=some d∧(match d with | .interface _=>false | _=>true)=true)else none
 | _=>none
def GY(P:Program)(tb:bU)(op:BinOp)(t:TypeId)(x y:ag):Qk :=
 match tb.find t with
 | some ti=>match bin ti.k op x y with
  | some (r,c)=>some (r,[],c)
  | none=>Fh P ti op t x y
 | none=>none
def I4(op:UnOp)(x:ag):Qk :=
 match un op x with
 | some r=>some (r,[],True)
 | none=>none
def Ed(tb:bU)(k:TK):Bool :=
 match k with
 | .sl e=>match tb.find e with
  | some f=>match f.k with
   | .int .u8=>true
   | _=>false
  | none=>false
 | _=>true
def Ff(tb:bU)(j:TK)(x:ag):Option ag :=
 match x with
 | .p _ .str l=>match j with
  | .sl e=>if Ed tb (.sl e)then some (.p false (.slice (.int .u8)) (cd l))else none
  | _=>none
 | .p _ (.int _) n=>match j with
  | .str=>some (.p false .str (FG n))
  | _=>none
 | _=>none
def yN(tb:bU)(st p:TypeId)(x:ag)(h:Nat→Qz):Qk :=
 match tb.find st with
 | some e=>match tb.find p with
  | some j=>match Ff tb j.k x with
   | some r=>some (r,[],True)
   | none=>if Ed tb e.k then(match conv e.k j.k h x with
    | some r=>some (r,[],True)
    | none=>none)else none
  | none=>none
 | none=>none
def AM(tb:bU)(new:Nat)(st f:TypeId)(x:ag):Qk :=
 match tb.find st with
 | some _=>match tb.find f with
  | some j=>match x with
   | .p _ .str l=>match j.k with
    | .sl e=>if Ed tb (.sl e)then some (.sl new,[(new,some (.bytes e (cd l)))],True)else none
    | _=>none
   | _=>none
  | none=>none
 | none=>none
def oL(tb:bU)(new:Nat)(t:TypeId)(x:ag)(f hi:Option (Option Int))(h:Nat→Qz):Qk :=
 match tb.find t with
 | some ti=>match f,hi with
  | some l,some r=>match x with
   | .p _ .str s=>match ti.k with
    | .str=>some (.p false .str ((s.take (r.getD s.length).toNat).drop (l.getD 0).toNat),[],0≤l.getD 0∧l.getD 0≤r.getD s.length∧r.getD s.length≤s.length)
    | _=>none
   | .p β (.slice A) xs=>match hN tb t with
    | some (_,_,B)=>if A=B then some (.p β (.slice A) ((xs.take (r.getD xs.length).toNat).drop (l.getD 0).toNat),[],0≤l.getD 0∧l.getD 0≤r.getD xs.length∧r.getD xs.length≤xs.length)else none
    | none=>none
   | .sl id=>match h id with
    | some (.arr e A xs)=>match hN tb t with
     | some (_,_,_)=>match l,r with
      | none,some k=>some (.sl new,[(id,none),(new,some (.arr e A (xs.take k.toNat)))],0≤k∧k≤xs.length)
      | _,_=>none
     | none=>none
    | some (.fz A xs)=>match hN tb t with
     | some (_,_,B)=>if A=B then some (.p false (.slice A) ((xs.take (r.getD xs.length).toNat).drop (l.getD 0).toNat),[],0≤l.getD 0∧l.getD 0≤r.getD xs.length∧r.getD xs.length≤xs.length)else none
     | none=>none
    | _=>none
   | .nils=>match hN tb t with
    | some (_,_,_)=>some (.nils,[],0≤l.getD 0∧l.getD 0≤r.getD 0∧r.getD 0≤0)
    | none=>none
   | _=>none
  | _,_=>none
 | none=>none
def intOf:ag→Option Int
 | .p _ (.int _) n=>some n
 | _=>none
def sD(tb:bU)(t:TypeId)(x:ag)(e:Option (Option Int))(hi mx:ag)(h:Nat→Qz):Qk :=
 match hN tb t,e,intOf hi,intOf mx with
 | some (_,_,B),some l,some r,some q=>match x with
  | .p β (.slice A) xs=>if A=B then some (.p β (.slice A) ((xs.take r.toNat).drop (l.getD 0).toNat),[],0≤l.getD 0∧l.getD 0≤r∧r≤q∧q≤xs.length)else none
  | .sl id=>match h id with
   | some (.fz A xs)=>if A=B then some (.p false (.slice A) ((xs.take r.toNat).drop (l.getD 0).toNat),[],0≤l.getD 0∧l.getD 0≤r∧r≤q∧q≤xs.length)else none
   | _=>none
  | _=>none
 | _,_,_,_=>none
def Cr(tb:bU)(new:Nat)(t:TypeId)(x:ag)(e:Option (Option Int))(hi mx:ag)(h:Nat→Qz):Qk :=
 match hN tb t,e,intOf hi,intOf mx with
 | some (_,_,B),some none,some r,some q=>match gf h x with
  | some (.p false (.slice A) xs,u)=>if A=B then some (.sl new,u++[(new,some (.cutz A (xs.take r.toNat)))],0≤r∧r=q∧r≤xs.length)else none
  | _=>none
 | _,_,_,_=>none
def AU(tb:bU)(t:TypeId)(x:ag)(f:Nat):Qk :=
 match tb.find t with
 | some ti=>match ti.k with
  | .st e=>match e[f]? with
   | some (off,_)=>match x with
    | .adr id i sz k=>some (.adr id i sz (k+off),[],True)
    | .fad β j k=>some (.fad β j (k+off),[],True)
    | _=>none
   | none=>none
  | _=>none
 | none=>none
def iY(tb:bU)(t:TypeId)(x i:ag)(h:Nat→Qz):Qk :=
 match hN tb t with
 | some (_,e,_)=>match i with
  | .p _ (.int _) n=>match xG h x n with
   | some (y,sz,c)=>if sz=e.size then some (y,[],c)else none
   | none=>none
  | _=>none
 | none=>none
def Bj(tb:bU)(t:TypeId)(x i:ag):Qk :=
 match tb.find t with
 | some ti=>match ti.k with
  | .str=>match x,i with
   | .p _ .str s,.p _ (.int _) n=>some (.p false (.int .u8) ((s.getD n.toNat 0).toNat:Int),[],0≤n∧n<s.length)
   | _,_=>none
  | .ar n e=>match tb.find e with
   | some j=>match j.k with
    | .int k=>match x,i with
     | .agg f,.p _ (.int _) m=>if f.length=n then(match rz k f with
      | some l=>some (.p false (.int k) (l.getD (show Int from m).toNat 0),[],0≤(show Int from m)∧(show Int from m)<(n:Int))
      | none=>none)else none
     | _,_=>none
    | _=>none
   | none=>none
  | _=>none
 | none=>none
def vm(x:ag)(i:Nat):Qk :=
 match x with
 | .tup e=>match e[i]? with
  | some y=>some (y,[],True)
  | none=>none
 | _=>none
def GS(e:TypeId)(f:TI)(A:Ty)(n:Nat):Obj :=
 match A with
 | .slice B=>match f.k,f.z with
  | .sl j,[.nils]=>if 0<B.size then .mat e j B (List.replicate n []) none else .arr e (.slice B) (List.replicate n [])
  | _,_=> .arr e (.slice B) (List.replicate n [])
 | A=> .arr e A (List.replicate n A.zero)
def D3(tb:bU)(new:Nat)(t:TypeId)(l c:ag):Qk :=
 match hN tb t with
 | some (e,f,A)=>match l,c with
  | .p _ (.int _) n,.p _ (.int _) k=>some (.sl new,[(new,some (GS e f A n.toNat))],0≤n∧n≤k∧(f.bytes:Int)*k≤281474976710656∧k≤9223372036854775807)
  | _,_=>none
 | none=>none
def isStr:ag→Bool
 | .p _ .str _=>true
 | _=>false
def CN(tb:bU)(t:TypeId)(x:ag)(h:Nat→Qz):Qk :=
 match tb.find t with
 | some ti=>match lenOf h x with
  | some n=>match ti.k with
   | .sl _=>if isStr x then none else some (.p false (.int .i64) n,[],True)
   | .str=>if isStr x then some (.p false (.int .i64) n,[],True)else none
   | _=>none
  | none=>none
 | none=>none
def mK(tb:bU)(new:Nat)(t:TypeId)(x y:ag)(h:Nat→Qz):Qk :=
 match hN tb t with
 | some (e,j,A)=>match fb h A y with
  | some f=>match x with
   | .nils=>some (.sl new,[(new,some (.arr e A f))],(([]:List A.den).length+f.length)*j.bytes≤140737488355328∧([]:List A.den).length+f.length≤9223372036854775807)
   | .sl id=>match h id with
    | some (.arr p B xs)=>if q:B=A then(if p=e then some (.sl new,[(id,none),(new,some (.arr e A ((q ▸ xs:List A.den)++f)))],((q ▸ xs:List A.den).length+f.length)*j.bytes≤140737488355328∧(q ▸ xs:List A.den).length+f.length≤9223372036854775807)else none)else none
    | some (.cutz B xs)=>if q:B=A then some (.sl new,[(new,some (.arr e A ((q ▸ xs:List A.den)++f)))],0<f.length∧((q ▸ xs:List A.den).length+f.length)*j.bytes≤140737488355328∧(q ▸ xs:List A.den).length+f.length≤9223372036854775807)else none
    | _=>none
   | _=>none
  | none=>none
 | none=>none
def qI(tb:bU)(t:TypeId)(x y:ag)(h:Nat→Qz):Qk :=
 match hN tb t with
 | some (_,_,A)=>match fb h A y with
  | some e=>match x with
   | .sl id=>match h id with
    | some (.arr f B xs)=>if q:B=A then some (.p false (.int .i64) ((min e.length (q ▸ xs:List A.den).length:Nat):Int),[(id,some (.arr f A (e.take (q ▸ xs:List A.den).length++(q ▸ xs:List A.den).drop e.length)))],True)else none
    | _=>none
   | _=>none
  | none=>none
 | none=>none
def HB(P:Program)(f:TypeId)(e:TI):Option (Ty×Prop) :=
 match Ie e.k with
 | some K=>some (K,True)
 | none=>match e.T with
  | some K=>if K.scalar=false then some (K,hH P f K)else none
  | none=>none
def F6(P:Program)(tb:bU)(t:TypeId):Option (Ty×Ty×Prop) :=
 match tb.find t with
 | some ti=>match ti.k with
  | .mp e f=>match tb.find e,tb.find f with
   | some j,some p=>match HB P e j,p.T with
    | some (K,c),some A=>some (K,A,c)
    | _,_=>none
   | _,_=>none
  | _=>none
 | none=>none
def sK(K:Ty)(x:ag):Option K.den :=
 match x with
 | .p _ f i=>if q:f=K then(if K.scalar=true then some (q ▸ i)else none)else none
 | .agg e=>if K.scalar=false∧e.length=K.size then match iz K e with
  | some (k,_)=>some k
  | none=>none
  else none
 | .lag k n j []=>if q:Ty.arr k n=K then some (q ▸ (show(Ty.arr k n).den from j))else none
 | _=>none
def vw(P:Program)(tb:bU)(new:Nat)(t:TypeId):Qk :=
 match F6 P tb t with
 | some (K,A,c)=>some (.mp new,[(new,some (.mpo K A []))],c)
 | none=>none
def mG(P:Program)(tb:bU)(t:TypeId)(x k:ag)(ok:Bool)(h:Nat→Qz):Qk :=
 match F6 P tb t with
 | some (K,A,c)=>match x with
  | .mp id=>match h id with
   | some (.mpo e f j)=>match sK e k with
    | some i=>if e=K∧f=A then
     some (if ok then .tup [enc false f ((bg e j i).getD f.zero),.p false .bool (bg e j i).isSome]else enc false f ((bg e j i).getD f.zero),[],c)else none
    | none=>none
   | _=>none
  | _=>none
 | none=>none
def fK(P:Program)(tb:bU)(t:TypeId)(x k y:ag)(h:Nat→Qz):Qk :=
 match F6 P tb t with
 | some (K,A,c)=>match x with
  | .mp id=>match h id with
   | some (.mpo e f q)=>match sK e k with
    | some i=>if e=K∧f=A∧(cellsOf y).all ag.cell=true∧kz f y=true then
     match Fa f h y with
     | some (z,j)=>if j.all (fun p=>p.1 != id)then some (.unk,j++[(id,some (.mpo e f (cO e q i z)))],c)else none
     | none=>none
     else none
    | none=>none
   | _=>none
  | _=>none
 | none=>none
def FC(P:Program)(tb:bU)(t:TypeId):Option (Ty×Prop) :=
 match tb.find t with
 | some ti=>match ti.k with
  | .mp e f=>match tb.find e,tb.find f with
   | some j,some p=>match p.T with
    | none=>HB P e j
    | some _=>none
   | _,_=>none
  | _=>none
 | none=>none
def Jb(tb:bU)(t:TypeId):ag :=
 match tb.find t with
 | some ti=>match ti.k with
  | .mp _ e=>match tb.find e with
   | some f=>zV f
   | none=> .unk
  | _=> .unk
 | none=> .unk
def tF(P:Program)(tb:bU)(new:Nat)(t:TypeId):Qk :=
 match FC P tb t with
 | some (K,c)=>some (.mp new,[(new,some (.mpl K []))],c)
 | none=>none
def valOf:ag→QW
 | .lit v=>some v
 | .fn f []=>some (.func (.func f) #[] #[])
 | .agg [.fn f []]=>some (.agg #[.func (.func f) #[] #[]])
 | _=>none
def ff(P:Program)(tb:bU)(t:TypeId)(x k y:ag)(h:Nat→Qz):Qk :=
 match FC P tb t with
 | some (K,c)=>match x with
  | .mp id=>match h id with
   | some (.mpl e f)=>match sK e k,valOf y with
    | some i,some v=>if e=K∧f.all (fun p=> !eI e p.1 i)=true then some (.unk,[(id,some (.mpl e (f++[(i,v)])))],c)else none
    | _,_=>none
   | _=>none
  | _=>none
 | none=>none
def kY(P:Program)(tb:bU)(t:TypeId)(g:QV)(x k:ag)(ok:Bool)(h:Nat→Qz):Qk :=
 match FC P tb t with
 | some (K,c)=>match x with
  | .mp id=>match h id with
   | some (.mpl e f)=>match sK e k,g with
    | some i,[j]=>if e=K∧ok=true then some (DX (Jb tb t) ((f[j]?).map (·.2)),[],c∧rO e f i j)else none
    | _,_=>none
   | _=>none
  | _=>none
 | none=>none
def sf(tb:bU)(t:TypeId)(x:ag)(h:Nat→Qz):Qk :=
 match tb.find t with
 | some ti=>match ti.k,x with
  | .mp _ _,.mp id=>match h id with
   | some (.mpo _ _ e)=>some (.p false (.int .i64) (e.length:Int),[],True)
   | _=>none
  | _,_=>none
 | none=>none
def DH(b:Bool)(x y:ag):Qk :=
 match x,y with
 | .p _ (.int k) i,.p _ (.int e) j=>if e=k then some (.p false (.int k) (if b then max (show Int from i) j else min (show Int from i) j),[],True)else none
 | _,_=>none
def LD:ag→Bool
 | .mp _=>true
 | _=>false
def yZ:Ty→List Ty
 | .unit=>[]
 | .prod a b=>yZ a++yZ b
 | .tree e f=>[.int e,.int f,.slice (.tree e f)]
 | T=>[T]
def sr:Ty→ag→ag
 | .slice A,.nils=> .p false (.slice A) []
 | .ptr A,.nilp=> .p false (.ptr A) none
 | _,x=>x
def l4:List Ty→List ag→List ag
 | T::Ts,c::cs=>sr T c::l4 Ts cs
 | _,cs=>cs
def Ck(T:Ty):ag→ag
 | .agg e=> .agg (l4 (yZ T) e)
 | x=>sr T x
def wI(tb:bU)(t:TypeId)(x:ag):ag :=
 match tb.find t with
 | some ti=>match ti.T with
  | some T=>Ck T x
  | none=>x
 | none=>x
def gY(tb:bU):List Bool→List TypeId→List ag→List ag
 | true::bs,t::ts,x::xs=>wI tb t x::gY tb bs ts xs
 | false::bs,_::ts,x::xs=>x::gY tb bs ts xs
 | _,_,xs=>xs
section
variable{P:Program}{Bw:Nat→Prop}{w0:cw P}{ρ:Nat→QW}{φ:Nat→Nat→Prop}{h:Nat→Qz}{w:World}{new:Nat}
theorem Hh(m:Mem Bw w0 ρ φ h w){o:Oper}{a:Act}{t:TypeId}{ti:TI}(ht:aN P t ti){e:Operand}{x:ag}(f:V (Fr (own φ h) Bw w) ρ x (a.eval e))(j:o.op = .load t e)
  {r:ag} {u:gZ} {c:Prop} (hd:mD ti x h=some (r,u,c)):Good P o a w (aF Bw w0 ρ φ h w new r u):=by
 unfold mD at hd;split at hd
 ·rename_i id b n i k hk;split at hd
  ·rename_i p hb;split at hd
   ·rename_i hn;split at hd
    ·rename_i l hl;cases hd;exact zf m ht hk f j hb hl hn
    ·cases hd
   ·cases hd
  ·cases hd
 ·cases hd
theorem Gc(m:Mem Bw w0 ρ φ h w){o:Oper}{a:Act}{t:TypeId}{ti:TI}(ht:aN P t ti){e f:Operand}{x y:ag}(j:V (Fr (own φ h) Bw w) ρ x (a.eval e))(p:V (Fr (own φ h) Bw w) ρ y (a.eval f))(q:o.op = .store t e f)
  {r:ag} {u:gZ} {c:Prop} (hd:kM ti x y h=some (r,u,c)):Good P o a w (aF Bw w0 ρ φ h w new r u):=by
 unfold kM at hd;split at hd
 ·rename_i id b n i β k v;split at hd
  ·rename_i z hb;split at hd
   ·rename_i hn;split at hd
    ·rename_i l hl;cases hd;exact w9 m ht hn.2 j p q hb hl hn.1
    ·cases hd
   ·cases hd
  ·cases hd
 ·cases hd
theorem EX{tb:bU}(m:Mem Bw w0 ρ φ h w)(f:cg P tb){o:Oper}{a:Act}{t:TypeId}{D io:Operand}{x i:ag}(B:V (Fr (own φ h) Bw w) ρ x (a.eval D))(hi:V (Fr (own φ h) Bw w) ρ i (a.eval io))(C:o.op = .indexAddr t D io)
  {r:ag} {u:gZ} {c:Prop} (hd:kL tb t x i h=some (r,u,c)) (hc:c):Good P o a w (aF Bw w0 ρ φ h w new r u):=by
 unfold kL at hd;split at hd
 ·rename_i ti ht;split at hd
  ·rename_i n e hk;split at hd
   ·rename_i J z;split at hd
    ·rename_i q;split at hd
     ·rename_i id j sz off β k E;split at hd
      ·rename_i I hb;cases hd;exact xe m (f.find ht) hk (f.find z) q B hb hi C hc
      ·cases hd
     ·rename_i id b N p β k E;cases hd;exact wG m (f.find ht) hk (f.find z) q B hi C hc
     ·cases hd
    ·split at hd
     ·rename_i q;split at hd
      ·rename_i id j sz off β k E;split at hd
       ·rename_i I hb;cases hd;exact uI m (f.find ht) hk (f.find z) q B hb hi C hc
       ·cases hd
      ·cases hd
     ·cases hd
   ·cases hd
  ·cases hd
 ·cases hd
theorem EW(m:Mem Bw w0 ρ φ h w)(hn:ρ new=none){o:Oper}{a:Act}{t:TypeId}{ti:TI}(ht:aN P t ti){C:Operand}{x:ag}(D:V (Fr (own φ h) Bw w) ρ x (a.eval C))(E:o.op = .load t C)
  {r:ag} {u:gZ} {c:Prop} (hd:lS new ti x h=some (r,u,c)) (hc:c):Good P o a w (aF Bw w0 ρ φ h w new r u):=by
 unfold lS at hd;split at hd
 ·rename_i id i sz off;split at hd
  ·rename_i f;obtain⟨rfl,rfl,hk⟩:=f;split at hd
   ·rename_i e J A p hi;cases hd;exact rq m hn ht hk D E hi hc
   ·rename_i e J A p k j hi;split at hd
    ·rename_i Y B Z L;split at hd
     ·rename_i q;subst q;split at hd
      ·rename_i M;subst M;simp only[Option.some.injEq,Prod.mk.injEq]at hd;obtain⟨rfl,rfl,rfl⟩:=hd;obtain⟨N,I⟩:=m.vS hi L;have O:=rq (new:=new) N hn ht hk (V.mono I (fun _ _ h=>h) D) E (aB _ _ _) (i:=i) (by rw[List.length_set];exact hc);exact fun K Q z=>O K Q fun v w' X=>z v w' (aF.Hb rfl I X)
      ·cases hd
     ·cases hd
    ·cases hd
   ·cases hd
  ·cases hd
 ·cases hd
theorem G4(m:Mem Bw w0 ρ φ h w){o:Oper}{a:Act}{t:TypeId}{ti:TI}(ht:aN P t ti){J L:Operand}{id i:Nat}(x:V (Fr (own φ h) Bw w) ρ (.adr id i 1 0) (a.eval J)){y:ag}(z:V (Fr (own φ h) Bw w) ρ y (a.eval L))(B:(cellsOf y).length=ti.size)
  (D:o.op = .store t J L) {e M:TypeId} {A:Ty} {p:List (List A.den)} {hole:Option (Nat×Nat)} (hi:h id=some (.mat e M A p hole)) {r:ag} {u:gZ} {c:Prop} (hd:ss id i e M A p hole y h=some (r,u,c)) (hc:c) :
  Good P o a w (aF Bw w0 ρ φ h w new r u):=by
 unfold ss at hd;split at hd
 ·rename_i rr;have f:ti.size=1:=B.symm;split at hd
  ·split at hd
   ·split at hd
    ·cases hd;exact oq m ht f x z D hi hc (fun k j e=>by cases e)
    ·rename_i k j;split at hd
     ·cases hd;exact oq m ht f x z D hi hc.2 (fun k' j' e=>by cases e;exact hc.1)
     ·rename_i e4 C ys N;split at hd
      ·rename_i q;subst q;split at hd
       ·rename_i O;obtain⟨rfl,_⟩:=O;simp only[Option.some.injEq,Prod.mk.injEq]at hd;obtain⟨rfl,rfl,rfl⟩:=hd;obtain⟨X,E⟩:=m.vS hi N;have Y:=oq (new:=new) X ht f (V.mono E (fun _ _ h=>h) x) (V.mono E (fun _ _ h=>h) z) D (aB _ _ _) (i:=i) (by rw[List.length_set];exact hc) (fun k j e=>by cases e);exact fun K Q I=>Y K Q fun v w' Z=>I v w' (aF.Hb rfl E Z)
       ·cases hd
      ·cases hd
     ·cases hd
   ·cases hd
  ·cases hd
 ·cases hd
theorem Ep(m:Mem Bw w0 ρ φ h w)(hn:ρ new=none){o:Oper}{a:Act}{t e:TypeId}{ti j:TI}(ht:aN P t ti)(hk:ti.k = .sl e)(f:aN P e j){A:Ty}(hT:j.T=some A)(I:0<A.size)
  {u co:Operand} (x:o.op = .makeSlice t u co) {β q:Bool} {J L:IntKind} {l c:Int} (hl:V (Fr (own φ h) Bw w) ρ (.p β (.int J) l) (a.eval u)) (hc:V (Fr (own φ h) Bw w) ρ (.p q (.int L) c) (a.eval co))
  (z:0≤l) (C:l≤c) (D:(j.bytes:Int)*c≤281474976710656) (E:c≤9223372036854775807) :
  Good P o a w (aF Bw w0 ρ φ h w new (.sl new) [(new,some (GS e j A l.toNat))]):=by
 have key:=wB (new:=new) m hn ht hk f hT I x hl hc z C D E;unfold GS;split
 ·rename_i B;split
  ·rename_i N M hz;split
   ·rename_i hB;exact yH m hn ht hk f hT hz hB x hl hc z C D E
   ·exact key
  ·exact key
 ·exact key
end
theorem Ay{F:Bool→Addr→Value→Prop}{ρ:Nat→QW}{T:Ty}{x:ag}{v:Value}(h:V F ρ x v):V F ρ (sr T x) v:=by
 unfold sr;split
 ·simp only[V]at h ⊢;exact⟨rfl,none,0,0,h.symm,⟨rfl,Nat.le_refl _⟩,fun i hi=>absurd hi (by simp)⟩
 ·simp only[V]at h ⊢;exact⟨rfl,h.symm⟩
 ·exact h
theorem vd{T:Ty}{x:ag}:ids (sr T x)=ids x:=by
 unfold sr;split <;> simp[ids]
theorem wu{F:Bool→Addr→Value→Prop}{ρ:Nat→QW}:∀ {Ts:List Ty} {e:List ag} {g:Nat→Value→Prop},VL F ρ e g→VL F ρ (l4 Ts e) g
 | [],e,g,h=>by cases e <;> exact h
 | T::Ts,[],g,h=>h
 | T::Ts,c::e,g,h=>by
  simp only[l4,VL]at h ⊢;obtain⟨⟨u,f,j⟩,p⟩:=h;exact⟨⟨u,f,Ay j⟩,wu p⟩
theorem oH:∀ {Ts:List Ty} {cs:List ag},(l4 Ts cs).length=cs.length
 | [],cs=>by cases cs <;> rfl
 | T::Ts,[]=>rfl
 | T::Ts,c::cs=>by simp[l4,oH (Ts:=Ts) (cs:=cs)]
theorem tB:∀ {Ts:List Ty} {cs:List ag},bz (l4 Ts cs)=bz cs
 | [],cs=>by cases cs <;> rfl
 | T::Ts,[]=>rfl
 | T::Ts,c::cs=>by simp[l4,bz,vd,tB (Ts:=Ts) (cs:=cs)]
theorem Gz{tb:bU}{t:TypeId}{F:Bool→Addr→Value→Prop}{ρ:Nat→QW}{x:ag}{v:Value}(h:V F ρ x v):V F ρ (wI tb t x) v:=by
 unfold wI;split
 ·split
  ·unfold Ck;split
   ·simp only[V]at h ⊢;obtain⟨f,e,j,hl⟩:=h;exact⟨f,e,by rw[oH];exact j,wu hl⟩
   ·exact Ay h
  ·exact h
 ·exact h
theorem Cl{tb:bU}{t:TypeId}{x:ag}:ids (wI tb t x)=ids x:=by
 unfold wI;split
 ·split
  ·unfold Ck;split
   ·simp only[ids,tB]
   ·exact vd
  ·rfl
 ·rfl
theorem jq{tb:bU}{F:Bool→Addr→Value→Prop}{ρ:Nat→QW}:∀ {f:List Bool} {j:List TypeId} {xs:List ag} {e:QY},iL F ρ xs e→iL F ρ (gY tb f j xs) e
 | true::f,t::j,x::xs,e,h=>by
  cases e with
  | nil=>exact h.elim
  | cons v e=>exact⟨Gz h.1,jq h.2⟩
 | false::f,t::j,x::xs,e,h=>by
  cases e with
  | nil=>exact h.elim
  | cons v e=>exact⟨h.1,jq h.2⟩
 | [],j,xs,e,h=>by simpa only [gY]using h
 | b::f,[],xs,e,h=>by cases b <;> simpa only [gY]using h
 | b::f,t::j,[],e,h=>by cases b <;> simpa only [gY]using h
theorem nk{tb:bU}:∀ {bs:List Bool} {ts:List TypeId} {xs:List ag},bz (gY tb bs ts xs)=bz xs
 | true::bs,t::ts,x::xs=>by simp only[gY,bz,Cl,nk (bs:=bs) (ts:=ts) (xs:=xs)]
 | false::bs,t::ts,x::xs=>by simp only[gY,bz,nk (bs:=bs) (ts:=ts) (xs:=xs)]
 | [],ts,xs=>by simp only[gY]
 | b::bs,[],xs=>by cases b <;> simp only[gY]
 | b::bs,t::ts,[]=>by cases b <;> simp only[gY]
def w7(h:Nat→Qz)(x:ag):Option (ag×gZ) :=
 match x with
 | .agg e=>match pM h e with
  | some (f,u)=>some (.agg f,u)
  | none=>none
 | x=>gf h x
def frzL(h:Nat→Qz):List Bool→List ag→Option (List ag×gZ)
 | _,[]=>some ([],[])
 | [],xs=>some (xs,[])
 | false::bs,x::xs=>match frzL h bs xs with
  | some (e,u)=>some (x::e,u)
  | none=>none
 | true::bs,x::xs=>match w7 h x with
  | some (y,u)=>match frzL (apply u h) bs xs with
   | some (e,j)=>some (y::e,u++j)
   | none=>none
  | none=>none
structure wF where
 r:ag
 fl:List Bool
 own:Bool
 cn:List Bool
 g:QV
 hout:Qw
 die:QW
def dieOf:Option wF→QW
 | some q=>q.die
 | none=>none
def wk(P:Program)(f:FuncId)(args:List ag)(hin:Qw)(q:wF):Prop :=
 match q.die with
 | none=>hY P f args hin q.r q.hout
 | some x=>jK P f args hin x
def MU:Option wF→QV
 | some q=>q.g
 | none=>[]
def Bf:ag→ag
 | .lit (.func (.func f) e j)=>if e.isEmpty && j.isEmpty then .fn f []else .unk
 | x=>x
def HC:Option wF→List Bool
 | some q=>q.cn
 | none=>[]
def uz(P:Program)(new:Nat)(iM:Option wF)(f:ag)(xs:List ag)(h:Nat→Qz):Qk :=
 match f,iM with
 | .fn fid e,some q=>match frzL h q.fl xs with
  | some (j,u) =>
   if q.own then
    if q.g.all (fun i=>(vE h (f::xs)).contains i)then
     match rK q.g (less q.g (apply u h)) (j++e),jU q.g (apply u h) 0 q.g with
     | some args,some hin=>if tI q.g q.hout q.r then some (lT (rS q.g new) q.r,u++uk q.g new q.hout,wk P fid args hin q)else none
     | _,_=>none
    else none
   else match nU (apply u h) (j++e)with
   | some args=>some (q.r,u,Pure P fid args q.r)
   | none=>none
  | none=>none
 | _,_=>none
def zy(asm:Option Bool)(c:ag)(s:Nat→ag)(x y:Operand):Qk :=
 match asm,c with
 | some b,.p _ .bool e=>some (ev s (if b then x else y),[],e=b)
 | none,.p _ .bool e=>match e with
  | true=>some (ev s x,[],True)
  | false=>some (ev s y,[],True)
 | _,_=>none
def D2(fn:Fn)(first:List Operand)(e:List ag):Qk :=
 match fn,first with
 | .func f,[]=>some (.fn f e,[],True)
 | _,_=>none
def qo(tb:bU)(new:Nat)(b:Builtin)(xs:List ag)(e:List TypeId)(h:Nat→Qz):Qk :=
 match b,xs,e with
 | .len,[x],[t]=>if LD x then sf tb t x h else CN tb t x h
 | .min,[x,y],_=>DH false x y
 | .max,[x,y],_=>DH true x y
 | .append,[x,y],[t,j]=>if t=j then mK tb new t x y h else none
 | .copy,[x,y],[t,_]=>qI tb t x y h
 | _,_,_=>none
def pA(P:Program)(tb:bU)(new:Nat)(iM:Option wF)(c:Call)(s:Nat→ag)(h:Nat→Qz):Qk :=
 match c.callee with
 | .builtin b=>qo tb new b (c.args.toList.map (ev s)) c.argTypes.toList h
 | .value f=>uz P new iM (Bf (ev s f)) (gY tb (HC iM) c.argTypes.toList (c.args.toList.map (ev s))) h
 | _=>none
def gV(P:Program)(tb:bU)(new:Nat)(asm:Option Bool)(iM:Option wF)(op:Op)(s:Nat→ag)(h:Nat→Qz):Qk :=
 match op with
 | .move x=>some (ev s x,[],True)
 | .assign x=>some (ev s x,[],True)
 | .pick c x y=>zy asm (ev s c) s x y
 | .alloc t=>Bx tb new t
 | .box _ x=>Hi new (ev s x)
 | .build t e=>oM tb t (e.toList.map (·.1)) (e.toList.map fun p=>ev s p.2)
 | .buildSlice t len e=>mn tb new t len (e.toList.map (·.1)) (e.toList.map fun p=>ev s p.2) h
 | .load t x=>yR tb new t (ev s x) h
 | .store t x y=>oz tb t (ev s x) (ev s y) h
 | .binOp op t x y _=>GY P tb op t (ev s x) (ev s y)
 | .nilCheck x=>FM (ev s x)
 | .unOp op _ x=>I4 op (ev s x)
 | .convert st u x=>match iM with
  | none=>yN tb st u (ev s x) h
  | some _=>AM tb new st u (ev s x)
 | .slice t x q hi none=>oL tb new t (ev s x) (pB s q) (pB s hi) h
 | .slice t x q (some hi) (some mx)=>match iM with
  | none=>sD tb t (ev s x) (pB s q) (ev s hi) (ev s mx) h
  | some _=>Cr tb new t (ev s x) (pB s q) (ev s hi) (ev s mx) h
 | .fieldAddr t x f=>AU tb t (ev s x) f
 | .indexAddr t x i=>match iY tb t (ev s x) (ev s i) h with
  | some r=>some r
  | none=>kL tb t (ev s x) (ev s i) h
 | .index t x i=>Bj tb t (ev s x) (ev s i)
 | .extract x i=>vm (ev s x) i
 | .typeAssert x _ t ok=>se P (ev s x) t ok
 | .makeFunc fn first j=>D2 fn first.toList (j.toList.map (ev s))
 | .makeSlice t l c=>D3 tb new t (ev s l) (ev s c)
 | .makeMap t none=>match vw P tb new t with
  | some r=>some r
  | none=>tF P tb new t
 | .lookup t x k ok=>match mG P tb t (ev s x) (ev s k) ok h with
  | some r=>some r
  | none=>kY P tb t (MU iM) (ev s x) (ev s k) ok h
 | .mapUpdate t x k y=>match fK P tb t (ev s x) (ev s k) (ev s y) h with
  | some r=>some r
  | none=>ff P tb t (ev s x) (ev s k) (ev s y) h
 | .insert t x k y=>match fK P tb t (ev s x) (ev s k) (ev s y) h with
  | some r=>some r
  | none=>ff P tb t (ev s x) (ev s k) (ev s y) h
 | .call c=>pA P tb new iM c s h
 | _=>none
section
variable{P:Program}{tb:bU}{Bw:Nat→Prop}{w0:cw P}{ρ:Nat→QW}{φ:Nat→Nat→Prop}{h:Nat→Qz}{w:World}{new:Nat}{n:NS}{s:Nat→ag}{a:Act}
theorem ca(f:cg P tb){t e:TypeId}{j:TI}{A:Ty}(h:hN tb t=some (e,j,A)):∃ti,aN P t ti∧tb.find t=some ti∧ti.k = .sl e∧aN P e j∧j.T=some A∧0<A.size:=by
 unfold hN at h;split at h
 ·rename_i ti p;split at h
  ·rename_i C q;split at h
   ·rename_i u x;split at h
    ·rename_i D z;split at h
     ·rename_i B;cases h;exact⟨ti,f.find p,p,q,f.find x,z,B⟩
     ·cases h
    ·cases h
   ·cases h
  ·cases h
 ·cases h
theorem nF(f:cg P tb){t:TypeId}{K A:Ty}{c:Prop}(h:F6 P tb t=some (K,A,c))(hc:c):∃ti j p q,aN P t ti∧ti.k = .mp j p∧hH P j K∧aN P p q∧q.T=some A:=by
 unfold F6 at h;split at h
 ·rename_i ti u;split at h
  ·rename_i j p x;split at h
   ·rename_i E q z B;split at h
    ·rename_i I J L e C;cases h;refine⟨ti,j,p,q,f.find u,x,?_,f.find B,C⟩;unfold HB at e;split at e
     ·rename_i M D;cases e;exact hH.D6 (f.find z) D
     ·split at e
      ·split at e
       ·cases e;exact hc
       ·cases e
      ·cases e
    ·cases h
   ·cases h
  ·cases h
 ·cases h
theorem m8(e:cg P tb){t:TypeId}{K:Ty}{c:Prop}(h:FC P tb t=some (K,c))(hc:c):∃ti f j p,aN P t ti∧ti.k = .mp f j∧hH P f K∧aN P j p∧Jb tb t=zV p:=by
 unfold FC at h;split at h
 ·rename_i ti q;split at h
  ·rename_i f j u;split at h
   ·rename_i C p z x;split at h
    ·refine⟨ti,f,j,p,e.find q,u,?_,e.find x,by simp[Jb,q,u,x]⟩;unfold HB at h;split at h
     ·rename_i D B;cases h;exact hH.D6 (e.find z) B
     ·split at h
      ·split at h
       ·cases h;exact hc
       ·cases h
      ·cases h
    ·cases h
   ·cases h
  ·cases h
 ·cases h
theorem tw{F:Bool→Addr→Value→Prop}{ρ:Nat→QW}{x:ag}{v u:Value}(h:valOf x=some v)(f:V F ρ x u):u=v:=by
 unfold valOf at h;split at h
 ·cases h;simpa only [V]using f
 ·cases h;simp only[V]at f;obtain⟨j,e,p,_⟩:=f;have:j = #[]:=Array.eq_empty_of_size_eq_zero (by simpa using p);subst this;exact e
 ·cases h;simp only[V,VL]at f;obtain⟨j,rfl,p,⟨J,q,z,rfl,B,_⟩,_⟩:=f;have C:z = #[]:=Array.eq_empty_of_size_eq_zero (by simpa using B);subst C;have D:j = #[.func (.func _) #[] #[]]:=Array.ext (by simpa using p) (fun i E I=>by
   have:i=0:=by simp at I;omega
   subst this;simpa [Array.getElem?_eq_getElem E]using q)
  rw[D]
 ·cases h
theorem vp{F:Bool→Addr→Value→Prop}{ρ:Nat→QW}{x:ag}{u:Value}(e:V F ρ x u):V F ρ (Bf x) u:=by
 unfold Bf;split
 ·rename_i f j p;split
  ·rename_i hc;simp only[Bool.and_eq_true,Array.isEmpty_iff]at hc;obtain⟨rfl,rfl⟩:=hc;simp only[V]at e ⊢;exact⟨#[],e,rfl,by simp only[VL]⟩
  ·trivial
 ·exact e
theorem AR{x:ag}:∀i∈ids (Bf x),i∈ids x:=by
 unfold Bf;split
 ·split
  ·intro i hi;simp[ids,bz]at hi
  ·intro i hi;simp[ids]at hi
 ·exact fun i hi=>hi
theorem gG{F:Bool→Addr→Value→Prop}{ρ:Nat→QW}{K:Ty}{x:ag}{k:K.den}{v:Value}(h:sK K x=some k)(e:K.isKey=true)(f:V F ρ x v):v=aS K k:=by
 unfold sK at h;split at h
 ·rename_i β I i;split at h
  ·rename_i q;subst q;split at h
   ·rename_i p;cases h;exact rj e p f
   ·cases h
  ·cases h
 ·rename_i J;split at h
  ·rename_i p;split at h
   ·rename_i L r hu;cases h;simp only[V]at f;obtain⟨z,rfl,B,C⟩:=f;obtain⟨D,M,N⟩:=cQ hu C;rw[jy e p.1];congr 1;refine Array.ext_getElem? fun i=>?_
    rw[List.getElem?_toArray,←Array.getElem?_toList];rcases Nat.lt_or_ge i K.size with hi | hi
    ·have:=j5 (l:=z.toList) (o:=0) e (ah.mono (fun _ _ h=>h) (fun j u E=>by rw[Nat.zero_add,Array.getElem?_toList];exact E) D) i hi;rw[Nat.zero_add]at this;exact this
    ·rw[List.getElem?_eq_none (by rw[Array.length_toList,B,p.2];exact hi)];rw[List.getElem?_eq_none (by rw[da e];exact hi)]
   ·cases h
  ·cases h
 ·rename_i O X xs;split at h
  ·rename_i q;subst q;cases h;simp only[V]at f;obtain⟨z,rfl,hl,-⟩:=f;rw[jy e rfl];cases z with
   | nil=>simp[cJ]
   | cons _ _=>simp at hl
  ·cases h
 ·cases h
theorem qf{F:Bool→Addr→Value→Prop}(j:eT n F ρ s a){f:Option Operand}{l:Option Int}(h:pB s f=some l):sG F ρ a f l:=by
 unfold pB at h;cases f with
 | none=>cases h;trivial
 | some x =>
  simp only at h;split at h
  ·rename_i β k m e;cases h;have:=aV j x;rw[e]at this;exact⟨_,_,this⟩
  ·cases h
theorem lL{F:Bool→Addr→Value→Prop}{x:ag}{n:Int}(h:intOf x=some n){v:Value}(e:V F ρ x v):∃β k,V F ρ (.p β (.int k) n) v:=by
 unfold intOf at h;split at h
 ·cases h;exact⟨_,_,e⟩
 ·cases h
theorem CH(m:Mem Bw w0 ρ φ h w){x y:ag}{u:gZ}(hd:w7 h x=some (y,u)):
  Mem Bw w0 ρ φ (apply u h) w∧(∀β a v,Fr (own φ h) Bw w β a v→Fr (own φ (apply u h)) Bw w β a v)∧∀v,V (Fr (own φ h) Bw w) ρ x v→V (Fr (own φ (apply u h)) Bw w) ρ y v:=by
 unfold w7 at hd;split at hd
 ·split at hd
  ·rename_i D E j;cases hd;obtain⟨p,q,z,A⟩:=pa m j;refine⟨p,q,fun v f=>?_⟩;simp only[V]at f ⊢;obtain⟨B,e,C,hl⟩:=f;exact⟨B,e,by rw[z];exact C,A _ hl⟩
  ·cases hd
 ·exact gI m hd
theorem ng:∀ {q:List Bool} {xs j:List ag} {h:Nat→Qz} {u:gZ},Mem Bw w0 ρ φ h w→frzL h q xs=some (j,u) →
  Mem Bw w0 ρ φ (apply u h) w∧(∀β a v,Fr (own φ h) Bw w β a v→Fr (own φ (apply u h)) Bw w β a v)∧∀e,iL (Fr (own φ h) Bw w) ρ xs e→iL (Fr (own φ (apply u h)) Bw w) ρ j e
 | _,[],j,h,u,m,hd=>by
  simp only[frzL]at hd;cases hd;exact⟨m,fun _ _ _ h=>h,fun _ h=>h⟩
 | [],x::xs,j,h,u,m,hd=>by
  simp only[frzL]at hd;cases hd;exact⟨m,fun _ _ _ h=>h,fun _ h=>h⟩
 | false::q,x::xs,j,h,u,m,hd=>by
  simp only[frzL]at hd;split at hd
  ·rename_i z N B;cases hd;obtain⟨C,p,D⟩:=ng m B;refine⟨C,p,fun e f=>?_⟩;cases e with
   | nil=>exact f.elim
   | cons v e=>exact⟨V.mono p (fun _ _ h=>h) f.1,D e f.2⟩
  ·cases hd
 | true::q,x::xs,j,h,u,m,hd=>by
  simp only[frzL]at hd;split at hd
  ·rename_i y u1 B;split at hd
   ·rename_i z O I;cases hd;obtain⟨C,p,D⟩:=CH m B;obtain⟨J,E,L⟩:=ng C I;rw[eU];refine⟨J,fun β a v M=>E _ _ _ (p _ _ _ M),fun e f=>?_⟩;cases e with
    | nil=>exact f.elim
    | cons v e=>exact⟨V.mono E (fun _ _ h=>h) (D v f.1),L e (iL.mono p (fun _ _ h=>h) f.2)⟩
   ·cases hd
  ·cases hd
theorem wK{e:gZ}{i:Nat}(hu:e.all (fun p=>p.1 != i)=true):∀ {h:Nat→Qz},apply e h i=h i:=by
 induction e with
 | nil=>intro h;rfl
 | cons p e f =>
  intro h;obtain⟨j,o⟩:=p;simp only[List.all_cons,Bool.and_eq_true,bne_iff_ne,ne_eq]at hu;simp only[apply];rw[f hu.2,aQ _ _ (Ne.symm hu.1)]
theorem kE{F:Bool→Addr→Value→Prop}{x:ag}{b:Bool}(h:zo x=some b){u:Value}(hu:V F ρ x u):∃q,u = .pointer q∧q.isNone=b:=by
 cases x <;> simp only[zo]at h <;> first | (cases h;done) | skip
 ·cases h;simp only[V]at hu;exact⟨none,hu,rfl⟩
 ·cases h;simp only[V]at hu;obtain⟨g,_,e⟩:=hu;exact⟨_,e,rfl⟩
 ·cases h;simp only[V]at hu;obtain⟨f,e,_⟩:=hu;exact⟨_,e,rfl⟩
theorem yI(d:Nat){t e:TypeId}(h:P.underlying t=some (.pointer e))(q:Option Addr):(Op.equalIn (d+1) t (.pointer none) (.pointer q)).run P w = .ok q.isNone w:=by
 simp[Op.equalIn,run_underlying h]
theorem xg(d:Nat){t e:TypeId}(h:P.underlying t=some (.pointer e))(a:Addr):(Op.equalIn (d+1) t (.pointer (some a)) (.pointer none)).run P w = .ok false w:=by
 simp[Op.equalIn,run_underlying h]
theorem zk(d:Nat){t:TypeId}{e:Array (String×TypeId)}(h:P.underlying t=some (.interface e))(a:TypeId)(v:Value):(Op.equalIn (d+1) t (.iface a v) .nilIface).run P w = .ok false w:=by
 simp[Op.equalIn,run_underlying h]
theorem rG{F:Bool→Addr→Value→Prop}{op:BinOp}{b:Bool}{r:ag}(h:GW op b=some r){t:TypeId}{u v:Value}{xo yo:Operand}(f:(eqGuard op t xo yo u v).run P w = .ok () w)
  (j:(Op.equal t u v).run P w = .ok b w) (e:binOp .eql t u v=(do pure (.bool (←Op.equal t u v)))∧binOp .neq t u v=(do pure (.bool (!(←Op.equal t u v))))) :
  ∃z,(do eqGuard op t xo yo u v;binOp op t u v:Sem Value).run P w = .ok z w∧V F ρ r z:=by
 unfold GW at h;split at h <;> cases h
 ·exact⟨_,by rw[Sem.run_bind,f,Result.andThen_ok,e.1,Sem.run_bind,j];rfl,iV _ _⟩
 ·exact⟨_,by rw[Sem.run_bind,f,Result.andThen_ok,e.2,Sem.run_bind,j];rfl,iV _ _⟩
theorem AX{F:Bool→Addr→Value→Prop}{ti:TI}{op:BinOp}{t:TypeId}{x y r:ag}{us:gZ}{c:Prop}(h:Fh P ti op t x y=some (r,us,c))(hc:c){u v:Value}(hu:V F ρ x u)(p:V F ρ y v)(M N:Operand):
  us=[]∧∃z,(do eqGuard op t M N u v;binOp op t u v:Sem Value).run P w = .ok z w∧V F ρ r z:=by
 have ptr:∀ {b:Bool} {q j:Option Addr},u = .pointer q→v = .pointer j→(∃e,P.underlying t=some (.pointer e))→(q.isNone=true∧j.isNone=b∨q.isNone=false∧j.isNone=true∧b=false)→GW op b=some r →
   ∃z,(do eqGuard op t M N u v;binOp op t u v:Sem Value).run P w = .ok z w∧V F ρ r z:=fun {b q j} C D B hq f=>by
  subst C D;obtain⟨e,B⟩:=B;refine rG f (bL (by intro O e;cases e) (by intro e;cases e)) ?_ ⟨by cases q <;> cases j <;> rfl,by cases q <;> cases j <;> rfl⟩;unfold Op.equal Op.maxDepth;cases q with
  | none =>
   rcases hq with⟨_,X⟩ | ⟨Y,_⟩
   ·subst X;exact yI 9999 B j
   ·cases Y
  | some a =>
   rcases hq with⟨Y,_⟩ | ⟨_,X,q3⟩
   ·cases Y
   ·cases j with
    | none=>subst q3;exact xg 9999 B a
    | some _=>cases X
 unfold Fh at h;split at h
 ·rename_i O ds;split at h
  ·rename_i T hT;split at h
   ·rename_i a b ha hb;split at h
    ·rename_i J f;cases h;refine⟨rfl,?_⟩;simp only[V]at hu p;obtain⟨xs,rfl,sx,lx⟩:=hu;obtain⟨ys,rfl,sy,ly⟩:=p;obtain⟨a1,a2,a3⟩:=cQ ha lx;obtain⟨b1,b2,b3⟩:=cQ hb ly;have hl:∀l:List ag,([]:List ag)=l.drop T.size→T.size≤l.length→l.length=T.size:=fun l E L=>by have:=congrArg List.length E;simp only[List.length_nil,List.length_drop]at this;omega
     have B:=hc.2 w;have I:T.scalar=false:=hc.1.2;refine rG f (run_eqGuard_agg w op t M N xs ys hc.1.1) ?_ ⟨rfl,rfl⟩;refine B.2.2 (F false) a b _ _ ?_ ?_
     ·unfold nY;rw[I];simp only[Bool.false_eq_true,if_false];exact⟨xs,rfl,by rw[sx,hl O a2 a3],a1⟩
     ·unfold nY;rw[I];simp only[Bool.false_eq_true,if_false];exact⟨ys,rfl,by rw[sy,hl ds b2 b3],b1⟩
    ·cases h
   ·cases h
  ·cases h
 ·rename_i A q;split at h
  ·rename_i J f;cases h;simp only[V]at hu p;cases q with
   | none =>
    have e:u = .pointer none:=hu.2.symm;exact⟨rfl,ptr e p hc (.inl ⟨rfl,rfl⟩) f⟩
   | some y =>
    obtain⟨_,b,e,_⟩:=hu;exact⟨rfl,ptr e.symm p hc (.inr ⟨rfl,rfl,rfl⟩) f⟩
  ·cases h
 ·split at h
  ·rename_i b E L;split at h
   ·rename_i J f;cases h;obtain⟨q,C,D⟩:=kE E hu;obtain⟨j,Z,e4⟩:=kE L p;exact⟨rfl,ptr C Z hc (.inl ⟨D,e4⟩) f⟩
   ·cases h
  ·rename_i E L;split at h
   ·rename_i J f;cases h;obtain⟨q,C,D⟩:=kE E hu;obtain⟨j,Z,e4⟩:=kE L p;exact⟨rfl,ptr C Z hc (.inr ⟨D,e4,rfl⟩) f⟩
   ·cases h
  ·split at h
   ·split at h
    ·rename_i J f;cases h;simp only[V]at hu p;subst hu p;obtain⟨ms,a4⟩:=hc;refine⟨rfl,rG f (bL (by intro O e;cases e) (by intro e;cases e)) ?_ ⟨rfl,rfl⟩⟩;unfold Op.equal Op.maxDepth;exact zk 9999 a4 _ _
    ·cases h
   ·cases h
theorem AH(m:Mem Bw w0 ρ φ h w){o:Oper}{f:Operand}{p e:TypeId}{ok:Bool}(z:o.op = .typeAssert f p e ok){x:ag}(j:V (Fr (own φ h) Bw w) ρ x (a.eval f)){y:ag}{u:gZ}{c:Prop}
  (hd:se P x e ok=some (y,u,c)) (hc:c):Good P o a w (aF Bw w0 ρ φ h w new y u):=by
 unfold se at hd;split at hd
 ·rename_i t v;split at hd
  ·rename_i q;obtain⟨rfl,rfl⟩:=q;cases hd;obtain⟨d,hd,hi⟩:=hc;simp only[V]at j;refine Good.aG (v:= .tuple #[v,.bool true]) (w':=w) ?_ (aF.pure m ?_)
   ·simp only[execOp,z,j];simp only[Instr.typeAssert,Sem.run_bind,run_underlying hd,Result.andThen_ok];cases d <;> first | (simp at hi;done) | (simp;done)
   ·simp only[V,VL];exact⟨_,rfl,rfl,⟨v,by simp,Bs v⟩,⟨.bool true,by simp,by simp only[V,ah];exact⟨rfl,trivial⟩⟩,trivial⟩
  ·cases hd
 ·cases hd
theorem E8(C:cg P tb)(m:Mem Bw w0 ρ φ h w)(I:eT n (Fr (own φ h) Bw w) ρ s a)(cc:∀j,j<8→ρ (new+j)=none){o:Oper}{asm:Option Bool}{iM:Option wF}(ch:dieOf iM=none){x:ag}{u:gZ}{c:Prop}
  (hd:gV P tb new asm iM o.op s h=some (x,u,c)) (hc:c):Good P o a w (aF Bw w0 ρ φ h w new x u):=by
 have hn:ρ new=none:=cc 0 (by omega);unfold gV at hd;split at hd
 ·rename_i x' E;cases hd;exact xM m (aV I _) (.inl E)
 ·rename_i x' E;cases hd;exact xM m (aV I _) (.inr E)
 ·rename_i co D O E;unfold zy at hd;split at hd
  ·rename_i b β b' e;cases hd;subst hc;have:=aV I co;rw[e]at this;exact sF m this (aV I _) E
  ·rename_i β b' e;have:=aV I co;rw[e]at this;split at hd
   ·cases hd;exact sF (b:=true) m this (aV I _) E
   ·cases hd;exact sF (b:=false) m this (aV I _) E
  ·cases hd
 ·rename_i t E;unfold Bx at hd;split at hd
  ·rename_i ti ht;cases hd;exact CF m hn (C.find ht) E
  ·cases hd
 ·rename_i t D E;unfold Hi at hd;split at hd
  ·rename_i bs;cases hd;exact Hc m hn (aV I D) bs E _
  ·cases hd
 ·rename_i t ps E;unfold oM at hd;split at hd
  ·rename_i ti ht;split at hd
   ·rename_i fs hk;split at hd
    ·rename_i ds bv;cases hd;have:=jo I (ps.toList.map (·.2));simp only[List.map_map]at this;exact vg m C (C.find ht) hk E this bv
    ·cases hd
   ·rename_i n e hk;split at hd
    ·rename_i te a8;split at hd
     ·rename_i ds bv;cases hd;have:=jo I (ps.toList.map (·.2));simp only[List.map_map]at this;exact sY m C (C.find ht) hk (C.find a8) E this bv
     ·cases hd
    ·cases hd
   ·cases hd
  ·cases hd
 ·rename_i t len ps E;unfold mn at hd;split at hd
  ·rename_i e te A X;obtain⟨ti,L,_,M,N,h4,h5⟩:=ca C X;split at hd
   ·rename_i Y;split at hd
    ·rename_i ys us b3;cases hd;have:=jo I (ps.toList.map (·.2));simp only[List.map_map]at this;exact uc m hn L M N h4 h5 E Y.1 this (fun x J=>B0 ((List.all_eq_true.1 Y.2.1) x J)) b3 Y.2.2
    ·cases hd
   ·cases hd
  ·cases hd
 ·rename_i t D E;unfold yR at hd;split at hd
  ·rename_i ti ht;split at hd
   ·rename_i cs off c' d1;split at hd
    ·rename_i y hy;cases hd;exact EN m (C.find ht) (aV I D) E d1 hc hy
    ·cases hd
   ·split at hd
    ·rename_i r0 bx;cases hd;exact Hh m (C.find ht) (aV I D) E bx
    ·exact EW m hn (C.find ht) (aV I D) E hd hc
  ·cases hd
 ·rename_i t D O E;unfold oz at hd;split at hd
  ·rename_i ti ht;split at hd
   ·rename_i Y;split at hd
    ·rename_i id i sz off ex;have J:=aV I D;rw[ex]at J;split at hd
     ·rename_i cs hi;split at hd
      ·rename_i cl;cases hd;exact uR m (C.find ht) J (aV I O) Y.1 E hi Y.2 cl
      ·cases hd
     ·rename_i e A xs hi;split at hd
      ·rename_i ax;split at hd
       ·rename_i z us hz;split at hd
        ·rename_i b5;cases hd;rw[ax.1]at J;exact wi m (C.find ht) J (aV I O) Y.1 E hz hi (by rw[wK b5];exact hi) Y.2 ax.2 hc
        ·cases hd
       ·cases hd
      ·cases hd
     ·rename_i e e2 A dm hole hi;split at hd
      ·rename_i ax;obtain⟨rfl,rfl⟩:=ax;exact G4 m (C.find ht) J (aV I O) Y.2 E hi hd hc
      ·cases hd
     ·rename_i e xs hi;split at hd
      ·rename_i ax;obtain⟨rfl,rfl,d2⟩:=ax;split at hd
       ·rename_i β v ey;have hy:=aV I O;rw[ey]at hy;cases hd;exact sJ m (C.find ht) d2 J hy E hi hc
       ·cases hd
      ·cases hd
     ·cases hd
    ·exact Gc m (C.find ht) (aV I D) (aV I O) E hd
   ·cases hd
  ·cases hd
 ·rename_i op t D O t' E;unfold GY at hd;split at hd
  ·rename_i ti ht;split at hd
   ·rename_i r c' hr;cases hd;obtain⟨z,L,M⟩:=EY (P:=P) (w:=w) (C.find ht) hr hc (aV I D) (aV I O) D O;exact Good.aG (v:=z) (w':=w) (by simp only[execOp,E];rw[Sem.run_bind,L];rfl) (aF.pure m M)
   ·obtain⟨hu,z,L,M⟩:=AX (P:=P) (w:=w) hd hc (aV I D) (aV I O) D O;subst hu;exact Good.aG (v:=z) (w':=w) (by simp only[execOp,E];rw[Sem.run_bind,L];rfl) (aF.pure m M)
  ·cases hd
 ·rename_i D E;have J:=aV I D;unfold FM at hd;split at hd
  ·rename_i id i sz off ex;cases hd;rw[ex]at J;obtain⟨g,L,M⟩:∃g,_∧a.eval D = .pointer (some ⟨g,i*sz+off,none⟩):=by simpa only [V]using J
   exact Good.aG (v:=a.eval D) (w':=w) (by simp only[execOp,E,M];rfl) (aF.pure m J)
  ·rename_i β cs off ex;cases hd;rw[ex]at J;obtain⟨ad,L,M⟩:∃ad:Addr,a.eval D = .pointer (some (ad.add off))∧_:=by simpa only [V]using J
   exact Good.aG (v:=a.eval D) (w':=w) (by simp only[execOp,E,L];rfl) (aF.pure m J)
  ·rename_i β A q ex;cases hd;rw[ex]at J;cases q with
   | none=>cases hc
   | some y =>
    obtain⟨_,b,e,hv⟩:_∧∃b:Addr,Value.pointer (some b)=a.eval D∧ah (Fr (own φ h) Bw w β) A y (fun k v=>Fr (own φ h) Bw w β (b.add k) v):=by simpa only [V,ah]using J
    refine Good.aG (v:=a.eval D) (w':=w) (by simp only[execOp,E,←e];rfl) (aF.pure m ?_);simp only[V,Option.getD_some];exact⟨b,by rw[←e];unfold Addr.add;simp,jB β A y _ hv⟩
  ·cases hd
 ·rename_i op t D E;unfold I4 at hd;split at hd
  ·rename_i r hr;cases hd;obtain⟨z,L,M⟩:=Gi (P:=P) (w:=w) hr (aV I D);exact Good.aG (v:=z) (w':=w) (by simp only[execOp,E];rw[Sem.run_bind,L];rfl) (aF.pure m M)
  ·cases hd
 ·rename_i st dt D E;split at hd
  ·unfold yN at hd;split at hd
   ·rename_i si b6;split at hd
    ·rename_i di b9;split at hd
     ·rename_i r hr;cases hd;obtain⟨dd,be,a6⟩:=(C.find b9).hu;unfold Ff at hr;split at hr
      ·rename_i β l ex;have J:=aV I D;rw[ex]at J;split at hr
       ·rename_i e hk;split at hr
        ·rename_i a2;cases hr;rw[hk]at a6;simp only[UK]at a6;subst a6;simp only[Ed]at a2;split at a2
         ·rename_i te a8;obtain⟨d,q1,q2⟩:=(C.find a8).hu;split at a2
          ·rename_i c2;rw[c2]at q2;simp only[UK]at q2;exact CC m (C.find b6) be (by rw[q1,q2]) E J
          ·cases a2
         ·cases a2
        ·cases hr
       ·cases hr
      ·rename_i β k n ex;have J:=aV I D;rw[ex]at J;split at hr
       ·rename_i hk;cases hr;rw[hk]at a6;simp only[UK]at a6;subst a6;exact Ee m (C.find b6) be E J
       ·cases hr
      ·cases hr
     split at hd
     ·rename_i a2;split at hd
      ·rename_i r hr;cases hd;obtain⟨z,L,M⟩:=CD (P:=P) m (C.find b6) (C.find b9) (fun e he=>by
        rw[he]at a2;simp only[Ed]at a2;split at a2
        ·rename_i te a8;obtain⟨d,q1,q2⟩:=(C.find a8).hu;split at a2
         ·rename_i hk;rw[hk]at q2;simp only[UK]at q2;rw[q1,q2]
         ·cases a2
        ·cases a2) hr (aV I D)
       exact Good.aG (v:=z) (w':=w) (by simp only[execOp,E];rw[Sem.run_bind,L];rfl) (aF.pure m M)
      ·cases hd
     ·cases hd
    ·cases hd
   ·cases hd
  ·unfold AM at hd;split at hd
   ·rename_i si b6;split at hd
    ·rename_i di b9;obtain⟨dd,be,a6⟩:=(C.find b9).hu;split at hd
     ·rename_i β l ex;have J:=aV I D;rw[ex]at J;split at hd
      ·rename_i e hk;split at hd
       ·rename_i a2;cases hd;rw[hk]at a6;simp only[UK]at a6;subst a6;simp only[Ed]at a2;split at a2
        ·rename_i te a8;obtain⟨d,q1,q2⟩:=(C.find a8).hu;split at a2
         ·rename_i c2;rw[c2]at q2;simp only[UK]at q2;exact Af m hn (C.find b6) be (by rw[q1,q2]) E J
         ·cases a2
        ·cases a2
       ·cases hd
      ·cases hd
     ·cases hd
    ·cases hd
   ·cases hd
 ·rename_i t D lo hi E;unfold oL at hd;split at hd
  ·rename_i ti ht;split at hd
   ·rename_i l r hl hr;have b1:=qf I hl;have a3:=qf I hr;have J:=aV I D;split at hd
    ·rename_i β str ex;rw[ex]at J;split at hd
     ·rename_i hk;cases hd;exact uQ m (C.find ht) hk E J b1 a3 hc.1 hc.2.1 hc.2.2
     ·cases hd
    ·rename_i β A xs ex;rw[ex]at J;split at hd
     ·rename_i _ _ B X;obtain⟨a9,L,aa,M,N,h4,h5⟩:=ca C X;split at hd
      ·rename_i ac;subst ac;cases hd;exact nT m L M N h4 E J b1 a3 hc.1 hc.2.1 hc.2.2
      ·cases hd
     ·cases hd
    ·rename_i id ex;rw[ex]at J;split at hd
     ·rename_i e A xs a4;split at hd
      ·rename_i _ _ _ X;obtain⟨a9,L,aa,M,N,h4,h5⟩:=ca C X;split at hd
       ·rename_i k;cases hd;cases lo with
        | some _=>exact b1.elim
        | none =>
         cases hi with
         | none=>exact a3.elim
         | some du =>
          obtain⟨β,kk,hv⟩:=a3;exact uW m hn L M N (A:=A) E a4 J hv hc.1 hc.2
       ·cases hd
      ·cases hd
     ·rename_i A xs a4;split at hd
      ·rename_i _ _ B X;obtain⟨a9,L,aa,M,N,h4,h5⟩:=ca C X;split at hd
       ·rename_i ac;subst ac;cases hd;obtain⟨u,q1,q2⟩:=m.ob id _ a4;simp only[V]at J;rw[J.1]at q1;cases q1;exact nT m L M N h4 E q2 b1 a3 hc.1 hc.2.1 hc.2.2
       ·cases hd
      ·cases hd
     ·cases hd
    ·rename_i ex;rw[ex]at J;split at hd
     ·rename_i _ _ A X;obtain⟨a9,L,aa,M,N,h4,h5⟩:=ca C X;cases hd;exact uL m L M N E J b1 a3 hc.1 hc.2.1 hc.2.2
     ·cases hd
    ·cases hd
   ·cases hd
  ·cases hd
 ·rename_i t D lo hi mx E;split at hd
  ·unfold sD at hd;split at hd
   ·rename_i _ _ B l r q X hl hr hq;obtain⟨a9,L,aa,M,N,h4,h5⟩:=ca C X;have b1:=qf I hl;obtain⟨d3,k1,a3⟩:=lL hr (aV I hi);obtain⟨d4,k2,bi⟩:=lL hq (aV I mx);have J:=aV I D;split at hd
    ·rename_i β A xs ex;rw[ex]at J;split at hd
     ·rename_i ac;subst ac;cases hd;exact tv m L M N h4 E J b1 a3 bi hc.1 hc.2.1 hc.2.2.1 hc.2.2.2
     ·cases hd
    ·rename_i id ex;rw[ex]at J;split at hd
     ·rename_i A xs a4;split at hd
      ·rename_i ac;subst ac;cases hd;obtain⟨u,q1,q2⟩:=m.ob id _ a4;simp only[V]at J;rw[J.1]at q1;cases q1;exact tv m L M N h4 E q2 b1 a3 bi hc.1 hc.2.1 hc.2.2.1 hc.2.2.2
      ·cases hd
     ·cases hd
    ·cases hd
   ·cases hd
  ·unfold Cr at hd;split at hd
   ·rename_i _ _ B r q X hl hr hq;obtain⟨a9,L,aa,M,N,h4,h5⟩:=ca C X;obtain⟨d3,k1,a3⟩:=lL hr (aV I hi);obtain⟨d4,k2,bi⟩:=lL hq (aV I mx);have J:=aV I D;have d5:lo=none:=by
     cases lo with
     | none=>rfl
     | some y =>simp only[pB]at hl;split at hl <;> cases hl
    subst d5;split at hd
    ·rename_i A xs u' ed;split at hd
     ·rename_i ac;subst ac;cases hd;obtain⟨c1,rfl,c3⟩:=hc;obtain⟨m',hF,hv⟩:=gI m ed;have:=yV (new:=new) m' hn L M N h4 E (hv _ J) (V.mono hF (fun _ _ h=>h) a3) (V.mono hF (fun _ _ h=>h) bi) c1 c3;exact fun K Q d6=>this K Q fun v w' hp=>d6 v w' (aF.after rfl hF hp)
     ·cases hd
    ·cases hd
   ·cases hd
 ·rename_i t D f E;unfold AU at hd;split at hd
  ·rename_i ti ht;split at hd
   ·rename_i fs hk;split at hd
    ·rename_i off ft hf;split at hd
     ·rename_i id i sz k ex;cases hd;exact ot m (C.find ht) (aV I D) E hk hf (.inl ⟨_,_,_,_,ex,rfl⟩)
     ·rename_i β cs k ex;cases hd;exact ot m (C.find ht) (aV I D) E hk hf (.inr ⟨_,_,_,ex,rfl⟩)
     ·cases hd
    ·cases hd
   ·cases hd
  ·cases hd
 ·rename_i t D io E;split at hd
  case h_2=>exact EX m C (aV I D) (aV I io) E hd hc
  rename_i r0 bx;cases hd;revert bx;intro hd;unfold iY at hd;split at hd
  ·rename_i e te A X;obtain⟨a9,L,aa,M,N,h4,h5⟩:=ca C X;split at hd
   ·rename_i β k i ei;split at hd
    ·rename_i y sz c' hy;split at hd
     ·rename_i ax;subst ax;cases hd;have hi:=aV I io;rw[ei]at hi;exact u9 m L M N (aV I D) hi E hy hc
     ·cases hd
    ·cases hd
   ·cases hd
  ·cases hd
 ·rename_i t D io E;unfold Bj at hd;split at hd
  ·rename_i ti ht;split at hd
   ·rename_i hk;split at hd
    ·rename_i β str c4 k i ex ei;cases hd;have J:=aV I D;have hi:=aV I io;rw[ex]at J;rw[ei]at hi;exact uP m (C.find ht) hk J hi E hc.1 hc.2
    ·cases hd
   ·rename_i n e hk;split at hd
    ·rename_i te a8;split at hd
     ·rename_i k d7;split at hd
      ·rename_i cs β k' j ex ei;split at hd
       ·rename_i hn;split at hd
        ·rename_i l hl;cases hd;have J:=aV I D;have hi:=aV I io;rw[ex]at J;rw[ei]at hi;exact xp m (C.find ht) hk (C.find a8) d7 J hl hn hi E hc
        ·cases hd
       ·cases hd
      ·cases hd
     ·cases hd
    ·cases hd
   ·cases hd
  ·cases hd
 ·rename_i D i E;unfold vm at hd;split at hd
  ·rename_i cs ex;split at hd
   ·rename_i y hy;cases hd;have J:=aV I D;rw[ex]at J;exact zr m J E hy
   ·cases hd
  ·cases hd
 ·rename_i D xt t ok E;exact AH m E (aV I D) hd hc
 ·rename_i fn first cp E
  unfold D2 at hd;split at hd
  ·rename_i f e;cases hd;have e':first = #[]:=Array.ext' e
   subst e';exact xw m E (jo I _)
  ·cases hd
 ·rename_i t lo co E;unfold D3 at hd;split at hd
  ·rename_i e te A X;obtain⟨a9,L,aa,M,N,h4,h5⟩:=ca C X;split at hd
   ·rename_i β k l c4 k' c' el ec;cases hd;have hl:=aV I lo;have cx:=aV I co;rw[el]at hl;rw[ec]at cx;exact Ep m hn L M N h4 h5 E hl cx hc.1 hc.2.1 hc.2.2.1 hc.2.2.2
   ·cases hd
  ·cases hd
 ·rename_i t E;split at hd
  ·rename_i r b4;cases hd;have hd:=b4;unfold vw at hd;split at hd
   ·rename_i K A c' hm;cases hd;obtain⟨ti,kt,et,te,L,M,N,h5,h6⟩:=nF C hm hc;exact zw m hn N.isKey E
   ·cases hd
  ·unfold tF at hd;split at hd
   ·rename_i K c' hm;cases hd;obtain⟨ti,kt,et,te,L,M,N,h5⟩:=m8 C hm hc;exact wM m hn N.isKey E
   ·cases hd
 ·rename_i t D ko ok E;split at hd
  ·rename_i r b4;cases hd;have hd:=b4;unfold mG at hd;split at hd
   ·rename_i K A c' hm;split at hd
    ·rename_i id ex;split at hd
     ·rename_i K1 A1 kv hi;split at hd
      ·rename_i i a5;split at hd
       ·rename_i q;obtain⟨rfl,rfl⟩:=q;cases hd;obtain⟨ti,kt,et,te,L,M,N,h5,h6⟩:=nF C hm hc;have J:=aV I D;have hk:=aV I ko;rw[ex]at J;exact AD m L M N h5 h6 E hi J (gG a5 N.isKey hk)
       ·cases hd
      ·cases hd
     ·cases hd
    ·cases hd
   ·cases hd
  ·unfold kY at hd;split at hd
   ·rename_i K c' hm;split at hd
    ·rename_i id ex;split at hd
     ·rename_i K1 kv hi;split at hd
      ·rename_i i j a5 _;split at hd
       ·rename_i q;obtain⟨rfl,rfl⟩:=q;cases hd;obtain⟨ti,kt,et,te,L,M,N,h5,hz⟩:=m8 C hm hc.1;have J:=aV I D;have hk:=aV I ko;rw[ex]at J;rw[←we hc.2,hz];exact yP m L M N h5 E hi J (gG a5 N.isKey hk)
       ·cases hd
      ·cases hd
     ·cases hd
    ·cases hd
   ·cases hd
 ·rename_i t D ko O E;split at hd
  ·rename_i r b4;cases hd;have hd:=b4;unfold fK at hd;split at hd
   ·rename_i K A c' hm;split at hd
    ·rename_i id ex;split at hd
     ·rename_i K1 A1 kv hi;split at hd
      ·rename_i i a5;split at hd
       ·rename_i q;obtain⟨rfl,rfl,c5,c6⟩:=q;split at hd
        ·rename_i z us hz;split at hd
         ·rename_i b5;cases hd;obtain⟨ti,kt,et,te,L,M,N,h5,h6⟩:=nF C hm hc;have J:=aV I D;have hk:=aV I ko;rw[ex]at J;exact lI m L M N (.inl E) hi (by rw[wK b5];exact hi) J (gG a5 N.isKey hk) (aV I O) c5 c6 hz
         ·cases hd
        ·cases hd
       ·cases hd
      ·cases hd
     ·cases hd
    ·cases hd
   ·cases hd
  ·unfold ff at hd;split at hd
   ·rename_i K c' hm;split at hd
    ·rename_i id ex;split at hd
     ·rename_i K1 kv hi;split at hd
      ·rename_i i v a5 c7;split at hd
       ·rename_i q;obtain⟨rfl,q2⟩:=q;cases hd;obtain⟨ti,kt,et,te,L,M,N,h5⟩:=m8 C hm hc;have J:=aV I D;have hk:=aV I ko;rw[ex]at J;refine nW m L M N (.inl E) hi J (gG a5 N.isKey hk) (tw c7 (aV I O)) (fun p hp e=>?_);have:=List.all_eq_true.1 q2 p hp;rw[(fu N.isKey).2 e]at this;cases this
       ·cases hd
      ·cases hd
     ·cases hd
    ·cases hd
   ·cases hd
 ·rename_i t D ko O E;split at hd
  ·rename_i r b4;cases hd;have hd:=b4;unfold fK at hd;split at hd
   ·rename_i K A c' hm;split at hd
    ·rename_i id ex;split at hd
     ·rename_i K1 A1 kv hi;split at hd
      ·rename_i i a5;split at hd
       ·rename_i q;obtain⟨rfl,rfl,c5,c6⟩:=q;split at hd
        ·rename_i z us hz;split at hd
         ·rename_i b5;cases hd;obtain⟨ti,kt,et,te,L,M,N,h5,h6⟩:=nF C hm hc;have J:=aV I D;have hk:=aV I ko;rw[ex]at J;exact lI m L M N (.inr E) hi (by rw[wK b5];exact hi) J (gG a5 N.isKey hk) (aV I O) c5 c6 hz
         ·cases hd
        ·cases hd
       ·cases hd
      ·cases hd
     ·cases hd
    ·cases hd
   ·cases hd
  ·unfold ff at hd;split at hd
   ·rename_i K c' hm;split at hd
    ·rename_i id ex;split at hd
     ·rename_i K1 kv hi;split at hd
      ·rename_i i v a5 c7;split at hd
       ·rename_i q;obtain⟨rfl,q2⟩:=q;cases hd;obtain⟨ti,kt,et,te,L,M,N,h5⟩:=m8 C hm hc;have J:=aV I D;have hk:=aV I ko;rw[ex]at J;refine nW m L M N (.inr E) hi J (gG a5 N.isKey hk) (tw c7 (aV I O)) (fun p hp e=>?_);have:=List.all_eq_true.1 q2 p hp;rw[(fu N.isKey).2 e]at this;cases this
       ·cases hd
      ·cases hd
     ·cases hd
    ·cases hd
   ·cases hd
 ·rename_i c E;obtain⟨callee,args,c8⟩:=c;unfold pA at hd;simp only at hd;split at hd
  ·rename_i b;unfold qo at hd;split at hd
   ·rename_i x0 t ex et;obtain⟨D,Z,rfl⟩:∃D,args = #[D]∧ev s D=x0:=by
     match a1:args.toList,ex with
     | [D],ex=>exact⟨D,Array.ext' a1,by simpa using ex⟩
    have b2:c8 = #[t]:=Array.ext' et;subst Z b2;split at hd
    ·unfold sf at hd;split at hd
     ·rename_i ti ht;split at hd
      ·rename_i kt et id hk ex;split at hd
       ·rename_i K A kv hi;cases hd;have J:=aV I D;rw[ex]at J;exact yQ m (C.find ht) hk hi J E
       ·cases hd
      ·cases hd
     ·cases hd
    unfold CN at hd;split at hd
    ·rename_i ti ht;split at hd
     ·rename_i k hk;split at hd
      ·rename_i e he;split at hd
       ·cases hd
       ·rename_i a7;cases hd;refine Bz m (C.find ht) (.inl ⟨e,he⟩) (aV I D) E hk ⟨fun h=>(by rw[he]at h;cases h),fun⟨β,str,ex⟩=>?_⟩;rw[ex]at a7;exact absurd rfl a7
      ·rename_i he;split at hd
       ·rename_i a7;cases hd;refine Bz m (C.find ht) (.inr he) (aV I D) E hk ⟨fun _=>?_,fun _=>he⟩;unfold isStr at a7;split at a7
        ·rename_i β str ex;exact⟨β,str,ex⟩
        ·cases a7
       ·cases hd
      ·cases hd
     ·cases hd
    ·cases hd
   ·rename_i x0 y0 ex;obtain⟨D,O,Z,rfl,rfl⟩:∃D O,args = #[D,O]∧ev s D=x0∧ev s O=y0:=by
     match a1:args.toList,ex with
     | [D,O],ex=>exact⟨D,O,Array.ext' a1,by simp at ex;exact ex.1,by simp at ex;exact ex.2⟩
    subst Z;unfold DH at hd;split at hd
    ·rename_i β k i c4 k' j ex ey;split at hd
     ·rename_i c9;subst c9;cases hd;have J:=aV I D;have hy:=aV I O;rw[ex]at J;rw[ey]at hy;exact Ga m J hy E
     ·cases hd
    ·cases hd
   ·rename_i x0 y0 ex;obtain⟨D,O,Z,rfl,rfl⟩:∃D O,args = #[D,O]∧ev s D=x0∧ev s O=y0:=by
     match a1:args.toList,ex with
     | [D,O],ex=>exact⟨D,O,Array.ext' a1,by simp at ex;exact ex.1,by simp at ex;exact ex.2⟩
    subst Z;unfold DH at hd;split at hd
    ·rename_i β k i c4 k' j ex ey;split at hd
     ·rename_i c9;subst c9;cases hd;have J:=aV I D;have hy:=aV I O;rw[ex]at J;rw[ey]at hy;exact Fl m J hy E
     ·cases hd
    ·cases hd
   ·rename_i x0 y0 t t' ex et;obtain⟨D,O,Z,rfl,rfl⟩:∃D O,args = #[D,O]∧ev s D=x0∧ev s O=y0:=by
     match a1:args.toList,ex with
     | [D,O],ex=>exact⟨D,O,Array.ext' a1,by simp at ex;exact ex.1,by simp at ex;exact ex.2⟩
    have b2:c8 = #[t,t']:=Array.ext' et;subst Z b2;split at hd
    ·rename_i d8;subst d8;unfold mK at hd;split at hd
     ·rename_i e te A X;obtain⟨a9,L,aa,M,N,h4,h5⟩:=ca C X;split at hd
      ·rename_i ys b3;split at hd
       ·rename_i ex;cases hd;exact tV m hn L M N h4 h5 (aV I D) (aV I O) E (xs:=[]) (.inl ⟨ex,rfl,rfl,rfl⟩) b3 hc.1 hc.2
       ·rename_i id ex;split at hd
        ·rename_i e' B xs a4;split at hd
         ·rename_i b7;subst b7;split at hd
          ·rename_i d9;subst d9;simp only[Option.some.injEq,Prod.mk.injEq]at hd;obtain⟨rfl,rfl,rfl⟩:=hd;exact tV m hn L M N h4 h5 (aV I D) (aV I O) E (xs:=xs) (.inr ⟨id,ex,a4,rfl,rfl⟩) b3 hc.1 hc.2
          ·cases hd
         ·cases hd
        ·rename_i B xs a4;split at hd
         ·rename_i b7;subst b7;simp only[Option.some.injEq,Prod.mk.injEq]at hd;obtain⟨rfl,rfl,rfl⟩:=hd;have J:=aV I D;rw[ex]at J;exact vI m hn L M N h4 h5 J (aV I O) E a4 b3 hc.1 hc.2.1 hc.2.2
         ·cases hd
        ·cases hd
       ·cases hd
      ·cases hd
     ·cases hd
    ·cases hd
   ·rename_i x0 y0 t t' ex et;obtain⟨D,O,Z,rfl,rfl⟩:∃D O,args = #[D,O]∧ev s D=x0∧ev s O=y0:=by
     match a1:args.toList,ex with
     | [D,O],ex=>exact⟨D,O,Array.ext' a1,by simp at ex;exact ex.1,by simp at ex;exact ex.2⟩
    have b2:c8 = #[t,t']:=Array.ext' et;subst Z b2;unfold qI at hd;split at hd
    ·rename_i e te A X;obtain⟨a9,L,aa,M,N,h4,h5⟩:=ca C X;split at hd
     ·rename_i ys b3;split at hd
      ·rename_i id ex;split at hd
       ·rename_i e' B xs a4;split at hd
        ·rename_i b7;subst b7;simp only[Option.some.injEq,Prod.mk.injEq]at hd;obtain⟨rfl,rfl,rfl⟩:=hd;have J:=aV I D;rw[ex]at J;exact Ey m L M N h4 J (aV I O) E a4 b3
        ·cases hd
       ·cases hd
      ·cases hd
     ·cases hd
    ·cases hd
   ·cases hd
  ·rename_i fo;unfold uz at hd;split at hd
   ·rename_i fid cp q ef;split at hd
    ·rename_i ys u' de;have hf:=vp (aV I fo);rw[ef]at hf;obtain⟨q1,q2,q3⟩:=ng m de;split at hd
     ·split at hd
      ·split at hd
       ·rename_i b8 hin hl hi;split at hd
        ·rename_i dk;cases hd;have hc:hY P fid b8 hin q.r q.hout:=by unfold wk at hc;rw[show q.die=none from ch]at hc;exact hc
         have hg:=Gv (new:=new) q1 cc E (V.mono q2 (fun _ _ h=>h) hf) (q3 _ (jq (jo I args.toList))) hl hi dk hc;refine fun K Q hk=>hg K Q fun v w' hp=>hk v w' ?_
         exact aF.after (h:=h) (u1:=u') rfl q2 hp
        ·cases hd
       ·cases hd
      ·cases hd
     ·split at hd
      ·rename_i b8 hl;cases hd;have hg:=Ew (new:=new) q1 E (V.mono q2 (fun _ _ h=>h) hf) (q3 _ (jq (jo I args.toList))) hl hc;refine fun K Q hk=>hg K Q fun v w' hp=>hk v w' ?_
       have:=aF.after (h:=h) (u1:=u) rfl q2 hp;simpa using this
      ·cases hd
    ·cases hd
   ·cases hd
  ·cases hd
 ·cases hd
def IY:ag→Bool
 | .unk=>true
 | _=>false
def dying(op:Op)(iM:Option wF):QW :=
 match op,iM with
 | .call c,some q=>match c.callee with
  | .value _=>if q.own && IY q.r && q.hout.isEmpty then q.die else none
  | _=>none
 | _,_=>none
theorem Hq(m:Mem Bw w0 ρ φ h w)(J:eT n (Fr (own φ h) Bw w) ρ s a)(D:∀j,j<8→ρ (new+j)=none){o:Oper}{asm:Option Bool}{iM:Option wF}{y:Value}(e:dying o.op iM=some y){x:ag}{u:gZ}{c:Prop}
  (hd:gV P tb new asm iM o.op s h=some (x,u,c)) (hc:c):Ki P o a w y (fun E=>∃v,aF Bw w0 ρ φ h w new .unk u v E):=by
 unfold dying at e;split at e
 ·rename_i c0 q L;split at e
  ·rename_i X A;split at e
   ·rename_i f;simp only[Bool.and_eq_true,List.isEmpty_iff]at f;obtain⟨⟨B,p⟩,hout⟩:=f;obtain⟨callee,args,Y⟩:=c0;simp only at A;subst A;have Z:q.r = .unk:=by
     unfold IY at p;split at p
     ·assumption
     ·cases p
    rw[L]at hd;simp only[gV,pA]at hd;unfold uz at hd;split at hd
    ·rename_i fid M q' ef eq;cases eq;split at hd
     ·rename_i ys u' I;have N:=vp (aV J X);rw[ef]at N;obtain⟨q1,O,q3⟩:=ng m I;rw[if_pos B]at hd;split at hd
      ·split at hd
       ·rename_i z hin hl hi;split at hd
        ·rename_i C;cases hd;rw[Z,hout]at C;have hc:jK P fid z hin y:=by unfold wk at hc;rw[e]at hc;exact hc
         have hg:=It (new:=new) q1 D L (V.mono O (fun _ _ h=>h) N) (q3 _ (jq (jo J args.toList))) hl hi C hc;refine fun K Q hk=>hg K Q fun E ⟨v,hp⟩=>hk E ⟨v,?_⟩
         rw[hout];exact aF.after (h:=h) (u1:=u') rfl O hp
        ·cases hd
       ·cases hd
      ·cases hd
     ·cases hd
    ·cases hd
   ·cases e
  ·cases e
 ·cases e
end
end Go.Tv
