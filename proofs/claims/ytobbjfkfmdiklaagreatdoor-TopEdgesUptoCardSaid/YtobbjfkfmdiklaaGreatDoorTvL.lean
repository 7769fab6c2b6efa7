import Derived.Test.YtobbjfkfmdiklaaGreatDoorTvKhm
namespace Go.Tv
open Go Go.RowKit
def pM(s:Nat→ag):Option Operand→Option (Option Int)
 | none=>some none
 | some x=>match ev s x with
  | .p _ (.int _) n=>some (some n)
  | _=>none
def gY(tb:bT)(t:TypeId):Option (TypeId×TI×Ty) :=
 match tb.find t with
 | some ti=>match ti.k with
  | .sl e=>match tb.find e with
   | some j=>match j.T with
    | some A=>if 0<A.size then some (e,j,A)else none
    | none=>none
   | none=>none
  | _=>none
 | none=>none
def Bz(tb:bT)(new:Nat)(t:TypeId):Qk :=
 match tb.find t with
 | some ti=>some (.adr new 0 ti.size 0,[(new,some (.box ti.z))],True)
 | none=>none
def Gr(new:Nat)(x:ag):Qk :=
 if(cellsOf x).all ag.cell then some (.adr new 0 (cellsOf x).length 0,[(new,some (.box (cellsOf x)))],True)else none
def o6(tb:bT)(t:TypeId)(p:QV)(xs:List ag):Qk :=
 match tb.find t with
 | some ti=>match ti.k with
  | .st q=>match parts tb q (p.zip xs) ti.z with
   | some j=>some (.agg j,[],True)
   | none=>none
  | .ar n e=>match tb.find e with
   | some u=>match parts tb ((List.range n).map fun i=>(i*u.size,e)) (p.zip xs) ti.z with
    | some j=>some (.agg j,[],True)
    | none=>none
   | none=>none
  | _=>none
 | none=>none
def mD(tb:bT)(new:Nat)(t:TypeId)(len:Nat)(j:QV)(xs:List ag)(h:Nat→Qz):Qk :=
 match gY tb t with
 | some (e,p,A) =>
  if j=List.range len∧xs.all ag.CT=true∧len*p.size≤16777216 then
   match BC A h xs with
   | some (q,u)=>some (.sl new,u++[(new,some (.arr e A q))],True)
   | none=>none
  else none
 | none=>none
def mN(ti:TI)(x:ag)(h:Nat→Qz):Qk :=
 match x,ti.k with
 | .ada id b n i,.int k=>match h id with
  | some (.box j)=>if b+n≤j.length then(match qQ k ((j.drop b).take n)with
   | some l=>some (.p false (.int k) (l.getD i 0),[],True)
   | none=>none)else none
  | _=>none
 | _,_=>none
def kT(ti:TI)(x y:ag)(h:Nat→Qz):Qk :=
 match x,y with
 | .ada id b n i,.p _ (.int k) v=>match h id with
  | some (.box j)=>if b+n≤j.length∧ti.size=1 then(match qQ k ((j.drop b).take n)with
   | some l=>some (.unk,[(id,some (.box (j.take b++wo k i v 0 l++j.drop (b+n))))],True)
   | none=>none)else none
  | _=>none
 | _,_=>none
def TK.Nh:TK→Bool
 | .st _=>true
 | _=>false
def kW(tb:bT)(t:TypeId)(x i:ag)(h:Nat→Qz):Qk :=
 match tb.find t with
 | some ti=>match ti.k with
  | .ar n e=>match tb.find e with
   | some q=>if q.size=1 then(match x,i with
    | .adr id j sz off,.p _ (.int _) m=>match h id with
     | some (.box _)=>some (.ada id (j*sz+off) n (show Int from m).toNat,[],0≤(show Int from m)∧(show Int from m)<(n:Int))
     | _=>none
    | .ada id b N p,.p _ (.int _) m=>some (.ada id b N (p+(show Int from m).toNat),[],(0≤(show Int from m)∧(show Int from m)<(n:Int))∧p+(show Int from m).toNat<N)
    | _,_=>none)else if 0<q.size then(match x,i with
    | .adr id j sz off,.p _ (.int _) m=>match h id with
     | some (.box _)=>if q.k.Nh=true then some (.adr id (show Int from m).toNat q.size (j*sz+off),[],0≤(show Int from m)∧(show Int from m)<(n:Int))else some (.ada id (j*sz+off) (n*q.size) ((show Int from m).toNat*q.size),[],0≤(show Int from m)∧(show Int from m)<(n:Int))
     | _=>none
    | _,_=>none)else none
   | none=>none
  | _=>none
 | none=>none
def l4(new:Nat)(ti:TI)(x:ag)(h:Nat→Qz):Qk :=
 match x with
 | .adr id i sz off=>if sz=1∧off=0∧ti.k.agg=false then
   match h id with
   | some (.mat e u A p none)=>some (.sl new,[(id,some (.mat e u A p (some (i,new)))),(new,some (.arr u A (p.getD i [])))],i<p.length)
   | some (.mat e u A p (some (k,j)))=>match h j with
    | some (.arr z B v)=>if q:B=A then(if z=u then
      some (.sl new,[(j,none),(id,some (.mat e u A (p.set k (q ▸ v:List A.den)) none))]++[(id,some (.mat e u A (p.set k (q ▸ v:List A.den)) (some (i,new)))),(new,some (.arr u A ((p.set k (q ▸ v:List A.den)).getD i [])))],i<p.length)else none)else none
    | _=>none
   | _=>none
  else none
 | _=>none
def zK(tb:bT)(new:Nat)(t:TypeId)(x:ag)(h:Nat→Qz):Qk :=
 match tb.find t with
 | some ti=>match mr h x with
  | some (j,off,c)=>match gq ti j off with
   | some y=>some (y,[],c)
   | none=>none
  | none=>match mN ti x h with
   | some r=>some r
   | none=>l4 new ti x h
 | none=>none
def sZ(id i:Nat)(e u:TypeId)(A:Ty)(p:List (List A.den))(hole:Option (Nat×Nat))(y:ag)(h:Nat→Qz):Qk :=
 match y with
 | .sl r=>match h r with
  | some (.arr x B _)=>if B=A∧x=u then
    match hole with
    | none=>some (.unk,[(id,some (.mat e u A p (some (i,r))))],i<p.length)
    | some (k,j)=>match h j with
     | none=>some (.unk,[(id,some (.mat e u A p (some (i,r))))],k=i∧i<p.length)
     | some (.arr z C v)=>if q:C=A then(if z=u∧j≠r then
       some (.unk,[(j,none),(id,some (.mat e u A (p.set k (q ▸ v:List A.den)) none))]++[(id,some (.mat e u A (p.set k (q ▸ v:List A.den)) (some (i,r))))],i<p.length)else none)else none
     | _=>none
   else none
  | _=>none
 | _=>none
def pe(tb:bT)(t:TypeId)(x y:ag)(h:Nat→Qz):Qk :=
 match tb.find t with
 | some ti =>
  if(cellsOf y).all ag.cell=true∧(cellsOf y).length=ti.size then
   match x with
   | .adr id i sz off=>match h id with
    | some (.box j)=>if i*sz+off+ti.size≤j.length then some (.unk,[(id,some (.box (wr j (i*sz+off) (cellsOf y))))],True)else none
    | some (.arr e A xs) =>
     if sz=A.size∧off+ti.size≤A.size then
      match A7 A h xs i off y with
      | some (z,q)=>if q.all (fun p=>p.1 != id)then some (.unk,q++[(id,some (.arr e A (xs.set i z)))],i<xs.length)else none
      | none=>none
     else none
    | some (.mat e e2 A xss hole)=>if sz=1∧off=0 then sZ id i e e2 A xss hole y h else none
    | some (.bytes e xs)=>if sz=1∧off=0∧ti.size=1 then(match y with
     | .p _ (.int .u8) v=>some (.unk,[(id,some (.bytes e (xs.set i v)))],i<xs.length)
     | _=>none)else none
    | _=>none
   | _=>kT ti x y h
  else none
 | none=>none
def Ij(x:ag):Qk :=
 match x with
 | .adr id i sz off=>some (.adr id i sz off,[],True)
 | .fad β j off=>some (.fad β j off,[],True)
 | .p β (.ptr A) q=>some (.fad β (flat β A (q.getD A.zero)) 0,[],q.isSome=true)
 | _=>none
def Al:ag→Option Bool
 | .nilp=>some true
 | .adr _ _ _ _=>some false
 | .fad _ _ _=>some false
 | _=>none
def Ig(op:BinOp)(b:Bool):Option ag :=
 match op with
 | .eql=>some (.p false .bool b)
 | .neq=>some (.p false .bool (!b))
 | _=>none
def G2(P:Program)(ti:TI)(op:BinOp)(t:TypeId)(x y:ag):Qk :=
 match x,y with
 | .agg j,.agg u=>match ti.T with
  | some T=>match iD T j,iD T u with
   | some (a,[]),some (b,[])=>match Ig op (Hg T a b)with
    | some r=>some (r,[],LD P t T)
    | none=>none
   | _,_=>none
  | none=>none
 | .p _ (.ptr _) q,.nilp=>match Ig op q.isNone with
  | some r=>some (r,[],∃e,P.underlying t=some (.pointer e))
  | none=>none
 | x,y=>match Al x,Al y with
  | some true,some b=>match Ig op b with
   | some r=>some (r,[],∃e,P.underlying t=some (.pointer e))
   | none=>none
  | some false,some true=>match Ig op false with
   | some r=>some (r,[],∃e,P.underlying t=some (.pointer e))
   | none=>none
  | _,_=>match x,y with
   | .lit (.iface _ _),.lit .nilIface=>match Ig op false with
    | some r=>some (r,[],∃v,P.underlying t=some (.interface v))
    | none=>none
   | _,_=>none
def ta(P:Program)(x:ag)(j:TypeId)(ok:Bool):Qk :=
 match x with
 | .lit (.iface t v)=>if t=j∧ok=true then some (.tup [zk v,.p false .bool true],[],∃d,P.underlying j=some d∧(match d with | .interface _=>false | _=>true)=true)else none
 | _=>none
def Hi(P:Program)(tb:bT)(op:BinOp)(t:TypeId)(x y:ag):Qk :=
 match tb.find t with
 | some ti=>match bin ti.k op x y with
  | some (r,c)=>some (r,[],c)
  | none=>G2 P ti op t x y
 | none=>none
def Ka(op:UnOp)(x:ag):Qk :=
 match un op x with
 | some r=>some (r,[],True)
 | none=>none
def FM(tb:bT)(k:TK):Bool :=
 match k with
 | .sl e=>match tb.find e with
  | some j=>match j.k with
   | .int .u8=>true
   | _=>false
  | none=>false
 | _=>true
def GU(tb:bT)(j:TK)(x:ag):Option ag :=
 match x with
 | .p _ .str l=>match j with
  | .sl e=>if FM tb (.sl e)then some (.p false (.slice (.int .u8)) (bZ l))else none
  | _=>none
 | .p _ (.int _) n=>match j with
  | .str=>some (.p false .str (GL n))
  | _=>none
 | _=>none
def zq(tb:bT)(st q:TypeId)(x:ag)(h:Nat→Qz):Qk :=
 match tb.find st with
 | some j=>match tb.find q with
  | some p=>match GU tb p.k x with
   | some r=>some (r,[],True)
   | none=>if FM tb j.k then(match conv j.k p.k h x with
    | some r=>some (r,[],True)
    | none=>none)else none
  | none=>none
 | none=>none
def AP(tb:bT)(new:Nat)(st j:TypeId)(x:ag):Qk :=
 match tb.find st with
 | some _=>match tb.find j with
  | some q=>match x with
   | .p _ .str l=>match q.k with
    | .sl e=>if FM tb (.sl e)then some (.sl new,[(new,some (.bytes e (bZ l)))],True)else none
    | _=>none
   | _=>none
  | none=>none
 | none=>none
def oY(tb:bT)(new:Nat)(t:TypeId)(x:ag)(j hi:Option (Option Int))(h:Nat→Qz):Qk :=
 match tb.find t with
 | some ti=>match j,hi with
  | some l,some r=>match x with
   | .p _ .str s=>match ti.k with
    | .str=>some (.p false .str ((s.take (r.getD s.length).toNat).drop (l.getD 0).toNat),[],0≤l.getD 0∧l.getD 0≤r.getD s.length∧r.getD s.length≤s.length)
    | _=>none
   | .p β (.slice A) xs=>match gY tb t with
    | some (_,_,B)=>if A=B then some (.p β (.slice A) ((xs.take (r.getD xs.length).toNat).drop (l.getD 0).toNat),[],0≤l.getD 0∧l.getD 0≤r.getD xs.length∧r.getD xs.length≤xs.length)else none
    | none=>none
   | .sl id=>match h id with
    | some (.arr e A xs)=>match gY tb t with
     | some (_,_,_)=>match l,r with
      | none,some k=>some (.sl new,[(id,none),(new,some (.arr e A (xs.take k.toNat)))],0≤k∧k≤xs.length)
      | _,_=>none
     | none=>none
    | some (.fz A xs)=>match gY tb t with
     | some (_,_,B)=>if A=B then some (.p false (.slice A) ((xs.take (r.getD xs.length).toNat).drop (l.getD 0).toNat),[],0≤l.getD 0∧l.getD 0≤r.getD xs.length∧r.getD xs.length≤xs.length)else none
     | none=>none
    | _=>none
   | .nils=>match gY tb t with
    | some (_,_,_)=>some (.nils,[],0≤l.getD 0∧l.getD 0≤r.getD 0∧r.getD 0≤0)
    | none=>none
   | _=>none
  | _,_=>none
 | none=>none
def intOf:ag→Option Int
 | .p _ (.int _) n=>some n
 | _=>none
def sY(tb:bT)(t:TypeId)(x:ag)(j:Option (Option Int))(hi mx:ag)(h:Nat→Qz):Qk :=
 match gY tb t,j,intOf hi,intOf mx with
 | some (_,_,B),some l,some r,some q=>match x with
  | .p β (.slice A) xs=>if A=B then some (.p β (.slice A) ((xs.take r.toNat).drop (l.getD 0).toNat),[],0≤l.getD 0∧l.getD 0≤r∧r≤q∧q≤xs.length)else none
  | .sl id=>match h id with
   | some (.fz A xs)=>if A=B then some (.p false (.slice A) ((xs.take r.toNat).drop (l.getD 0).toNat),[],0≤l.getD 0∧l.getD 0≤r∧r≤q∧q≤xs.length)else none
   | _=>none
  | _=>none
 | _,_,_,_=>none
def DW(tb:bT)(new:Nat)(t:TypeId)(x:ag)(j:Option (Option Int))(hi mx:ag)(h:Nat→Qz):Qk :=
 match gY tb t,j,intOf hi,intOf mx with
 | some (_,_,B),some none,some r,some q=>match gk h x with
  | some (.p false (.slice A) xs,u)=>if A=B then some (.sl new,u++[(new,some (.cutz A (xs.take r.toNat)))],0≤r∧r=q∧r≤xs.length)else none
  | _=>none
 | _,_,_,_=>none
def A5(tb:bT)(t:TypeId)(x:ag)(f:Nat):Qk :=
 match tb.find t with
 | some ti=>match ti.k with
  | .st j=>match j[f]? with
   | some (off,_)=>match x with
    | .adr id i sz k=>some (.adr id i sz (k+off),[],True)
    | .fad β p k=>some (.fad β p (k+off),[],True)
    | _=>none
   | none=>none
  | _=>none
 | none=>none
def jf(tb:bT)(t:TypeId)(x i:ag)(h:Nat→Qz):Qk :=
 match gY tb t with
 | some (_,j,_)=>match i with
  | .p _ (.int _) n=>match yN h x n with
   | some (y,sz,c)=>if sz=j.size then some (y,[],c)else none
   | none=>none
  | _=>none
 | none=>none
def Cw(tb:bT)(t:TypeId)(x i:ag):Qk :=
 match tb.find t with
 | some ti=>match ti.k with
  | .str=>match x,i with
   | .p _ .str s,.p _ (.int _) n=>some (.p false (.int .u8) ((s.getD n.toNat 0).toNat:Int),[],0≤n∧n<s.length)
   | _,_=>none
  | .ar n e=>match tb.find e with
   | some q=>match q.k with
    | .int k=>match x,i with
     | .agg j,.p _ (.int _) m=>if j.length=n then(match qQ k j with
      | some l=>some (.p false (.int k) (l.getD (show Int from m).toNat 0),[],0≤(show Int from m)∧(show Int from m)<(n:Int))
      | none=>none)else none
     | _,_=>none
    | .flt=>match x,i with
     | .agg j,.p _ (.int _) m=>if j.length=n then(match Ar j with
      | some l=>some (.p false .flt (l.getD (show Int from m).toNat none),[],0≤(show Int from m)∧(show Int from m)<(n:Int))
      | none=>none)else none
     | _,_=>none
    | _=>none
   | none=>none
  | _=>none
 | none=>none
def wC(x:ag)(i:Nat):Qk :=
 match x with
 | .tup j=>match j[i]? with
  | some y=>some (y,[],True)
  | none=>none
 | _=>none
def H7(e:TypeId)(j:TI)(A:Ty)(n:Nat):Obj :=
 match A with
 | .slice B=>match j.k,j.z with
  | .sl p,[.nils]=>if 0<B.size then .mat e p B (List.replicate n []) none else .arr e (.slice B) (List.replicate n [])
  | _,_=> .arr e (.slice B) (List.replicate n [])
 | A=> .arr e A (List.replicate n A.zero)
def Em(tb:bT)(new:Nat)(t:TypeId)(l c:ag):Qk :=
 match gY tb t with
 | some (e,j,A)=>match l,c with
  | .p _ (.int _) n,.p _ (.int _) k=>some (.sl new,[(new,some (H7 e j A n.toNat))],0≤n∧n≤k∧(j.bytes:Int)*k≤281474976710656∧k≤9223372036854775807)
  | _,_=>none
 | none=>none
def isStr:ag→Bool
 | .p _ .str _=>true
 | _=>false
def C8(tb:bT)(t:TypeId)(x:ag)(h:Nat→Qz):Qk :=
 match tb.find t with
 | some ti=>match lenOf h x with
  | some n=>match ti.k with
   | .sl _=>if isStr x then none else some (.p false (.int .i64) n,[],True)
   | .str=>if isStr x then some (.p false (.int .i64) n,[],True)else none
   | _=>none
  | none=>none
 | none=>none
def m9(tb:bT)(new:Nat)(t:TypeId)(x y:ag)(h:Nat→Qz):Qk :=
 match gY tb t with
 | some (e,p,A)=>match eZ h A y with
  | some j=>match x with
   | .nils=>some (.sl new,[(new,some (.arr e A j))],(([]:List A.den).length+j.length)*p.bytes≤140737488355328∧([]:List A.den).length+j.length≤9223372036854775807)
   | .sl id=>match h id with
    | some (.arr u B xs)=>if q:B=A then(if u=e then some (.sl new,[(id,none),(new,some (.arr e A ((q ▸ xs:List A.den)++j)))],((q ▸ xs:List A.den).length+j.length)*p.bytes≤140737488355328∧(q ▸ xs:List A.den).length+j.length≤9223372036854775807)else none)else none
    | some (.cutz B xs)=>if q:B=A then some (.sl new,[(new,some (.arr e A ((q ▸ xs:List A.den)++j)))],0<j.length∧((q ▸ xs:List A.den).length+j.length)*p.bytes≤140737488355328∧(q ▸ xs:List A.den).length+j.length≤9223372036854775807)else none
    | _=>none
   | _=>none
  | none=>none
 | none=>none
def rG(tb:bT)(t:TypeId)(x y:ag)(h:Nat→Qz):Qk :=
 match gY tb t with
 | some (_,_,A)=>match eZ h A y with
  | some j=>match x with
   | .sl id=>match h id with
    | some (.arr u B xs)=>if q:B=A then some (.p false (.int .i64) ((min j.length (q ▸ xs:List A.den).length:Nat):Int),[(id,some (.arr u A (j.take (q ▸ xs:List A.den).length++(q ▸ xs:List A.den).drop j.length)))],True)else none
    | _=>none
   | _=>none
  | none=>none
 | none=>none
def Jd(P:Program)(p:TypeId)(j:TI):Option (Ty×Prop) :=
 match Jo j.k with
 | some K=>some (K,True)
 | none=>match j.T with
  | some K=>if K.scalar=false then some (K,hY P p K)else none
  | none=>none
def IA(P:Program)(tb:bT)(t:TypeId):Option (Ty×Ty×Prop) :=
 match tb.find t with
 | some ti=>match ti.k with
  | .mp j p=>match tb.find j,tb.find p with
   | some q,some u=>match Jd P j q,u.T with
    | some (K,c),some A=>some (K,A,c)
    | _,_=>none
   | _,_=>none
  | _=>none
 | none=>none
def sP(K:Ty)(x:ag):Option K.den :=
 match x with
 | .p _ u i=>if q:u=K then(if K.scalar=true then some (q ▸ i)else none)else none
 | .agg j=>if K.scalar=false∧j.length=K.size then match iD K j with
  | some (k,_)=>some k
  | none=>none
  else none
 | .lag k n v []=>if q:Ty.arr k n=K then some (q ▸ (show(Ty.arr k n).den from v))else none
 | _=>none
def wg(P:Program)(tb:bT)(new:Nat)(t:TypeId):Qk :=
 match IA P tb t with
 | some (K,A,c)=>some (.mp new,[(new,some (.mpo K A []))],c)
 | none=>none
def mS(P:Program)(tb:bT)(t:TypeId)(x k:ag)(ok:Bool)(h:Nat→Qz):Qk :=
 match IA P tb t with
 | some (K,A,c)=>match x with
  | .mp id=>match h id with
   | some (.mpo j q u)=>match sP j k with
    | some i=>if j=K∧q=A then
     some (if ok then .tup [enc false q ((bh j u i).getD q.zero),.p false .bool (bh j u i).isSome]else enc false q ((bh j u i).getD q.zero),[],c)else none
    | none=>none
   | _=>none
  | _=>none
 | none=>none
def fS(P:Program)(tb:bT)(t:TypeId)(x k y:ag)(h:Nat→Qz):Qk :=
 match IA P tb t with
 | some (K,A,c)=>match x with
  | .mp id=>match h id with
   | some (.mpo j q B)=>match sP j k with
    | some i=>if j=K∧q=A∧(cellsOf y).all ag.cell=true∧kL q y=true then
     match Gm q h y with
     | some (z,u)=>if u.all (fun p=>p.1 != id)then some (.unk,u++[(id,some (.mpo j q (cN j B i z)))],c)else none
     | none=>none
     else none
    | none=>none
   | _=>none
  | _=>none
 | none=>none
def HA(P:Program)(tb:bT)(t:TypeId):Option (Ty×Prop) :=
 match tb.find t with
 | some ti=>match ti.k with
  | .mp j p=>match tb.find j,tb.find p with
   | some q,some u=>match u.T with
    | none=>Jd P j q
    | some _=>none
   | _,_=>none
  | _=>none
 | none=>none
def Lq(tb:bT)(t:TypeId):ag :=
 match tb.find t with
 | some ti=>match ti.k with
  | .mp _ j=>match tb.find j with
   | some p=>zV p
   | none=> .unk
  | _=> .unk
 | none=> .unk
def ur(P:Program)(tb:bT)(new:Nat)(t:TypeId):Qk :=
 match HA P tb t with
 | some (K,c)=>some (.mp new,[(new,some (.mpl K []))],c)
 | none=>none
def valOf:ag→QW
 | .lit v=>some v
 | .fn f []=>some (.func (.func f) #[] #[])
 | .agg [.fn f []]=>some (.agg #[.func (.func f) #[] #[]])
 | _=>none
def ff(P:Program)(tb:bT)(t:TypeId)(x k y:ag)(h:Nat→Qz):Qk :=
 match HA P tb t with
 | some (K,c)=>match x with
  | .mp id=>match h id with
   | some (.mpl j q)=>match sP j k,valOf y with
    | some i,some v=>if j=K∧q.all (fun p=> !eI j p.1 i)=true then some (.unk,[(id,some (.mpl j (q++[(i,v)])))],c)else none
    | _,_=>none
   | _=>none
  | _=>none
 | none=>none
def lv(P:Program)(tb:bT)(t:TypeId)(g:QV)(x k:ag)(ok:Bool)(h:Nat→Qz):Qk :=
 match HA P tb t with
 | some (K,c)=>match x with
  | .mp id=>match h id with
   | some (.mpl p q)=>match sP p k,g with
    | some i,[j]=>if p=K∧ok=true then some (E9 (Lq tb t) ((q[j]?).map (·.2)),[],c∧rF p q i j)else none
    | _,_=>none
   | _=>none
  | _=>none
 | none=>none
def tn(tb:bT)(t:TypeId)(x:ag)(h:Nat→Qz):Qk :=
 match tb.find t with
 | some ti=>match ti.k,x with
  | .mp _ _,.mp id=>match h id with
   | some (.mpo _ _ j)=>some (.p false (.int .i64) (j.length:Int),[],True)
   | _=>none
  | _,_=>none
 | none=>none
def E6(b:Bool)(x y:ag):Qk :=
 match x,y with
 | .p _ (.int k) i,.p _ (.int q) j=>if q=k then some (.p false (.int k) (if b then max (show Int from i) j else min (show Int from i) j),[],True)else none
 | _,_=>none
def MU:ag→Bool
 | .mp _=>true
 | _=>false
def zI:Ty→List Ty
 | .unit=>[]
 | .prod a b=>zI a++zI b
 | .tree j p=>[.int j,.int p,.slice (.tree j p)]
 | T=>[T]
def tD:Ty→ag→ag
 | .slice A,.nils=> .p false (.slice A) []
 | .ptr A,.nilp=> .p false (.ptr A) none
 | _,x=>x
def mn:List Ty→List ag→List ag
 | T::Ts,c::cs=>tD T c::mn Ts cs
 | _,cs=>cs
def DZ(T:Ty):ag→ag
 | .agg j=> .agg (mn (zI T) j)
 | x=>tD T x
def vm(tb:bT)(t:TypeId)(x:ag):ag :=
 match tb.find t with
 | some ti=>match ti.T with
  | some T=>DZ T x
  | none=>x
 | none=>x
def gT(tb:bT):List Bool→List TypeId→List ag→List ag
 | true::bs,t::ts,x::xs=>vm tb t x::gT tb bs ts xs
 | false::bs,_::ts,x::xs=>x::gT tb bs ts xs
 | _,_,xs=>xs
section
variable{P:Program}{Bw:Nat→Prop}{w0:cC P}{ρ:Nat→QW}{φ:Nat→Nat→Prop}{h:Nat→Qz}{w:World}{new:Nat}
theorem Hj(m:Mem Bw w0 ρ φ h w){o:Oper}{a:Act}{t:TypeId}{ti:TI}(ht:aN P t ti){j:Operand}{x:ag}(p:V (Fr (own φ h) Bw w) ρ x (a.eval j))(q:o.op = .load t j)
  {r:ag} {u:gX} {c:Prop} (hd:mN ti x h=some (r,u,c)):Good P o a w (aF Bw w0 ρ φ h w new r u):=by
 unfold mN at hd;split at hd
 ·rename_i id b n i k hk;split at hd
  ·rename_i z hb;split at hd
   ·rename_i hn;split at hd
    ·rename_i l hl;cases hd;exact Ad m ht hk p q hb hl hn
    ·cases hd
   ·cases hd
  ·cases hd
 ·cases hd
theorem GV(m:Mem Bw w0 ρ φ h w){o:Oper}{a:Act}{t:TypeId}{ti:TI}(ht:aN P t ti){j p:Operand}{x y:ag}(q:V (Fr (own φ h) Bw w) ρ x (a.eval j))(z:V (Fr (own φ h) Bw w) ρ y (a.eval p))(B:o.op = .store t j p)
  {r:ag} {u:gX} {c:Prop} (hd:kT ti x y h=some (r,u,c)):Good P o a w (aF Bw w0 ρ φ h w new r u):=by
 unfold kT at hd;split at hd
 ·rename_i id b n i β k v;split at hd
  ·rename_i C hb;split at hd
   ·rename_i hn;split at hd
    ·rename_i l hl;cases hd;exact yc m ht hn.2 q z B hb hl hn.1
    ·cases hd
   ·cases hd
  ·cases hd
 ·cases hd
theorem FB{tb:bT}(m:Mem Bw w0 ρ φ h w)(q:bX P tb){o:Oper}{a:Act}{t:TypeId}{E io:Operand}{x i:ag}(C:V (Fr (own φ h) Bw w) ρ x (a.eval E))(hi:V (Fr (own φ h) Bw w) ρ i (a.eval io))(D:o.op = .indexAddr t E io)
  {r:ag} {u:gX} {c:Prop} (hd:kW tb t x i h=some (r,u,c)) (hc:c):Good P o a w (aF Bw w0 ρ φ h w new r u):=by
 unfold kW at hd;split at hd
 ·rename_i ti ht;split at hd
  ·rename_i n e hk;split at hd
   ·rename_i L z;split at hd
    ·rename_i B;split at hd
     ·rename_i id j sz off β k I;split at hd
      ·rename_i J hb;cases hd;exact xI m (q.find ht) hk (q.find z) B C hb hi D hc
      ·cases hd
     ·rename_i id b N p β k I;cases hd;exact vM m (q.find ht) hk (q.find z) B C hi D hc
     ·cases hd
    ·split at hd
     ·rename_i B;split at hd
      ·rename_i id j sz off β k I;split at hd
       ·rename_i J hb;split at hd
        ·cases hd;exact vD m (q.find ht) hk (q.find z) C hb hi D hc
        cases hd;exact xa m (q.find ht) hk (q.find z) B C hb hi D hc
       ·cases hd
      ·cases hd
     ·cases hd
   ·cases hd
  ·cases hd
 ·cases hd
theorem F7(m:Mem Bw w0 ρ φ h w)(hn:ρ new=none){o:Oper}{a:Act}{t:TypeId}{ti:TI}(ht:aN P t ti){D:Operand}{x:ag}(E:V (Fr (own φ h) Bw w) ρ x (a.eval D))(I:o.op = .load t D)
  {r:ag} {u:gX} {c:Prop} (hd:l4 new ti x h=some (r,u,c)) (hc:c):Good P o a w (aF Bw w0 ρ φ h w new r u):=by
 unfold l4 at hd;split at hd
 ·rename_i id i sz off;split at hd
  ·rename_i p;obtain⟨rfl,rfl,hk⟩:=p;split at hd
   ·rename_i e L A z hi;cases hd;exact sf m hn ht hk E I hi hc
   ·rename_i e L A z k j hi;split at hd
    ·rename_i Y B Z M;split at hd
     ·rename_i q;subst q;split at hd
      ·rename_i N;subst N;simp only[Option.some.injEq,Prod.mk.injEq]at hd;obtain⟨rfl,rfl,rfl⟩:=hd;obtain⟨O,J⟩:=m.wX hi M;have X:=sf (new:=new) O hn ht hk (V.mono J (fun _ _ h=>h) E) I (aB _ _ _) (i:=i) (by rw[List.length_set];exact hc);exact fun K Q C=>X K Q fun v w' hp=>C v w' (aF.Hd rfl J hp)
      ·cases hd
     ·cases hd
    ·cases hd
   ·cases hd
  ·cases hd
 ·cases hd
theorem G6(m:Mem Bw w0 ρ φ h w){o:Oper}{a:Act}{t:TypeId}{ti:TI}(ht:aN P t ti){L M:Operand}{id i:Nat}(z:V (Fr (own φ h) Bw w) ρ (.adr id i 1 0) (a.eval L)){y:ag}(B:V (Fr (own φ h) Bw w) ρ y (a.eval M))(D:(cellsOf y).length=ti.size)
  (E:o.op = .store t L M) {e N:TypeId} {A:Ty} {x:List (List A.den)} {hole:Option (Nat×Nat)} (hi:h id=some (.mat e N A x hole)) {r:ag} {u:gX} {c:Prop} (hd:sZ id i e N A x hole y h=some (r,u,c)) (hc:c) :
  Good P o a w (aF Bw w0 ρ φ h w new r u):=by
 unfold sZ at hd;split at hd
 ·rename_i rr;have p:ti.size=1:=D.symm;split at hd
  ·split at hd
   ·split at hd
    ·cases hd;exact oA m ht p z B E hi hc (fun k j e=>by cases e)
    ·rename_i k j;split at hd
     ·cases hd;exact oA m ht p z B E hi hc.2 (fun k' j' e=>by cases e;exact hc.1)
     ·rename_i e4 C ys O;split at hd
      ·rename_i q;subst q;split at hd
       ·rename_i X;obtain⟨rfl,_⟩:=X;simp only[Option.some.injEq,Prod.mk.injEq]at hd;obtain⟨rfl,rfl,rfl⟩:=hd;obtain⟨Y,I⟩:=m.wX hi O;have Z:=oA (new:=new) Y ht p (V.mono I (fun _ _ h=>h) z) (V.mono I (fun _ _ h=>h) B) E (aB _ _ _) (i:=i) (by rw[List.length_set];exact hc) (fun k j e=>by cases e);exact fun K Q J=>Z K Q fun v w' hp=>J v w' (aF.Hd rfl I hp)
       ·cases hd
      ·cases hd
     ·cases hd
   ·cases hd
  ·cases hd
 ·cases hd
theorem F2(m:Mem Bw w0 ρ φ h w)(hn:ρ new=none){o:Oper}{a:Act}{t e:TypeId}{ti q:TI}(ht:aN P t ti)(hk:ti.k = .sl e)(j:aN P e q){A:Ty}(hT:q.T=some A)(E:0<A.size)
  {x co:Operand} (z:o.op = .makeSlice t x co) {β u:Bool} {I J:IntKind} {l c:Int} (hl:V (Fr (own φ h) Bw w) ρ (.p β (.int I) l) (a.eval x)) (hc:V (Fr (own φ h) Bw w) ρ (.p u (.int J) c) (a.eval co))
  (h1:0≤l) (h2:l≤c) (C:(q.bytes:Int)*c≤281474976710656) (D:c≤9223372036854775807) :
  Good P o a w (aF Bw w0 ρ φ h w new (.sl new) [(new,some (H7 e q A l.toNat))]):=by
 have key:=xj (new:=new) m hn ht hk j hT E z hl hc h1 h2 C D;unfold H7;split
 ·rename_i B;split
  ·rename_i M L hz;split
   ·rename_i hB;exact zd m hn ht hk j hT hz hB z hl hc h1 h2 C D
   ·exact key
  ·exact key
 ·exact key
end
theorem CJ{F:Bool→Addr→Value→Prop}{ρ:Nat→QW}{T:Ty}{x:ag}{v:Value}(h:V F ρ x v):V F ρ (tD T x) v:=by
 unfold tD;split
 ·simp only[V]at h ⊢;exact⟨rfl,none,0,0,h.symm,⟨rfl,Nat.le_refl _⟩,fun i hi=>absurd hi (by simp)⟩
 ·simp only[V]at h ⊢;exact⟨rfl,h.symm⟩
 ·exact h
theorem wY{T:Ty}{x:ag}:ids (tD T x)=ids x:=by
 unfold tD;split <;> simp[ids]
theorem vV{F:Bool→Addr→Value→Prop}{ρ:Nat→QW}:∀ {Ts:List Ty} {j:List ag} {g:Nat→Value→Prop},VL F ρ j g→VL F ρ (mn Ts j) g
 | [],j,g,h=>by cases j <;> exact h
 | T::Ts,[],g,h=>h
 | T::Ts,c::j,g,h=>by
  simp only[mn,VL]at h ⊢;obtain⟨⟨u,p,q⟩,v⟩:=h;exact⟨⟨u,p,CJ q⟩,vV v⟩
theorem px:∀ {Ts:List Ty} {cs:List ag},(mn Ts cs).length=cs.length
 | [],cs=>by cases cs <;> rfl
 | T::Ts,[]=>rfl
 | T::Ts,c::cs=>by simp[mn,px (Ts:=Ts) (cs:=cs)]
theorem tJ:∀ {Ts:List Ty} {cs:List ag},bu (mn Ts cs)=bu cs
 | [],cs=>by cases cs <;> rfl
 | T::Ts,[]=>rfl
 | T::Ts,c::cs=>by simp[mn,bu,wY,tJ (Ts:=Ts) (cs:=cs)]
theorem Iv{tb:bT}{t:TypeId}{F:Bool→Addr→Value→Prop}{ρ:Nat→QW}{x:ag}{v:Value}(h:V F ρ x v):V F ρ (vm tb t x) v:=by
 unfold vm;split
 ·split
  ·unfold DZ;split
   ·simp only[V]at h ⊢;obtain⟨j,e,p,hl⟩:=h;exact⟨j,e,by rw[px];exact p,vV hl⟩
   ·exact CJ h
  ·exact h
 ·exact h
theorem CW{tb:bT}{t:TypeId}{x:ag}:ids (vm tb t x)=ids x:=by
 unfold vm;split
 ·split
  ·unfold DZ;split
   ·simp only[ids,tJ]
   ·exact wY
  ·rfl
 ·rfl
theorem jI{tb:bT}{F:Bool→Addr→Value→Prop}{ρ:Nat→QW}:∀ {p:List Bool} {q:List TypeId} {xs:List ag} {j:QY},iS F ρ xs j→iS F ρ (gT tb p q xs) j
 | true::p,t::q,x::xs,j,h=>by
  cases j with
  | nil=>exact h.elim
  | cons v j=>exact⟨Iv h.1,jI h.2⟩
 | false::p,t::q,x::xs,j,h=>by
  cases j with
  | nil=>exact h.elim
  | cons v j=>exact⟨h.1,jI h.2⟩
 | [],q,xs,j,h=>by simpa only [gT]using h
 | b::p,[],xs,j,h=>by cases b <;> simpa only [gT]using h
 | b::p,t::q,[],j,h=>by cases b <;> simpa only [gT]using h
theorem nr{tb:bT}:∀ {bs:List Bool} {ts:List TypeId} {xs:List ag},bu (gT tb bs ts xs)=bu xs
 | true::bs,t::ts,x::xs=>by simp only[gT,bu,CW,nr (bs:=bs) (ts:=ts) (xs:=xs)]
 | false::bs,t::ts,x::xs=>by simp only[gT,bu,nr (bs:=bs) (ts:=ts) (xs:=xs)]
 | [],ts,xs=>by simp only[gT]
 | b::bs,[],xs=>by cases b <;> simp only[gT]
 | b::bs,t::ts,[]=>by cases b <;> simp only[gT]
def xw(h:Nat→Qz)(x:ag):Option (ag×gX) :=
 match x with
 | .agg j=>match pW h j with
  | some (p,u)=>some (.agg p,u)
  | none=>none
 | x=>gk h x
def frzL(h:Nat→Qz):List Bool→List ag→Option (List ag×gX)
 | _,[]=>some ([],[])
 | [],xs=>some (xs,[])
 | false::bs,x::xs=>match frzL h bs xs with
  | some (j,u)=>some (x::j,u)
  | none=>none
 | true::bs,x::xs=>match xw h x with
  | some (y,u)=>match frzL (apply u h) bs xs with
   | some (j,p)=>some (y::j,u++p)
   | none=>none
  | none=>none
structure wh where
 r:ag
 fl:List Bool
 own:Bool
 cn:List Bool
 g:QV
 hout:Qw
 die:QW
def dieOf:Option wh→QW
 | some q=>q.die
 | none=>none
def vC(P:Program)(f:FuncId)(args:List ag)(hin:Qw)(q:wh):Prop :=
 match q.die with
 | none=>jD P f args hin q.r q.hout
 | some x=>jV P f args hin x
def Oo:Option wh→QV
 | some q=>q.g
 | none=>[]
def BD:ag→ag
 | .lit (.func (.func f) j p)=>if j.isEmpty && p.isEmpty then .fn f []else .unk
 | x=>x
def Jw:Option wh→List Bool
 | some q=>q.cn
 | none=>[]
def uX(P:Program)(new:Nat)(iR:Option wh)(f:ag)(xs:List ag)(h:Nat→Qz):Qk :=
 match f,iR with
 | .fn fid j,some q=>match frzL h q.fl xs with
  | some (p,u) =>
   if q.own then
    if q.g.all (fun i=>(xg h (f::xs)).contains i)then
     match qO q.g (less q.g (apply u h)) (p++j),jR q.g (apply u h) 0 q.g with
     | some args,some hin=>if ue q.g q.hout q.r then some (lV (qT q.g new) q.r,u++uL q.g new q.hout,vC P fid args hin q)else none
     | _,_=>none
    else none
   else match oh (apply u h) (p++j)with
   | some args=>some (q.r,u,Pure P fid args q.r)
   | none=>none
  | none=>none
 | _,_=>none
def zp(asm:Option Bool)(c:ag)(s:Nat→ag)(x y:Operand):Qk :=
 match asm,c with
 | some b,.p _ .bool j=>some (ev s (if b then x else y),[],j=b)
 | none,.p _ .bool j=>match j with
  | true=>some (ev s x,[],True)
  | false=>some (ev s y,[],True)
 | _,_=>none
def E0(fn:Fn)(first:List Operand)(j:List ag):Qk :=
 match fn,first with
 | .func f,[]=>some (.fn f j,[],True)
 | _,_=>none
def qL(tb:bT)(new:Nat)(b:Builtin)(xs:List ag)(j:List TypeId)(h:Nat→Qz):Qk :=
 match b,xs,j with
 | .len,[x],[t]=>if MU x then tn tb t x h else C8 tb t x h
 | .min,[x,y],_=>E6 false x y
 | .max,[x,y],_=>E6 true x y
 | .append,[x,y],[t,p]=>if t=p then m9 tb new t x y h else none
 | .copy,[x,y],[t,_]=>rG tb t x y h
 | _,_,_=>none
def pB(P:Program)(tb:bT)(new:Nat)(iR:Option wh)(c:Call)(s:Nat→ag)(h:Nat→Qz):Qk :=
 match c.callee with
 | .builtin b=>qL tb new b (c.args.toList.map (ev s)) c.argTypes.toList h
 | .value f=>uX P new iR (BD (ev s f)) (gT tb (Jw iR) c.argTypes.toList (c.args.toList.map (ev s))) h
 | _=>none
def gW(P:Program)(tb:bT)(new:Nat)(asm:Option Bool)(iR:Option wh)(op:Op)(s:Nat→ag)(h:Nat→Qz):Qk :=
 match op with
 | .move x=>some (ev s x,[],True)
 | .assign x=>some (ev s x,[],True)
 | .pick c x y=>zp asm (ev s c) s x y
 | .alloc t=>Bz tb new t
 | .box _ x=>Gr new (ev s x)
 | .build t j=>o6 tb t (j.toList.map (·.1)) (j.toList.map fun p=>ev s p.2)
 | .buildSlice t len j=>mD tb new t len (j.toList.map (·.1)) (j.toList.map fun p=>ev s p.2) h
 | .load t x=>zK tb new t (ev s x) h
 | .store t x y=>pe tb t (ev s x) (ev s y) h
 | .binOp op t x y _=>Hi P tb op t (ev s x) (ev s y)
 | .nilCheck x=>Ij (ev s x)
 | .unOp op _ x=>Ka op (ev s x)
 | .convert st z x=>match iR with
  | none=>zq tb st z (ev s x) h
  | some _=>AP tb new st z (ev s x)
 | .slice t x u hi none=>oY tb new t (ev s x) (pM s u) (pM s hi) h
 | .slice t x u (some hi) (some mx)=>match iR with
  | none=>sY tb t (ev s x) (pM s u) (ev s hi) (ev s mx) h
  | some _=>DW tb new t (ev s x) (pM s u) (ev s hi) (ev s mx) h
 | .fieldAddr t x f=>A5 tb t (ev s x) f
 | .indexAddr t x i=>match jf tb t (ev s x) (ev s i) h with
  | some r=>some r
  | none=>kW tb t (ev s x) (ev s i) h
 | .index t x i=>Cw tb t (ev s x) (ev s i)
 | .extract x i=>wC (ev s x) i
 | .typeAssert x _ t ok=>ta P (ev s x) t ok
 | .makeFunc fn first q=>E0 fn first.toList (q.toList.map (ev s))
 | .makeSlice t l c=>Em tb new t (ev s l) (ev s c)
 | .makeMap t none=>match wg P tb new t with
  | some r=>some r
  | none=>ur P tb new t
 | .lookup t x k ok=>match mS P tb t (ev s x) (ev s k) ok h with
  | some r=>some r
  | none=>lv P tb t (Oo iR) (ev s x) (ev s k) ok h
 | .mapUpdate t x k y=>match fS P tb t (ev s x) (ev s k) (ev s y) h with
  | some r=>some r
  | none=>ff P tb t (ev s x) (ev s k) (ev s y) h
 | .insert t x k y=>match fS P tb t (ev s x) (ev s k) (ev s y) h with
  | some r=>some r
  | none=>ff P tb t (ev s x) (ev s k) (ev s y) h
 | .call c=>pB P tb new iR c s h
 | _=>none
section
variable{P:Program}{tb:bT}{Bw:Nat→Prop}{w0:cC P}{ρ:Nat→QW}{φ:Nat→Nat→Prop}{h:Nat→Qz}{w:World}{new:Nat}{n:NS}{s:Nat→ag}{a:Act}
theorem ca(j:bX P tb){t e:TypeId}{p:TI}{A:Ty}(h:gY tb t=some (e,p,A)):∃ti,aN P t ti∧tb.find t=some ti∧ti.k = .sl e∧aN P e p∧p.T=some A∧0<A.size:=by
 unfold gY at h;split at h
 ·rename_i ti h1;split at h
  ·rename_i B h2;split at h
   ·rename_i q u;split at h
    ·rename_i C x;split at h
     ·rename_i z;cases h;exact⟨ti,j.find h1,h1,h2,j.find u,x,z⟩
     ·cases h
    ·cases h
   ·cases h
  ·cases h
 ·cases h
theorem nU(p:bX P tb){t:TypeId}{K A:Ty}{c:Prop}(h:IA P tb t=some (K,A,c))(hc:c):∃ti q u x,aN P t ti∧ti.k = .mp q u∧hY P q K∧aN P u x∧x.T=some A:=by
 unfold IA at h;split at h
 ·rename_i ti h1;split at h
  ·rename_i q u h2;split at h
   ·rename_i E x z B;split at h
    ·rename_i I c' J j C;cases h;refine⟨ti,q,u,x,p.find h1,h2,?_,p.find B,C⟩;unfold Jd at j;split at j
     ·rename_i L D;cases j;exact hY.Ea (p.find z) D
     ·split at j
      ·split at j
       ·cases j;exact hc
       ·cases j
      ·cases j
    ·cases h
   ·cases h
  ·cases h
 ·cases h
theorem nY(j:bX P tb){t:TypeId}{K:Ty}{c:Prop}(h:HA P tb t=some (K,c))(hc:c):∃ti p q u,aN P t ti∧ti.k = .mp p q∧hY P p K∧aN P q u∧Lq tb t=zV u:=by
 unfold HA at h;split at h
 ·rename_i ti h1;split at h
  ·rename_i p q h2;split at h
   ·rename_i C u z x;split at h
    ·refine⟨ti,p,q,u,j.find h1,h2,?_,j.find x,by simp[Lq,h1,h2,x]⟩;unfold Jd at h;split at h
     ·rename_i D B;cases h;exact hY.Ea (j.find z) B
     ·split at h
      ·split at h
       ·cases h;exact hc
       ·cases h
      ·cases h
    ·cases h
   ·cases h
  ·cases h
 ·cases h
theorem uy{F:Bool→Addr→Value→Prop}{ρ:Nat→QW}{x:ag}{v u:Value}(h:valOf x=some v)(j:V F ρ x u):u=v:=by
 unfold valOf at h;split at h
 ·cases h;simpa only [V]using j
 ·cases h;simp only[V]at j;obtain⟨p,e,q,_⟩:=j;have:p = #[]:=Array.eq_empty_of_size_eq_zero (by simpa using q);subst this;exact e
 ·cases h;simp only[V,VL]at j;obtain⟨p,rfl,q,⟨I,z,B,rfl,C,_⟩,_⟩:=j;have h1:B = #[]:=Array.eq_empty_of_size_eq_zero (by simpa using C);subst h1;have h2:p = #[.func (.func _) #[] #[]]:=Array.ext (by simpa using q) (fun i D E=>by
   have:i=0:=by simp at E;omega
   subst this;simpa [Array.getElem?_eq_getElem D]using z)
  rw[h2]
 ·cases h
theorem vG{F:Bool→Addr→Value→Prop}{ρ:Nat→QW}{x:ag}{u:Value}(j:V F ρ x u):V F ρ (BD x) u:=by
 unfold BD;split
 ·rename_i f p q;split
  ·rename_i hc;simp only[Bool.and_eq_true,Array.isEmpty_iff]at hc;obtain⟨rfl,rfl⟩:=hc;simp only[V]at j ⊢;exact⟨#[],j,rfl,by simp only[VL]⟩
  ·trivial
 ·exact j
theorem Co{x:ag}:∀i∈ids (BD x),i∈ids x:=by
 unfold BD;split
 ·split
  ·intro i hi;simp[ids,bu]at hi
  ·intro i hi;simp[ids]at hi
 ·exact fun i hi=>hi
theorem gQ{F:Bool→Addr→Value→Prop}{ρ:Nat→QW}{K:Ty}{x:ag}{k:K.den}{v:Value}(h:sP K x=some k)(p:K.isKey=true)(z:V F ρ x v):v=aS K k:=by
 unfold sP at h;split at h
 ·rename_i β J i;split at h
  ·rename_i q;subst q;split at h
   ·rename_i B;cases h;exact rD p B z
   ·cases h
  ·cases h
 ·rename_i L;split at h
  ·rename_i B;split at h
   ·rename_i M r hu;cases h;simp only[V]at z;obtain⟨C,rfl,D,E⟩:=z;obtain⟨h1,h2,N⟩:=cQ hu E;rw[jE p B.1];congr 1;refine Array.ext_getElem? fun i=>?_
    rw[List.getElem?_toArray,←Array.getElem?_toList];rcases Nat.lt_or_ge i K.size with hi | hi
    ·have:=ke (l:=C.toList) (o:=0) p (ai.mono (fun _ _ h=>h) (fun j u I=>by rw[Nat.zero_add,Array.getElem?_toList];exact I) h1) i hi;rw[Nat.zero_add]at this;exact this
    ·rw[List.getElem?_eq_none (by rw[Array.length_toList,D,B.2];exact hi)];rw[List.getElem?_eq_none (by rw[cY p];exact hi)]
   ·cases h
  ·cases h
 ·rename_i O X xs;split at h
  ·rename_i q;subst q;cases h;simp only[V]at z;obtain⟨C,rfl,hl,-⟩:=z;rw[jE p rfl];cases C with
   | nil=>simp[cJ]
   | cons _ _=>simp at hl
  ·cases h
 ·cases h
theorem qv{F:Bool→Addr→Value→Prop}(p:fb n F ρ s a){j:Option Operand}{l:Option Int}(h:pM s j=some l):tp F ρ a j l:=by
 unfold pM at h;cases j with
 | none=>cases h;trivial
 | some x =>
  simp only at h;split at h
  ·rename_i β k m e;cases h;have:=aU p x;rw[e]at this;exact⟨_,_,this⟩
  ·cases h
theorem mu{F:Bool→Addr→Value→Prop}{x:ag}{n:Int}(h:intOf x=some n){v:Value}(j:V F ρ x v):∃β k,V F ρ (.p β (.int k) n) v:=by
 unfold intOf at h;split at h
 ·cases h;exact⟨_,_,j⟩
 ·cases h
theorem CX(m:Mem Bw w0 ρ φ h w){x y:ag}{u:gX}(hd:xw h x=some (y,u)):
  Mem Bw w0 ρ φ (apply u h) w∧(∀β a v,Fr (own φ h) Bw w β a v→Fr (own φ (apply u h)) Bw w β a v)∧∀v,V (Fr (own φ h) Bw w) ρ x v→V (Fr (own φ (apply u h)) Bw w) ρ y v:=by
 unfold xw at hd;split at hd
 ·split at hd
  ·rename_i D E h1;cases hd;obtain⟨p,q,z,A⟩:=o8 m h1;refine⟨p,q,fun v j=>?_⟩;simp only[V]at j ⊢;obtain⟨B,e,C,hl⟩:=j;exact⟨B,e,by rw[z];exact C,A _ hl⟩
  ·cases hd
 ·exact gJ m hd
theorem ni:∀ {B:List Bool} {xs q:List ag} {h:Nat→Qz} {u:gX},Mem Bw w0 ρ φ h w→frzL h B xs=some (q,u) →
  Mem Bw w0 ρ φ (apply u h) w∧(∀β a v,Fr (own φ h) Bw w β a v→Fr (own φ (apply u h)) Bw w β a v)∧∀j,iS (Fr (own φ h) Bw w) ρ xs j→iS (Fr (own φ (apply u h)) Bw w) ρ q j
 | _,[],q,h,u,m,hd=>by
  simp only[frzL]at hd;cases hd;exact⟨m,fun _ _ _ h=>h,fun _ h=>h⟩
 | [],x::xs,q,h,u,m,hd=>by
  simp only[frzL]at hd;cases hd;exact⟨m,fun _ _ _ h=>h,fun _ h=>h⟩
 | false::B,x::xs,q,h,u,m,hd=>by
  simp only[frzL]at hd;split at hd
  ·rename_i C N h1;cases hd;obtain⟨D,z,E⟩:=ni m h1;refine⟨D,z,fun j p=>?_⟩;cases j with
   | nil=>exact p.elim
   | cons v j=>exact⟨V.mono z (fun _ _ h=>h) p.1,E j p.2⟩
  ·cases hd
 | true::B,x::xs,q,h,u,m,hd=>by
  simp only[frzL]at hd;split at hd
  ·rename_i y u1 h1;split at hd
   ·rename_i C O h2;cases hd;obtain⟨D,z,E⟩:=CX m h1;obtain⟨J,I,L⟩:=ni D h2;rw[eV];refine⟨J,fun β a v M=>I _ _ _ (z _ _ _ M),fun j p=>?_⟩;cases j with
    | nil=>exact p.elim
    | cons v j=>exact⟨V.mono I (fun _ _ h=>h) (E v p.1),L j (iS.mono z (fun _ _ h=>h) p.2)⟩
   ·cases hd
  ·cases hd
theorem vK{q:gX}{i:Nat}(hu:q.all (fun p=>p.1 != i)=true):∀ {h:Nat→Qz},apply q h i=h i:=by
 induction q with
 | nil=>intro h;rfl
 | cons p q u =>
  intro h;obtain⟨j,o⟩:=p;simp only[List.all_cons,Bool.and_eq_true,bne_iff_ne,ne_eq]at hu;simp only[apply];rw[u hu.2,aR _ _ (Ne.symm hu.1)]
theorem kI{F:Bool→Addr→Value→Prop}{x:ag}{b:Bool}(h:Al x=some b){u:Value}(hu:V F ρ x u):∃q,u = .pointer q∧q.isNone=b:=by
 cases x <;> simp only[Al]at h <;> first | (cases h;done) | skip
 ·cases h;simp only[V]at hu;exact⟨none,hu,rfl⟩
 ·cases h;simp only[V]at hu;obtain⟨g,_,e⟩:=hu;exact⟨_,e,rfl⟩
 ·cases h;simp only[V]at hu;obtain⟨j,e,_⟩:=hu;exact⟨_,e,rfl⟩
theorem zo(d:Nat){t e:TypeId}(h:P.underlying t=some (.pointer e))(q:Option Addr):(Op.equalIn (d+1) t (.pointer none) (.pointer q)).run P w = .ok q.isNone w:=by
 simp[Op.equalIn,run_underlying h]
theorem xM(d:Nat){t e:TypeId}(h:P.underlying t=some (.pointer e))(a:Addr):(Op.equalIn (d+1) t (.pointer (some a)) (.pointer none)).run P w = .ok false w:=by
 simp[Op.equalIn,run_underlying h]
theorem zm(d:Nat){t:TypeId}{j:Array (String×TypeId)}(h:P.underlying t=some (.interface j))(a:TypeId)(v:Value):(Op.equalIn (d+1) t (.iface a v) .nilIface).run P w = .ok false w:=by
 simp[Op.equalIn,run_underlying h]
theorem sk{F:Bool→Addr→Value→Prop}{op:BinOp}{b:Bool}{r:ag}(h:Ig op b=some r){t:TypeId}{u v:Value}{xo yo:Operand}(p:(eqGuard op t xo yo u v).run P w = .ok () w)
  (q:(Op.equal t u v).run P w = .ok b w) (j:binOp .eql t u v=(do pure (.bool (←Op.equal t u v)))∧binOp .neq t u v=(do pure (.bool (!(←Op.equal t u v))))) :
  ∃z,(do eqGuard op t xo yo u v;binOp op t u v:Sem Value).run P w = .ok z w∧V F ρ r z:=by
 unfold Ig at h;split at h <;> cases h
 ·exact⟨_,by rw[Sem.run_bind,p,Result.andThen_ok,j.1,Sem.run_bind,q];rfl,iY _ _⟩
 ·exact⟨_,by rw[Sem.run_bind,p,Result.andThen_ok,j.2,Sem.run_bind,q];rfl,iY _ _⟩
theorem BS{F:Bool→Addr→Value→Prop}{ti:TI}{op:BinOp}{t:TypeId}{x y r:ag}{us:gX}{c:Prop}(h:G2 P ti op t x y=some (r,us,c))(hc:c){u v:Value}(hu:V F ρ x u)(B:V F ρ y v)(L M:Operand):
  us=[]∧∃z,(do eqGuard op t L M u v;binOp op t u v:Sem Value).run P w = .ok z w∧V F ρ r z:=by
 have ptr:∀ {b:Bool} {q p:Option Addr},u = .pointer q→v = .pointer p→(∃e,P.underlying t=some (.pointer e))→(q.isNone=true∧p.isNone=b∨q.isNone=false∧p.isNone=true∧b=false)→Ig op b=some r →
   ∃z,(do eqGuard op t L M u v;binOp op t u v:Sem Value).run P w = .ok z w∧V F ρ r z:=fun {b q p} D E C hq j=>by
  subst D E;obtain⟨e,C⟩:=C;refine sk j (bL (by intro N e;cases e) (by intro e;cases e)) ?_ ⟨by cases q <;> cases p <;> rfl,by cases q <;> cases p <;> rfl⟩;unfold Op.equal Op.maxDepth;cases q with
  | none =>
   rcases hq with⟨_,O⟩ | ⟨X,_⟩
   ·subst O;exact zo 9999 C p
   ·cases X
  | some a =>
   rcases hq with⟨X,_⟩ | ⟨_,O,q3⟩
   ·cases X
   ·cases p with
    | none=>subst q3;exact xM 9999 C a
    | some _=>cases O
 unfold G2 at h;split at h
 ·rename_i N ds;split at h
  ·rename_i T hT;split at h
   ·rename_i a b ha hb;split at h
    ·rename_i J j;cases h;refine⟨rfl,?_⟩;simp only[V]at hu B;obtain⟨xs,rfl,sx,lx⟩:=hu;obtain⟨ys,rfl,sy,ly⟩:=B;obtain⟨a1,a2,a3⟩:=cQ ha lx;obtain⟨b1,b2,b3⟩:=cQ hb ly;have hl:∀l:List ag,([]:List ag)=l.drop T.size→T.size≤l.length→l.length=T.size:=fun l h1 h2=>by have:=congrArg List.length h1;simp only[List.length_nil,List.length_drop]at this;omega
     have C:=hc.2 w;have I:T.scalar=false:=hc.1.2;refine sk j (run_eqGuard_agg w op t L M xs ys hc.1.1) ?_ ⟨rfl,rfl⟩;refine C.2.2 (F false) a b _ _ ?_ ?_
     ·unfold og;rw[I];simp only[Bool.false_eq_true,if_false];exact⟨xs,rfl,by rw[sx,hl N a2 a3],a1⟩
     ·unfold og;rw[I];simp only[Bool.false_eq_true,if_false];exact⟨ys,rfl,by rw[sy,hl ds b2 b3],b1⟩
    ·cases h
   ·cases h
  ·cases h
 ·rename_i A q;split at h
  ·rename_i J j;cases h;simp only[V]at hu B;cases q with
   | none =>
    have e:u = .pointer none:=hu.2.symm;exact⟨rfl,ptr e B hc (.inl ⟨rfl,rfl⟩) j⟩
   | some y =>
    obtain⟨_,b,e,_⟩:=hu;exact⟨rfl,ptr e.symm B hc (.inr ⟨rfl,rfl,rfl⟩) j⟩
  ·cases h
 ·split at h
  ·rename_i b h1 h2;split at h
   ·rename_i J j;cases h;obtain⟨q,D,E⟩:=kI h1 hu;obtain⟨p,Y,Z⟩:=kI h2 B;exact⟨rfl,ptr D Y hc (.inl ⟨E,Z⟩) j⟩
   ·cases h
  ·rename_i h1 h2;split at h
   ·rename_i J j;cases h;obtain⟨q,D,E⟩:=kI h1 hu;obtain⟨p,Y,Z⟩:=kI h2 B;exact⟨rfl,ptr D Y hc (.inr ⟨E,Z,rfl⟩) j⟩
   ·cases h
  ·split at h
   ·split at h
    ·rename_i J j;cases h;simp only[V]at hu B;subst hu B;obtain⟨ms,a4⟩:=hc;refine⟨rfl,sk j (bL (by intro N e;cases e) (by intro e;cases e)) ?_ ⟨rfl,rfl⟩⟩;unfold Op.equal Op.maxDepth;exact zm 9999 a4 _ _
    ·cases h
   ·cases h
theorem Av(m:Mem Bw w0 ρ φ h w){o:Oper}{p:Operand}{B j:TypeId}{ok:Bool}(C:o.op = .typeAssert p B j ok){x:ag}(z:V (Fr (own φ h) Bw w) ρ x (a.eval p)){y:ag}{u:gX}{c:Prop}
  (hd:ta P x j ok=some (y,u,c)) (hc:c):Good P o a w (aF Bw w0 ρ φ h w new y u):=by
 unfold ta at hd;split at hd
 ·rename_i t v;split at hd
  ·rename_i q;obtain⟨rfl,rfl⟩:=q;cases hd;obtain⟨d,hd,hi⟩:=hc;simp only[V]at z;refine Good.aG (v:= .tuple #[v,.bool true]) (w':=w) ?_ (aF.pure m ?_)
   ·simp only[execOp,C,z];simp only[Instr.typeAssert,Sem.run_bind,run_underlying hd,Result.andThen_ok];cases d <;> first | (simp at hi;done) | (simp;done)
   ·simp only[V,VL];exact⟨_,rfl,rfl,⟨v,by simp,AN v⟩,⟨.bool true,by simp,by simp only[V,ai];exact⟨rfl,trivial⟩⟩,trivial⟩
  ·cases hd
 ·cases hd
theorem Ft(C:bX P tb)(m:Mem Bw w0 ρ φ h w)(E:fb n (Fr (own φ h) Bw w) ρ s a)(c9:∀j,j<8→ρ (new+j)=none){o:Oper}{asm:Option Bool}{iR:Option wh}(cc:dieOf iR=none){x:ag}{u:gX}{c:Prop}
  (hd:gW P tb new asm iR o.op s h=some (x,u,c)) (hc:c):Good P o a w (aF Bw w0 ρ φ h w new x u):=by
 have hn:ρ new=none:=c9 0 (by omega);unfold gW at hd;split at hd
 ·rename_i x' I;cases hd;exact yy m (aU E _) (.inl I)
 ·rename_i x' I;cases hd;exact yy m (aU E _) (.inr I)
 ·rename_i co D M I;unfold zp at hd;split at hd
  ·rename_i b β b' e;cases hd;subst hc;have:=aU E co;rw[e]at this;exact tE m this (aU E _) I
  ·rename_i β b' e;have:=aU E co;rw[e]at this;split at hd
   ·cases hd;exact tE (b:=true) m this (aU E _) I
   ·cases hd;exact tE (b:=false) m this (aU E _) I
  ·cases hd
 ·rename_i t I;unfold Bz at hd;split at hd
  ·rename_i ti ht;cases hd;exact DA m hn (C.find ht) I
  ·cases hd
 ·rename_i t D I;unfold Gr at hd;split at hd
  ·rename_i be;cases hd;exact Ir m hn (aU E D) be I _
  ·cases hd
 ·rename_i t ps I;unfold o6 at hd;split at hd
  ·rename_i ti ht;split at hd
   ·rename_i fs hk;split at hd
    ·rename_i ds bi;cases hd;have:=jw E (ps.toList.map (·.2));simp only[List.map_map]at this;exact vI m C (C.find ht) hk I this bi
    ·cases hd
   ·rename_i n e hk;split at hd
    ·rename_i te a4;split at hd
     ·rename_i ds bi;cases hd;have:=jw E (ps.toList.map (·.2));simp only[List.map_map]at this;exact uh m C (C.find ht) hk (C.find a4) I this bi
     ·cases hd
    ·cases hd
   ·cases hd
  ·cases hd
 ·rename_i t len ps I;unfold mD at hd;split at hd
  ·rename_i e te A N;obtain⟨ti,h1,_,h2,L,h4,h5⟩:=ca C N;split at hd
   ·rename_i O;split at hd
    ·rename_i ys us b1;cases hd;have:=jw E (ps.toList.map (·.2));simp only[List.map_map]at this;exact uO m hn h1 h2 L h4 h5 I O.1 this (fun x J=>C3 ((List.all_eq_true.1 O.2.1) x J)) b1 O.2.2
    ·cases hd
   ·cases hd
  ·cases hd
 ·rename_i t D I;unfold zK at hd;split at hd
  ·rename_i ti ht;split at hd
   ·rename_i cs off c' d1;split at hd
    ·rename_i y hy;cases hd;exact FT m (C.find ht) (aU E D) I d1 hc hy
    ·cases hd
   ·split at hd
    ·rename_i r0 bs;cases hd;exact Hj m (C.find ht) (aU E D) I bs
    ·exact F7 m hn (C.find ht) (aU E D) I hd hc
  ·cases hd
 ·rename_i t D M I;unfold pe at hd;split at hd
  ·rename_i ti ht;split at hd
   ·rename_i O;split at hd
    ·rename_i id i sz off ex;have J:=aU E D;rw[ex]at J;split at hd
     ·rename_i cs hi;split at hd
      ·rename_i ch;cases hd;exact wA m (C.find ht) J (aU E M) O.1 I hi O.2 ch
      ·cases hd
     ·rename_i e A xs hi;split at hd
      ·rename_i aa;split at hd
       ·rename_i z us hz;split at hd
        ·rename_i b3;cases hd;rw[aa.1]at J;exact wE m (C.find ht) J (aU E M) O.1 I hz hi (by rw[vK b3];exact hi) O.2 aa.2 hc
        ·cases hd
       ·cases hd
      ·cases hd
     ·rename_i e e2 A dk hole hi;split at hd
      ·rename_i aa;obtain⟨rfl,rfl⟩:=aa;exact G6 m (C.find ht) J (aU E M) O.2 I hi hd hc
      ·cases hd
     ·rename_i e xs hi;split at hd
      ·rename_i aa;obtain⟨rfl,rfl,d2⟩:=aa;split at hd
       ·rename_i β v ey;have hy:=aU E M;rw[ey]at hy;cases hd;exact tj m (C.find ht) d2 J hy I hi hc
       ·cases hd
      ·cases hd
     ·cases hd
    ·exact GV m (C.find ht) (aU E D) (aU E M) I hd
   ·cases hd
  ·cases hd
 ·rename_i op t D M t' I;unfold Hi at hd;split at hd
  ·rename_i ti ht;split at hd
   ·rename_i r c' hr;cases hd;obtain⟨z,h1,h2⟩:=Gi (P:=P) (w:=w) (C.find ht) hr hc (aU E D) (aU E M) D M;exact Good.aG (v:=z) (w':=w) (by simp only[execOp,I];rw[Sem.run_bind,h1];rfl) (aF.pure m h2)
   ·obtain⟨hu,z,h1,h2⟩:=BS (P:=P) (w:=w) hd hc (aU E D) (aU E M) D M;subst hu;exact Good.aG (v:=z) (w':=w) (by simp only[execOp,I];rw[Sem.run_bind,h1];rfl) (aF.pure m h2)
  ·cases hd
 ·rename_i D I;have J:=aU E D;unfold Ij at hd;split at hd
  ·rename_i id i sz off ex;cases hd;rw[ex]at J;obtain⟨g,h1,h2⟩:∃g,_∧a.eval D = .pointer (some ⟨g,i*sz+off,none⟩):=by simpa only [V]using J
   exact Good.aG (v:=a.eval D) (w':=w) (by simp only[execOp,I,h2];rfl) (aF.pure m J)
  ·rename_i β cs off ex;cases hd;rw[ex]at J;obtain⟨ad,h1,h2⟩:∃ad:Addr,a.eval D = .pointer (some (ad.add off))∧_:=by simpa only [V]using J
   exact Good.aG (v:=a.eval D) (w':=w) (by simp only[execOp,I,h1];rfl) (aF.pure m J)
  ·rename_i β A q ex;cases hd;rw[ex]at J;cases q with
   | none=>cases hc
   | some y =>
    obtain⟨_,b,e,hv⟩:_∧∃b:Addr,Value.pointer (some b)=a.eval D∧ai (Fr (own φ h) Bw w β) A y (fun k v=>Fr (own φ h) Bw w β (b.add k) v):=by simpa only [V,ai]using J
    refine Good.aG (v:=a.eval D) (w':=w) (by simp only[execOp,I,←e];rfl) (aF.pure m ?_);simp only[V,Option.getD_some];exact⟨b,by rw[←e];unfold Addr.add;simp,jL β A y _ hv⟩
  ·cases hd
 ·rename_i op t D I;unfold Ka at hd;split at hd
  ·rename_i r hr;cases hd;obtain⟨z,h1,h2⟩:=Hb (P:=P) (w:=w) hr (aU E D);exact Good.aG (v:=z) (w':=w) (by simp only[execOp,I];rw[Sem.run_bind,h1];rfl) (aF.pure m h2)
  ·cases hd
 ·rename_i st dt D I;split at hd
  ·unfold zq at hd;split at hd
   ·rename_i si b4;split at hd
    ·rename_i di b7;split at hd
     ·rename_i r hr;cases hd;obtain⟨dd,b8,a5⟩:=(C.find b7).hu;unfold GU at hr;split at hr
      ·rename_i β l ex;have J:=aU E D;rw[ex]at J;split at hr
       ·rename_i e hk;split at hr
        ·rename_i Z;cases hr;rw[hk]at a5;simp only[UK]at a5;subst a5;simp only[FM]at Z;split at Z
         ·rename_i te a4;obtain⟨d,q1,q2⟩:=(C.find a4).hu;split at Z
          ·rename_i bv;rw[bv]at q2;simp only[UK]at q2;exact De m (C.find b4) b8 (by rw[q1,q2]) I J
          ·cases Z
         ·cases Z
        ·cases hr
       ·cases hr
      ·rename_i β k n ex;have J:=aU E D;rw[ex]at J;split at hr
       ·rename_i hk;cases hr;rw[hk]at a5;simp only[UK]at a5;subst a5;exact Fw m (C.find b4) b8 I J
       ·cases hr
      ·cases hr
     split at hd
     ·rename_i Z;split at hd
      ·rename_i r hr;cases hd;obtain⟨z,h1,h2⟩:=C7 (P:=P) m (C.find b4) (C.find b7) (fun e he=>by
        rw[he]at Z;simp only[FM]at Z;split at Z
        ·rename_i te a4;obtain⟨d,q1,q2⟩:=(C.find a4).hu;split at Z
         ·rename_i hk;rw[hk]at q2;simp only[UK]at q2;rw[q1,q2]
         ·cases Z
        ·cases Z) hr (aU E D)
       exact Good.aG (v:=z) (w':=w) (by simp only[execOp,I];rw[Sem.run_bind,h1];rfl) (aF.pure m h2)
      ·cases hd
     ·cases hd
    ·cases hd
   ·cases hd
  ·unfold AP at hd;split at hd
   ·rename_i si b4;split at hd
    ·rename_i di b7;obtain⟨dd,b8,a5⟩:=(C.find b7).hu;split at hd
     ·rename_i β l ex;have J:=aU E D;rw[ex]at J;split at hd
      ·rename_i e hk;split at hd
       ·rename_i Z;cases hd;rw[hk]at a5;simp only[UK]at a5;subst a5;simp only[FM]at Z;split at Z
        ·rename_i te a4;obtain⟨d,q1,q2⟩:=(C.find a4).hu;split at Z
         ·rename_i bv;rw[bv]at q2;simp only[UK]at q2;exact BO m hn (C.find b4) b8 (by rw[q1,q2]) I J
         ·cases Z
        ·cases Z
       ·cases hd
      ·cases hd
     ·cases hd
    ·cases hd
   ·cases hd
 ·rename_i t D lo hi I;unfold oY at hd;split at hd
  ·rename_i ti ht;split at hd
   ·rename_i l r hl hr;have ac:=qv E hl;have a1:=qv E hr;have J:=aU E D;split at hd
    ·rename_i β str ex;rw[ex]at J;split at hd
     ·rename_i hk;cases hd;exact w9 m (C.find ht) hk I J ac a1 hc.1 hc.2.1 hc.2.2
     ·cases hd
    ·rename_i β A xs ex;rw[ex]at J;split at hd
     ·rename_i _ _ B N;obtain⟨a7,h1,a8,h2,L,h4,h5⟩:=ca C N;split at hd
      ·rename_i a9;subst a9;cases hd;exact oa m h1 h2 L h4 I J ac a1 hc.1 hc.2.1 hc.2.2
      ·cases hd
     ·cases hd
    ·rename_i id ex;rw[ex]at J;split at hd
     ·rename_i e A xs a2;split at hd
      ·rename_i _ _ _ N;obtain⟨a7,h1,a8,h2,L,h4,h5⟩:=ca C N;split at hd
       ·rename_i k;cases hd;cases lo with
        | some _=>exact ac.elim
        | none =>
         cases hi with
         | none=>exact a1.elim
         | some dm =>
          obtain⟨β,kk,hv⟩:=a1;exact vE m hn h1 h2 L (A:=A) I a2 J hv hc.1 hc.2
       ·cases hd
      ·cases hd
     ·rename_i A xs a2;split at hd
      ·rename_i _ _ B N;obtain⟨a7,h1,a8,h2,L,h4,h5⟩:=ca C N;split at hd
       ·rename_i a9;subst a9;cases hd;obtain⟨u,q1,q2⟩:=m.ob id _ a2;simp only[V]at J;rw[J.1]at q1;cases q1;exact oa m h1 h2 L h4 I q2 ac a1 hc.1 hc.2.1 hc.2.2
       ·cases hd
      ·cases hd
     ·cases hd
    ·rename_i ex;rw[ex]at J;split at hd
     ·rename_i _ _ A N;obtain⟨a7,h1,a8,h2,L,h4,h5⟩:=ca C N;cases hd;exact wU m h1 h2 L I J ac a1 hc.1 hc.2.1 hc.2.2
     ·cases hd
    ·cases hd
   ·cases hd
  ·cases hd
 ·rename_i t D lo hi mx I;split at hd
  ·unfold sY at hd;split at hd
   ·rename_i _ _ B l r q N hl hr hq;obtain⟨a7,h1,a8,h2,L,h4,h5⟩:=ca C N;have ac:=qv E hl;obtain⟨d3,k1,a1⟩:=mu hr (aU E hi);obtain⟨d4,k2,b9⟩:=mu hq (aU E mx);have J:=aU E D;split at hd
    ·rename_i β A xs ex;rw[ex]at J;split at hd
     ·rename_i a9;subst a9;cases hd;exact tR m h1 h2 L h4 I J ac a1 b9 hc.1 hc.2.1 hc.2.2.1 hc.2.2.2
     ·cases hd
    ·rename_i id ex;rw[ex]at J;split at hd
     ·rename_i A xs a2;split at hd
      ·rename_i a9;subst a9;cases hd;obtain⟨u,q1,q2⟩:=m.ob id _ a2;simp only[V]at J;rw[J.1]at q1;cases q1;exact tR m h1 h2 L h4 I q2 ac a1 b9 hc.1 hc.2.1 hc.2.2.1 hc.2.2.2
      ·cases hd
     ·cases hd
    ·cases hd
   ·cases hd
  ·unfold DW at hd;split at hd
   ·rename_i _ _ B r q N hl hr hq;obtain⟨a7,h1,a8,h2,L,h4,h5⟩:=ca C N;obtain⟨d3,k1,a1⟩:=mu hr (aU E hi);obtain⟨d4,k2,b9⟩:=mu hq (aU E mx);have J:=aU E D;have d5:lo=none:=by
     cases lo with
     | none=>rfl
     | some y =>simp only[pM]at hl;split at hl <;> cases hl
    subst d5;split at hd
    ·rename_i A xs u' ed;split at hd
     ·rename_i a9;subst a9;cases hd;obtain⟨c1,rfl,c3⟩:=hc;obtain⟨m',hF,hv⟩:=gJ m ed;have:=Am (new:=new) m' hn h1 h2 L h4 I (hv _ J) (V.mono hF (fun _ _ h=>h) a1) (V.mono hF (fun _ _ h=>h) b9) c1 c3;exact fun K Q d6=>this K Q fun v w' hp=>d6 v w' (aF.after rfl hF hp)
     ·cases hd
    ·cases hd
   ·cases hd
 ·rename_i t D f I;unfold A5 at hd;split at hd
  ·rename_i ti ht;split at hd
   ·rename_i fs hk;split at hd
    ·rename_i off ft hf;split at hd
     ·rename_i id i sz k ex;cases hd;exact po m (C.find ht) (aU E D) I hk hf (.inl ⟨_,_,_,_,ex,rfl⟩)
     ·rename_i β cs k ex;cases hd;exact po m (C.find ht) (aU E D) I hk hf (.inr ⟨_,_,_,ex,rfl⟩)
     ·cases hd
    ·cases hd
   ·cases hd
  ·cases hd
 ·rename_i t D io I;split at hd
  case h_2=>exact FB m C (aU E D) (aU E io) I hd hc
  rename_i r0 bs;cases hd;revert bs;intro hd;unfold jf at hd;split at hd
  ·rename_i e te A N;obtain⟨a7,h1,a8,h2,L,h4,h5⟩:=ca C N;split at hd
   ·rename_i β k i ei;split at hd
    ·rename_i y sz c' hy;split at hd
     ·rename_i aa;subst aa;cases hd;have hi:=aU E io;rw[ei]at hi;exact wQ m h1 h2 L (aU E D) hi I hy hc
     ·cases hd
    ·cases hd
   ·cases hd
  ·cases hd
 ·rename_i t D io I;unfold Cw at hd;split at hd
  ·rename_i ti ht;split at hd
   ·rename_i hk;split at hd
    ·rename_i β str bx k i ex ei;cases hd;have J:=aU E D;have hi:=aU E io;rw[ex]at J;rw[ei]at hi;exact wi m (C.find ht) hk J hi I hc.1 hc.2
    ·cases hd
   ·rename_i n e hk;split at hd
    ·rename_i te a4;split at hd
     ·rename_i k c2;split at hd
      ·rename_i cs β k' j ex ei;split at hd
       ·rename_i hn;split at hd
        ·rename_i l hl;cases hd;have J:=aU E D;have hi:=aU E io;rw[ex]at J;rw[ei]at hi;exact xX m (C.find ht) hk (C.find a4) c2 J hl hn hi I hc
        ·cases hd
       ·cases hd
      ·cases hd
     ·rename_i c2;split at hd
      ·rename_i cs β k' j ex ei;split at hd
       ·rename_i hn;split at hd
        ·rename_i l hl;cases hd;have J:=aU E D;have hi:=aU E io;rw[ex]at J;rw[ei]at hi;exact xc m (C.find ht) hk (C.find a4) c2 J hl hn hi I hc
        ·cases hd
       ·cases hd
      ·cases hd
     ·cases hd
    ·cases hd
   ·cases hd
  ·cases hd
 ·rename_i D i I;unfold wC at hd;split at hd
  ·rename_i cs ex;split at hd
   ·rename_i y hy;cases hd;have J:=aU E D;rw[ex]at J;exact Ac m J I hy
   ·cases hd
  ·cases hd
 ·rename_i D xt t ok I;exact Av m I (aU E D) hd hc
 ·rename_i fn first cp I
  unfold E0 at hd;split at hd
  ·rename_i f e;cases hd;have e':first = #[]:=Array.ext' e
   subst e';exact xy m I (jw E _)
  ·cases hd
 ·rename_i t lo co I;unfold Em at hd;split at hd
  ·rename_i e te A N;obtain⟨a7,h1,a8,h2,L,h4,h5⟩:=ca C N;split at hd
   ·rename_i β k l bx k' c' el ec;cases hd;have hl:=aU E lo;have cx:=aU E co;rw[el]at hl;rw[ec]at cx;exact F2 m hn h1 h2 L h4 h5 I hl cx hc.1 hc.2.1 hc.2.2.1 hc.2.2.2
   ·cases hd
  ·cases hd
 ·rename_i t I;split at hd
  ·rename_i r b2;cases hd;have hd:=b2;unfold wg at hd;split at hd
   ·rename_i K A c' hm;cases hd;obtain⟨ti,kt,et,te,h1,h2,L,h5,h6⟩:=nU C hm hc;exact zg m hn L.isKey I
   ·cases hd
  ·unfold ur at hd;split at hd
   ·rename_i K c' hm;cases hd;obtain⟨ti,kt,et,te,h1,h2,L,h5⟩:=nY C hm hc;exact yb m hn L.isKey I
   ·cases hd
 ·rename_i t D ko ok I;split at hd
  ·rename_i r b2;cases hd;have hd:=b2;unfold mS at hd;split at hd
   ·rename_i K A c' hm;split at hd
    ·rename_i id ex;split at hd
     ·rename_i K1 A1 kv hi;split at hd
      ·rename_i i a3;split at hd
       ·rename_i q;obtain⟨rfl,rfl⟩:=q;cases hd;obtain⟨ti,kt,et,te,h1,h2,L,h5,h6⟩:=nU C hm hc;have J:=aU E D;have hk:=aU E ko;rw[ex]at J;exact By m h1 h2 L h5 h6 I hi J (gQ a3 L.isKey hk)
       ·cases hd
      ·cases hd
     ·cases hd
    ·cases hd
   ·cases hd
  ·unfold lv at hd;split at hd
   ·rename_i K c' hm;split at hd
    ·rename_i id ex;split at hd
     ·rename_i K1 kv hi;split at hd
      ·rename_i i j a3 _;split at hd
       ·rename_i q;obtain⟨rfl,rfl⟩:=q;cases hd;obtain⟨ti,kt,et,te,h1,h2,L,h5,hz⟩:=nY C hm hc.1;have J:=aU E D;have hk:=aU E ko;rw[ex]at J;rw[←wm hc.2,hz];exact Ao m h1 h2 L h5 I hi J (gQ a3 L.isKey hk)
       ·cases hd
      ·cases hd
     ·cases hd
    ·cases hd
   ·cases hd
 ·rename_i t D ko M I;split at hd
  ·rename_i r b2;cases hd;have hd:=b2;unfold fS at hd;split at hd
   ·rename_i K A c' hm;split at hd
    ·rename_i id ex;split at hd
     ·rename_i K1 A1 kv hi;split at hd
      ·rename_i i a3;split at hd
       ·rename_i q;obtain⟨rfl,rfl,c4,c5⟩:=q;split at hd
        ·rename_i z us hz;split at hd
         ·rename_i b3;cases hd;obtain⟨ti,kt,et,te,h1,h2,L,h5,h6⟩:=nU C hm hc;have J:=aU E D;have hk:=aU E ko;rw[ex]at J;exact lh m h1 h2 L (.inl I) hi (by rw[vK b3];exact hi) J (gQ a3 L.isKey hk) (aU E M) c4 c5 hz
         ·cases hd
        ·cases hd
       ·cases hd
      ·cases hd
     ·cases hd
    ·cases hd
   ·cases hd
  ·unfold ff at hd;split at hd
   ·rename_i K c' hm;split at hd
    ·rename_i id ex;split at hd
     ·rename_i K1 kv hi;split at hd
      ·rename_i i v a3 c6;split at hd
       ·rename_i q;obtain⟨rfl,q2⟩:=q;cases hd;obtain⟨ti,kt,et,te,h1,h2,L,h5⟩:=nY C hm hc;have J:=aU E D;have hk:=aU E ko;rw[ex]at J;refine oe m h1 h2 L (.inl I) hi J (gQ a3 L.isKey hk) (uy c6 (aU E M)) (fun p hp e=>?_);have:=List.all_eq_true.1 q2 p hp;rw[(fE L.isKey).2 e]at this;cases this
       ·cases hd
      ·cases hd
     ·cases hd
    ·cases hd
   ·cases hd
 ·rename_i t D ko M I;split at hd
  ·rename_i r b2;cases hd;have hd:=b2;unfold fS at hd;split at hd
   ·rename_i K A c' hm;split at hd
    ·rename_i id ex;split at hd
     ·rename_i K1 A1 kv hi;split at hd
      ·rename_i i a3;split at hd
       ·rename_i q;obtain⟨rfl,rfl,c4,c5⟩:=q;split at hd
        ·rename_i z us hz;split at hd
         ·rename_i b3;cases hd;obtain⟨ti,kt,et,te,h1,h2,L,h5,h6⟩:=nU C hm hc;have J:=aU E D;have hk:=aU E ko;rw[ex]at J;exact lh m h1 h2 L (.inr I) hi (by rw[vK b3];exact hi) J (gQ a3 L.isKey hk) (aU E M) c4 c5 hz
         ·cases hd
        ·cases hd
       ·cases hd
      ·cases hd
     ·cases hd
    ·cases hd
   ·cases hd
  ·unfold ff at hd;split at hd
   ·rename_i K c' hm;split at hd
    ·rename_i id ex;split at hd
     ·rename_i K1 kv hi;split at hd
      ·rename_i i v a3 c6;split at hd
       ·rename_i q;obtain⟨rfl,q2⟩:=q;cases hd;obtain⟨ti,kt,et,te,h1,h2,L,h5⟩:=nY C hm hc;have J:=aU E D;have hk:=aU E ko;rw[ex]at J;refine oe m h1 h2 L (.inr I) hi J (gQ a3 L.isKey hk) (uy c6 (aU E M)) (fun p hp e=>?_);have:=List.all_eq_true.1 q2 p hp;rw[(fE L.isKey).2 e]at this;cases this
       ·cases hd
      ·cases hd
     ·cases hd
    ·cases hd
   ·cases hd
 ·rename_i c I;obtain⟨callee,args,c7⟩:=c;unfold pB at hd;simp only at hd;split at hd
  ·rename_i b;unfold qL at hd;split at hd
   ·rename_i x0 t ex et;obtain⟨D,X,rfl⟩:∃D,args = #[D]∧ev s D=x0:=by
     match Y:args.toList,ex with
     | [D],ex=>exact⟨D,Array.ext' Y,by simpa using ex⟩
    have ax:c7 = #[t]:=Array.ext' et;subst X ax;split at hd
    ·unfold tn at hd;split at hd
     ·rename_i ti ht;split at hd
      ·rename_i kt et id hk ex;split at hd
       ·rename_i K A kv hi;cases hd;have J:=aU E D;rw[ex]at J;exact z9 m (C.find ht) hk hi J I
       ·cases hd
      ·cases hd
     ·cases hd
    unfold C8 at hd;split at hd
    ·rename_i ti ht;split at hd
     ·rename_i k hk;split at hd
      ·rename_i e he;split at hd
       ·cases hd
       ·rename_i a6;cases hd;refine AT m (C.find ht) (.inl ⟨e,he⟩) (aU E D) I hk ⟨fun h=>(by rw[he]at h;cases h),fun⟨β,str,ex⟩=>?_⟩;rw[ex]at a6;exact absurd rfl a6
      ·rename_i he;split at hd
       ·rename_i a6;cases hd;refine AT m (C.find ht) (.inr he) (aU E D) I hk ⟨fun _=>?_,fun _=>he⟩;unfold isStr at a6;split at a6
        ·rename_i β str ex;exact⟨β,str,ex⟩
        ·cases a6
       ·cases hd
      ·cases hd
     ·cases hd
    ·cases hd
   ·rename_i x0 y0 ex;obtain⟨D,M,X,rfl,rfl⟩:∃D M,args = #[D,M]∧ev s D=x0∧ev s M=y0:=by
     match Y:args.toList,ex with
     | [D,M],ex=>exact⟨D,M,Array.ext' Y,by simp at ex;exact ex.1,by simp at ex;exact ex.2⟩
    subst X;unfold E6 at hd;split at hd
    ·rename_i β k i bx k' j ex ey;split at hd
     ·rename_i c8;subst c8;cases hd;have J:=aU E D;have hy:=aU E M;rw[ex]at J;rw[ey]at hy;exact HI m J hy I
     ·cases hd
    ·cases hd
   ·rename_i x0 y0 ex;obtain⟨D,M,X,rfl,rfl⟩:∃D M,args = #[D,M]∧ev s D=x0∧ev s M=y0:=by
     match Y:args.toList,ex with
     | [D,M],ex=>exact⟨D,M,Array.ext' Y,by simp at ex;exact ex.1,by simp at ex;exact ex.2⟩
    subst X;unfold E6 at hd;split at hd
    ·rename_i β k i bx k' j ex ey;split at hd
     ·rename_i c8;subst c8;cases hd;have J:=aU E D;have hy:=aU E M;rw[ex]at J;rw[ey]at hy;exact Iq m J hy I
     ·cases hd
    ·cases hd
   ·rename_i x0 y0 t t' ex et;obtain⟨D,M,X,rfl,rfl⟩:∃D M,args = #[D,M]∧ev s D=x0∧ev s M=y0:=by
     match Y:args.toList,ex with
     | [D,M],ex=>exact⟨D,M,Array.ext' Y,by simp at ex;exact ex.1,by simp at ex;exact ex.2⟩
    have ax:c7 = #[t,t']:=Array.ext' et;subst X ax;split at hd
    ·rename_i d7;subst d7;unfold m9 at hd;split at hd
     ·rename_i e te A N;obtain⟨a7,h1,a8,h2,L,h4,h5⟩:=ca C N;split at hd
      ·rename_i ys b1;split at hd
       ·rename_i ex;cases hd;exact tZ m hn h1 h2 L h4 h5 (aU E D) (aU E M) I (xs:=[]) (.inl ⟨ex,rfl,rfl,rfl⟩) b1 hc.1 hc.2
       ·rename_i id ex;split at hd
        ·rename_i e' B xs a2;split at hd
         ·rename_i b5;subst b5;split at hd
          ·rename_i d8;subst d8;simp only[Option.some.injEq,Prod.mk.injEq]at hd;obtain⟨rfl,rfl,rfl⟩:=hd;exact tZ m hn h1 h2 L h4 h5 (aU E D) (aU E M) I (xs:=xs) (.inr ⟨id,ex,a2,rfl,rfl⟩) b1 hc.1 hc.2
          ·cases hd
         ·cases hd
        ·rename_i B xs a2;split at hd
         ·rename_i b5;subst b5;simp only[Option.some.injEq,Prod.mk.injEq]at hd;obtain⟨rfl,rfl,rfl⟩:=hd;have J:=aU E D;rw[ex]at J;exact we m hn h1 h2 L h4 h5 J (aU E M) I a2 b1 hc.1 hc.2.1 hc.2.2
         ·cases hd
        ·cases hd
       ·cases hd
      ·cases hd
     ·cases hd
    ·cases hd
   ·rename_i x0 y0 t t' ex et;obtain⟨D,M,X,rfl,rfl⟩:∃D M,args = #[D,M]∧ev s D=x0∧ev s M=y0:=by
     match Y:args.toList,ex with
     | [D,M],ex=>exact⟨D,M,Array.ext' Y,by simp at ex;exact ex.1,by simp at ex;exact ex.2⟩
    have ax:c7 = #[t,t']:=Array.ext' et;subst X ax;unfold rG at hd;split at hd
    ·rename_i e te A N;obtain⟨a7,h1,a8,h2,L,h4,h5⟩:=ca C N;split at hd
     ·rename_i ys b1;split at hd
      ·rename_i id ex;split at hd
       ·rename_i e' B xs a2;split at hd
        ·rename_i b5;subst b5;simp only[Option.some.injEq,Prod.mk.injEq]at hd;obtain⟨rfl,rfl,rfl⟩:=hd;have J:=aU E D;rw[ex]at J;exact Fl m h1 h2 L h4 J (aU E M) I a2 b1
        ·cases hd
       ·cases hd
      ·cases hd
     ·cases hd
    ·cases hd
   ·cases hd
  ·rename_i fo;unfold uX at hd;split at hd
   ·rename_i fid cp q ef;split at hd
    ·rename_i ys u' d9;have hf:=vG (aU E fo);rw[ef]at hf;obtain⟨q1,q2,q3⟩:=ni m d9;split at hd
     ·split at hd
      ·split at hd
       ·rename_i b6 hin hl hi;split at hd
        ·rename_i de;cases hd;have hc:jD P fid b6 hin q.r q.hout:=by unfold vC at hc;rw[show q.die=none from cc]at hc;exact hc
         have hg:=G3 (new:=new) q1 c9 I (V.mono q2 (fun _ _ h=>h) hf) (q3 _ (jI (jw E args.toList))) hl hi de hc;refine fun K Q hk=>hg K Q fun v w' hp=>hk v w' ?_
         exact aF.after (h:=h) (u1:=u') rfl q2 hp
        ·cases hd
       ·cases hd
      ·cases hd
     ·split at hd
      ·rename_i b6 hl;cases hd;have hg:=F0 (new:=new) q1 I (V.mono q2 (fun _ _ h=>h) hf) (q3 _ (jI (jw E args.toList))) hl hc;refine fun K Q hk=>hg K Q fun v w' hp=>hk v w' ?_
       have:=aF.after (h:=h) (u1:=u) rfl q2 hp;simpa using this
      ·cases hd
    ·cases hd
   ·cases hd
  ·cases hd
 ·cases hd
def Kf:ag→Bool
 | .unk=>true
 | _=>false
def dying(op:Op)(iR:Option wh):QW :=
 match op,iR with
 | .call c,some q=>match c.callee with
  | .value _=>if q.own && Kf q.r && q.hout.isEmpty then q.die else none
  | _=>none
 | _,_=>none
theorem IG(m:Mem Bw w0 ρ φ h w)(M:fb n (Fr (own φ h) Bw w) ρ s a)(I:∀j,j<8→ρ (new+j)=none){o:Oper}{asm:Option Bool}{iR:Option wh}{y:Value}(p:dying o.op iR=some y){x:ag}{u:gX}{c:Prop}
  (hd:gW P tb new asm iR o.op s h=some (x,u,c)) (hc:c):LO P o a w y (fun J=>∃v,aF Bw w0 ρ φ h w new .unk u v J):=by
 unfold dying at p;split at p
 ·rename_i c0 q N;split at p
  ·rename_i Y C;split at p
   ·rename_i z;simp only[Bool.and_eq_true,List.isEmpty_iff]at z;obtain⟨⟨D,A⟩,hout⟩:=z;obtain⟨callee,args,Z⟩:=c0;simp only at C;subst C;have hr:q.r = .unk:=by
     unfold Kf at A;split at A
     ·assumption
     ·cases A
    rw[N]at hd;simp only[gW,pB]at hd;unfold uX at hd;split at hd
    ·rename_i fid O q' ef eq;cases eq;split at hd
     ·rename_i ys u' L;have hf:=vG (aU M Y);rw[ef]at hf;obtain⟨q1,X,q3⟩:=ni m L;rw[if_pos D]at hd;split at hd
      ·split at hd
       ·rename_i B hin hl hi;split at hd
        ·rename_i E;cases hd;rw[hr,hout]at E;have hc:jV P fid B hin y:=by unfold vC at hc;rw[p]at hc;exact hc
         have hg:=JW (new:=new) q1 I N (V.mono X (fun _ _ h=>h) hf) (q3 _ (jI (jw M args.toList))) hl hi E hc;refine fun K Q hk=>hg K Q fun J ⟨v,hp⟩=>hk J ⟨v,?_⟩
         rw[hout];exact aF.after (h:=h) (u1:=u') rfl X hp
        ·cases hd
       ·cases hd
      ·cases hd
     ·cases hd
    ·cases hd
   ·cases p
  ·cases p
 ·cases p
end
end Go.Tv
