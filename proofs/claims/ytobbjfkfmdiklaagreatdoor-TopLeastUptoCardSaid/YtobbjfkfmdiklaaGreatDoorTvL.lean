import Derived.Test.YtobbjfkfmdiklaaGreatDoorTvKhm
namespace Go.Tv
open Go Go.RowKit
def pZ(s:Nat→af):Option Operand→Option (Option Int)
 | none=>some none
 | some x=>match ev s x with
  | .p _ (.int _) n=>some (some n)
  | _=>none
def ij(tb:bQ)(t:TypeId):Option (TypeId×TI×Ty) :=
 match tb.find t with
 | some ti=>match ti.k with
  | .sl e=>match tb.find e with
   | some j=>match j.T with
    | some A=>if 0<A.size then some (e,j,A)else none
    | none=>none
   | none=>none
  | _=>none
 | none=>none
def BQ(tb:bQ)(new:Nat)(t:TypeId):XQ :=
 match tb.find t with
 | some ti=>some (.adr new 0 ti.size 0,[(new,some (.box ti.z))],True)
 | none=>none
def Hy(new:Nat)(x:af):XQ :=
 if(cellsOf x).all af.cell then some (.adr new 0 (cellsOf x).length 0,[(new,some (.box (cellsOf x)))],True)else none
def oR(tb:bQ)(t:TypeId)(j:QV)(xs:List af):XQ :=
 match tb.find t with
 | some ti=>match ti.k with
  | .st p=>match parts tb p (j.zip xs) ti.z with
   | some f=>some (.agg f,[],True)
   | none=>none
  | .ar n e=>match tb.find e with
   | some q=>match parts tb ((List.range n).map fun i=>(i*q.size,e)) (j.zip xs) ti.z with
    | some f=>some (.agg f,[],True)
    | none=>none
   | none=>none
  | _=>none
 | none=>none
def mH(tb:bQ)(new:Nat)(t:TypeId)(len:Nat)(j:QV)(xs:List af)(h:Nat→Qz):XQ :=
 match ij tb t with
 | some (e,p,A) =>
  if j=List.range len∧xs.all af.Dr=true∧len*p.size≤16777216 then
   match AH A h xs with
   | some (q,u)=>some (.sl new,u++[(new,some (.arr e A q))],True)
   | none=>none
  else none
 | none=>none
def mT(ti:TI)(x:af)(h:Nat→Qz):XQ :=
 match x,ti.k with
 | .ada id b n i,.int k=>match h id with
  | some (.box f)=>if b+n≤f.length then(match qY k ((f.drop b).take n)with
   | some l=>some (.p false (.int k) (l.getD i 0),[],True)
   | none=>none)else none
  | _=>none
 | _,_=>none
def lq(ti:TI)(x y:af)(h:Nat→Qz):XQ :=
 match x,y with
 | .ada id b n i,.p _ (.int k) v=>match h id with
  | some (.box f)=>if b+n≤f.length∧ti.size=1 then(match qY k ((f.drop b).take n)with
   | some l=>some (.unk,[(id,some (.box (f.take b++wE k i v 0 l++f.drop (b+n))))],True)
   | none=>none)else none
  | _=>none
 | _,_=>none
def la(tb:bQ)(t:TypeId)(x i:af)(h:Nat→Qz):XQ :=
 match tb.find t with
 | some ti=>match ti.k with
  | .ar n e=>match tb.find e with
   | some f=>if f.size=1 then(match x,i with
    | .adr id j sz off,.p _ (.int _) m=>match h id with
     | some (.box _)=>some (.ada id (j*sz+off) n (show Int from m).toNat,[],0≤(show Int from m)∧(show Int from m)<(n:Int))
     | _=>none
    | .ada id b N p,.p _ (.int _) m=>some (.ada id b N (p+(show Int from m).toNat),[],(0≤(show Int from m)∧(show Int from m)<(n:Int))∧p+(show Int from m).toNat<N)
    | _,_=>none)else if 0<f.size then(match x,i with
    | .adr id j sz off,.p _ (.int _) m=>match h id with
     | some (.box _)=>some (.ada id (j*sz+off) (n*f.size) ((show Int from m).toNat*f.size),[],0≤(show Int from m)∧(show Int from m)<(n:Int))
     | _=>none
    | _,_=>none)else none
   | none=>none
  | _=>none
 | none=>none
def l9(new:Nat)(ti:TI)(x:af)(h:Nat→Qz):XQ :=
 match x with
 | .adr id i sz off=>if sz=1∧off=0∧ti.k.agg=false then
   match h id with
   | some (.mat e u A p none)=>some (.sl new,[(id,some (.mat e u A p (some (i,new)))),(new,some (.arr u A (p.getD i [])))],i<p.length)
   | some (.mat e u A p (some (k,j)))=>match h j with
    | some (.arr z B v)=>if q:B=A then(if z=u then
      some (.sl new,[(j,none),(id,some (.mat e u A (p.set k (q ▸ v:List A.den)) none))]++[(id,some (.mat e u A (p.set k (q ▸ v:List A.den)) (some (i,new)))),(new,some (.arr u A ((p.set k (q ▸ v:List A.den)).getD i [])))],i<p.length)else none)else none
    | _=>none
   | _=>none
  else none
 | _=>none
def ze(tb:bQ)(new:Nat)(t:TypeId)(x:af)(h:Nat→Qz):XQ :=
 match tb.find t with
 | some ti=>match me h x with
  | some (j,off,c)=>match gn ti j off with
   | some y=>some (y,[],c)
   | none=>none
  | none=>match mT ti x h with
   | some r=>some r
   | none=>l9 new ti x h
 | none=>none
def td(id i:Nat)(e p:TypeId)(A:Ty)(f:List (List A.den))(hole:Option (Nat×Nat))(y:af)(h:Nat→Qz):XQ :=
 match y with
 | .sl r=>match h r with
  | some (.arr v B _)=>if B=A∧v=p then
    match hole with
    | none=>some (.unk,[(id,some (.mat e p A f (some (i,r))))],i<f.length)
    | some (k,j)=>match h j with
     | none=>some (.unk,[(id,some (.mat e p A f (some (i,r))))],k=i∧i<f.length)
     | some (.arr x C u)=>if q:C=A then(if x=p∧j≠r then
       some (.unk,[(j,none),(id,some (.mat e p A (f.set k (q ▸ u:List A.den)) none))]++[(id,some (.mat e p A (f.set k (q ▸ u:List A.den)) (some (i,r))))],i<f.length)else none)else none
     | _=>none
   else none
  | _=>none
 | _=>none
def oQ(tb:bQ)(t:TypeId)(x y:af)(h:Nat→Qz):XQ :=
 match tb.find t with
 | some ti =>
  if(cellsOf y).all af.cell=true∧(cellsOf y).length=ti.size then
   match x with
   | .adr id i sz off=>match h id with
    | some (.box f)=>if i*sz+off+ti.size≤f.length then some (.unk,[(id,some (.box (wr f (i*sz+off) (cellsOf y))))],True)else none
    | some (.arr e A xs) =>
     if sz=A.size∧off+ti.size≤A.size then
      match Cb A h xs i off y with
      | some (z,j)=>if j.all (fun p=>p.1 != id)then some (.unk,j++[(id,some (.arr e A (xs.set i z)))],i<xs.length)else none
      | none=>none
     else none
    | some (.mat e e2 A xss hole)=>if sz=1∧off=0 then td id i e e2 A xss hole y h else none
    | some (.bytes e xs)=>if sz=1∧off=0∧ti.size=1 then(match y with
     | .p _ (.int .u8) v=>some (.unk,[(id,some (.bytes e (xs.set i v)))],i<xs.length)
     | _=>none)else none
    | _=>none
   | _=>lq ti x y h
  else none
 | none=>none
def Hb(x:af):XQ :=
 match x with
 | .adr id i sz off=>some (.adr id i sz off,[],True)
 | .fad β f off=>some (.fad β f off,[],True)
 | .p β (.ptr A) q=>some (.fad β (flat β A (q.getD A.zero)) 0,[],q.isSome=true)
 | _=>none
def zd:af→Option Bool
 | .nilp=>some true
 | .adr _ _ _ _=>some false
 | .fad _ _ _=>some false
 | _=>none
def Hr(op:BinOp)(b:Bool):Option af :=
 match op with
 | .eql=>some (.p false .bool b)
 | .neq=>some (.p false .bool (!b))
 | _=>none
def HK(P:Program)(ti:TI)(op:BinOp)(t:TypeId)(x y:af):XQ :=
 match x,y with
 | .agg f,.agg j=>match ti.T with
  | some T=>match iB T f,iB T j with
   | some (a,[]),some (b,[])=>match Hr op (GW T a b)with
    | some r=>some (r,[],K4 P t T)
    | none=>none
   | _,_=>none
  | none=>none
 | .p _ (.ptr _) q,.nilp=>match Hr op q.isNone with
  | some r=>some (r,[],∃e,P.underlying t=some (.pointer e))
  | none=>none
 | x,y=>match zd x,zd y with
  | some true,some b=>match Hr op b with
   | some r=>some (r,[],∃e,P.underlying t=some (.pointer e))
   | none=>none
  | some false,some true=>match Hr op false with
   | some r=>some (r,[],∃e,P.underlying t=some (.pointer e))
   | none=>none
  | _,_=>match x,y with
   | .lit (.iface _ _),.lit .nilIface=>match Hr op false with
    | some r=>some (r,[],∃u,P.underlying t=some (.interface u))
    | none=>none
   | _,_=>none
def tF(P:Program)(x:af)(f:TypeId)(ok:Bool):XQ :=
 match x with
 | .lit (.iface t v)=>if t=f∧ok=true then some (.tup [zC v,.p false .bool true],[],∃d,P.underlying f=some d∧(match d with | .interface _=>false | _=>true)=true)else none
 | _=>none
def Gz(P:Program)(tb:bQ)(op:BinOp)(t:TypeId)(x y:af):XQ :=
 match tb.find t with
 | some ti=>match bin ti.k op x y with
  | some (r,c)=>some (r,[],c)
  | none=>HK P ti op t x y
 | none=>none
def JO(op:UnOp)(x:af):XQ :=
 match un op x with
 | some r=>some (r,[],True)
 | none=>none
def Fl(tb:bQ)(k:TK):Bool :=
 match k with
 | .sl e=>match tb.find e with
  | some f=>match f.k with
   | .int .u8=>true
   | _=>false
  | none=>false
 | _=>true
def HL(tb:bQ)(j:TK)(x:af):Option af :=
 match x with
 | .p _ .str l=>match j with
  | .sl e=>if Fl tb (.sl e)then some (.p false (.slice (.int .u8)) (bZ l))else none
  | _=>none
 | .p _ (.int _) n=>match j with
  | .str=>some (.p false .str (GM n))
  | _=>none
 | _=>none
def zc(tb:bQ)(st q:TypeId)(x:af)(h:Nat→Qz):XQ :=
 match tb.find st with
 | some j=>match tb.find q with
  | some p=>match HL tb p.k x with
   | some r=>some (r,[],True)
   | none=>if Fl tb j.k then(match conv j.k p.k h x with
    | some r=>some (r,[],True)
    | none=>none)else none
  | none=>none
 | none=>none
def Ar(tb:bQ)(new:Nat)(st f:TypeId)(x:af):XQ :=
 match tb.find st with
 | some _=>match tb.find f with
  | some j=>match x with
   | .p _ .str l=>match j.k with
    | .sl e=>if Fl tb (.sl e)then some (.sl new,[(new,some (.bytes e (bZ l)))],True)else none
    | _=>none
   | _=>none
  | none=>none
 | none=>none
def oE(tb:bQ)(new:Nat)(t:TypeId)(x:af)(f hi:Option (Option Int))(h:Nat→Qz):XQ :=
 match tb.find t with
 | some ti=>match f,hi with
  | some l,some r=>match x with
   | .p _ .str s=>match ti.k with
    | .str=>some (.p false .str ((s.take (r.getD s.length).toNat).drop (l.getD 0).toNat),[],0≤l.getD 0∧l.getD 0≤r.getD s.length∧r.getD s.length≤s.length)
    | _=>none
   | .p β (.slice A) xs=>match ij tb t with
    | some (_,_,B)=>if A=B then some (.p β (.slice A) ((xs.take (r.getD xs.length).toNat).drop (l.getD 0).toNat),[],0≤l.getD 0∧l.getD 0≤r.getD xs.length∧r.getD xs.length≤xs.length)else none
    | none=>none
   | .sl id=>match h id with
    | some (.arr e A xs)=>match ij tb t with
     | some (_,_,_)=>match l,r with
      | none,some k=>some (.sl new,[(id,none),(new,some (.arr e A (xs.take k.toNat)))],0≤k∧k≤xs.length)
      | _,_=>none
     | none=>none
    | some (.fz A xs)=>match ij tb t with
     | some (_,_,B)=>if A=B then some (.p false (.slice A) ((xs.take (r.getD xs.length).toNat).drop (l.getD 0).toNat),[],0≤l.getD 0∧l.getD 0≤r.getD xs.length∧r.getD xs.length≤xs.length)else none
     | none=>none
    | _=>none
   | .nils=>match ij tb t with
    | some (_,_,_)=>some (.nils,[],0≤l.getD 0∧l.getD 0≤r.getD 0∧r.getD 0≤0)
    | none=>none
   | _=>none
  | _,_=>none
 | none=>none
def intOf:af→Option Int
 | .p _ (.int _) n=>some n
 | _=>none
def tv(tb:bQ)(t:TypeId)(x:af)(j:Option (Option Int))(hi mx:af)(h:Nat→Qz):XQ :=
 match ij tb t,j,intOf hi,intOf mx with
 | some (_,_,B),some l,some r,some q=>match x with
  | .p β (.slice A) xs=>if A=B then some (.p β (.slice A) ((xs.take r.toNat).drop (l.getD 0).toNat),[],0≤l.getD 0∧l.getD 0≤r∧r≤q∧q≤xs.length)else none
  | .sl id=>match h id with
   | some (.fz A xs)=>if A=B then some (.p false (.slice A) ((xs.take r.toNat).drop (l.getD 0).toNat),[],0≤l.getD 0∧l.getD 0≤r∧r≤q∧q≤xs.length)else none
   | _=>none
  | _=>none
 | _,_,_,_=>none
def CK(tb:bQ)(new:Nat)(t:TypeId)(x:af)(j:Option (Option Int))(hi mx:af)(h:Nat→Qz):XQ :=
 match ij tb t,j,intOf hi,intOf mx with
 | some (_,_,B),some none,some r,some q=>match gf h x with
  | some (.p false (.slice A) xs,u)=>if A=B then some (.sl new,u++[(new,some (.cutz A (xs.take r.toNat)))],0≤r∧r=q∧r≤xs.length)else none
  | _=>none
 | _,_,_,_=>none
def BE(tb:bQ)(t:TypeId)(x:af)(f:Nat):XQ :=
 match tb.find t with
 | some ti=>match ti.k with
  | .st j=>match j[f]? with
   | some (off,_)=>match x with
    | .adr id i sz k=>some (.adr id i sz (k+off),[],True)
    | .fad β p k=>some (.fad β p (k+off),[],True)
    | _=>none
   | none=>none
  | _=>none
 | none=>none
def jg(tb:bQ)(t:TypeId)(x i:af)(h:Nat→Qz):XQ :=
 match ij tb t with
 | some (_,f,_)=>match i with
  | .p _ (.int _) n=>match yh h x n with
   | some (y,sz,c)=>if sz=f.size then some (y,[],c)else none
   | none=>none
  | _=>none
 | none=>none
def Ca(tb:bQ)(t:TypeId)(x i:af):XQ :=
 match tb.find t with
 | some ti=>match ti.k with
  | .str=>match x,i with
   | .p _ .str s,.p _ (.int _) n=>some (.p false (.int .u8) ((s.getD n.toNat 0).toNat:Int),[],0≤n∧n<s.length)
   | _,_=>none
  | .ar n e=>match tb.find e with
   | some j=>match j.k with
    | .int k=>match x,i with
     | .agg f,.p _ (.int _) m=>if f.length=n then(match qY k f with
      | some l=>some (.p false (.int k) (l.getD (show Int from m).toNat 0),[],0≤(show Int from m)∧(show Int from m)<(n:Int))
      | none=>none)else none
     | _,_=>none
    | _=>none
   | none=>none
  | _=>none
 | none=>none
def wm(x:af)(i:Nat):XQ :=
 match x with
 | .tup f=>match f[i]? with
  | some y=>some (y,[],True)
  | none=>none
 | _=>none
def If(e:TypeId)(f:TI)(A:Ty)(n:Nat):Obj :=
 match A with
 | .slice B=>match f.k,f.z with
  | .sl j,[.nils]=>if 0<B.size then .mat e j B (List.replicate n []) none else .arr e (.slice B) (List.replicate n [])
  | _,_=> .arr e (.slice B) (List.replicate n [])
 | A=> .arr e A (List.replicate n A.zero)
def D6(tb:bQ)(new:Nat)(t:TypeId)(l c:af):XQ :=
 match ij tb t with
 | some (e,f,A)=>match l,c with
  | .p _ (.int _) n,.p _ (.int _) k=>some (.sl new,[(new,some (If e f A n.toNat))],0≤n∧n≤k∧(f.bytes:Int)*k≤281474976710656∧k≤9223372036854775807)
  | _,_=>none
 | none=>none
def isStr:af→Bool
 | .p _ .str _=>true
 | _=>false
def CT(tb:bQ)(t:TypeId)(x:af)(h:Nat→Qz):XQ :=
 match tb.find t with
 | some ti=>match lenOf h x with
  | some n=>match ti.k with
   | .sl _=>if isStr x then none else some (.p false (.int .i64) n,[],True)
   | .str=>if isStr x then some (.p false (.int .i64) n,[],True)else none
   | _=>none
  | none=>none
 | none=>none
def nb(tb:bQ)(new:Nat)(t:TypeId)(x y:af)(h:Nat→Qz):XQ :=
 match ij tb t with
 | some (e,j,A)=>match eL h A y with
  | some f=>match x with
   | .nils=>some (.sl new,[(new,some (.arr e A f))],(([]:List A.den).length+f.length)*j.bytes≤140737488355328∧([]:List A.den).length+f.length≤9223372036854775807)
   | .sl id=>match h id with
    | some (.arr p B xs)=>if q:B=A then(if p=e then some (.sl new,[(id,none),(new,some (.arr e A ((q ▸ xs:List A.den)++f)))],((q ▸ xs:List A.den).length+f.length)*j.bytes≤140737488355328∧(q ▸ xs:List A.den).length+f.length≤9223372036854775807)else none)else none
    | some (.cutz B xs)=>if q:B=A then some (.sl new,[(new,some (.arr e A ((q ▸ xs:List A.den)++f)))],0<f.length∧((q ▸ xs:List A.den).length+f.length)*j.bytes≤140737488355328∧(q ▸ xs:List A.den).length+f.length≤9223372036854775807)else none
    | _=>none
   | _=>none
  | none=>none
 | none=>none
def rW(tb:bQ)(t:TypeId)(x y:af)(h:Nat→Qz):XQ :=
 match ij tb t with
 | some (_,_,A)=>match eL h A y with
  | some f=>match x with
   | .sl id=>match h id with
    | some (.arr j B xs)=>if q:B=A then some (.p false (.int .i64) ((min f.length (q ▸ xs:List A.den).length:Nat):Int),[(id,some (.arr j A (f.take (q ▸ xs:List A.den).length++(q ▸ xs:List A.den).drop f.length)))],True)else none
    | _=>none
   | _=>none
  | none=>none
 | none=>none
def IK(P:Program)(j:TypeId)(f:TI):Option (Ty×Prop) :=
 match Jj f.k with
 | some K=>some (K,True)
 | none=>match f.T with
  | some K=>if K.scalar=false then some (K,hZ P j K)else none
  | none=>none
def GL(P:Program)(tb:bQ)(t:TypeId):Option (Ty×Ty×Prop) :=
 match tb.find t with
 | some ti=>match ti.k with
  | .mp f j=>match tb.find f,tb.find j with
   | some p,some q=>match IK P f p,q.T with
    | some (K,c),some A=>some (K,A,c)
    | _,_=>none
   | _,_=>none
  | _=>none
 | none=>none
def tj(K:Ty)(x:af):Option K.den :=
 match x with
 | .p _ j i=>if q:j=K then(if K.scalar=true then some (q ▸ i)else none)else none
 | .agg f=>if K.scalar=false∧f.length=K.size then match iB K f with
  | some (k,_)=>some k
  | none=>none
  else none
 | .lag k n u []=>if q:Ty.arr k n=K then some (q ▸ (show(Ty.arr k n).den from u))else none
 | _=>none
def wD(P:Program)(tb:bQ)(new:Nat)(t:TypeId):XQ :=
 match GL P tb t with
 | some (K,A,c)=>some (.mp new,[(new,some (.mpo K A []))],c)
 | none=>none
def na(P:Program)(tb:bQ)(t:TypeId)(x k:af)(ok:Bool)(h:Nat→Qz):XQ :=
 match GL P tb t with
 | some (K,A,c)=>match x with
  | .mp id=>match h id with
   | some (.mpo f j q)=>match tj f k with
    | some i=>if f=K∧j=A then
     some (if ok then .tup [enc false j ((bg f q i).getD j.zero),.p false .bool (bg f q i).isSome]else enc false j ((bg f q i).getD j.zero),[],c)else none
    | none=>none
   | _=>none
  | _=>none
 | none=>none
def fR(P:Program)(tb:bQ)(t:TypeId)(x k y:af)(h:Nat→Qz):XQ :=
 match GL P tb t with
 | some (K,A,c)=>match x with
  | .mp id=>match h id with
   | some (.mpo f j u)=>match tj f k with
    | some i=>if f=K∧j=A∧(cellsOf y).all af.cell=true∧kH j y=true then
     match F1 j h y with
     | some (z,q)=>if q.all (fun p=>p.1 != id)then some (.unk,q++[(id,some (.mpo f j (cF f u i z)))],c)else none
     | none=>none
     else none
    | none=>none
   | _=>none
  | _=>none
 | none=>none
def HT(P:Program)(tb:bQ)(t:TypeId):Option (Ty×Prop) :=
 match tb.find t with
 | some ti=>match ti.k with
  | .mp f j=>match tb.find f,tb.find j with
   | some p,some q=>match q.T with
    | none=>IK P f p
    | some _=>none
   | _,_=>none
  | _=>none
 | none=>none
def KT(tb:bQ)(t:TypeId):af :=
 match tb.find t with
 | some ti=>match ti.k with
  | .mp _ f=>match tb.find f with
   | some j=>zV j
   | none=> .unk
  | _=> .unk
 | none=> .unk
def tV(P:Program)(tb:bQ)(new:Nat)(t:TypeId):XQ :=
 match HT P tb t with
 | some (K,c)=>some (.mp new,[(new,some (.mpl K []))],c)
 | none=>none
def valOf:af→QW
 | .lit v=>some v
 | .fn f []=>some (.func (.func f) #[] #[])
 | .agg [.fn f []]=>some (.agg #[.func (.func f) #[] #[]])
 | _=>none
def fc(P:Program)(tb:bQ)(t:TypeId)(x k y:af)(h:Nat→Qz):XQ :=
 match HT P tb t with
 | some (K,c)=>match x with
  | .mp id=>match h id with
   | some (.mpl f j)=>match tj f k,valOf y with
    | some i,some v=>if f=K∧j.all (fun p=> !eE f p.1 i)=true then some (.unk,[(id,some (.mpl f (j++[(i,v)])))],c)else none
    | _,_=>none
   | _=>none
  | _=>none
 | none=>none
def lD(P:Program)(tb:bQ)(t:TypeId)(g:QV)(x k:af)(ok:Bool)(h:Nat→Qz):XQ :=
 match HT P tb t with
 | some (K,c)=>match x with
  | .mp id=>match h id with
   | some (.mpl f p)=>match tj f k,g with
    | some i,[j]=>if f=K∧ok=true then some (EP (KT tb t) ((p[j]?).map (·.2)),[],c∧rz f p i j)else none
    | _,_=>none
   | _=>none
  | _=>none
 | none=>none
def sS(tb:bQ)(t:TypeId)(x:af)(h:Nat→Qz):XQ :=
 match tb.find t with
 | some ti=>match ti.k,x with
  | .mp _ _,.mp id=>match h id with
   | some (.mpo _ _ j)=>some (.p false (.int .i64) (j.length:Int),[],True)
   | _=>none
  | _,_=>none
 | none=>none
def EA(b:Bool)(x y:af):XQ :=
 match x,y with
 | .p _ (.int k) i,.p _ (.int f) j=>if f=k then some (.p false (.int k) (if b then max (show Int from i) j else min (show Int from i) j),[],True)else none
 | _,_=>none
def MR:af→Bool
 | .mp _=>true
 | _=>false
def zg:Ty→List Ty
 | .unit=>[]
 | .prod a b=>zg a++zg b
 | .tree f j=>[.int f,.int j,.slice (.tree f j)]
 | T=>[T]
def sP:Ty→af→af
 | .slice A,.nils=> .p false (.slice A) []
 | .ptr A,.nilp=> .p false (.ptr A) none
 | _,x=>x
def mj:List Ty→List af→List af
 | T::Ts,c::cs=>sP T c::mj Ts cs
 | _,cs=>cs
def Dk(T:Ty):af→af
 | .agg f=> .agg (mj (zg T) f)
 | x=>sP T x
def xc(tb:bQ)(t:TypeId)(x:af):af :=
 match tb.find t with
 | some ti=>match ti.T with
  | some T=>Dk T x
  | none=>x
 | none=>x
def gX(tb:bQ):List Bool→List TypeId→List af→List af
 | true::bs,t::ts,x::xs=>xc tb t x::gX tb bs ts xs
 | false::bs,_::ts,x::xs=>x::gX tb bs ts xs
 | _,_,xs=>xs
section
variable{P:Program}{Bw:Nat→Prop}{w0:cr P}{ρ:Nat→QW}{φ:Nat→Nat→Prop}{h:Nat→Qz}{w:World}{new:Nat}
theorem Hw(m:Mem Bw w0 ρ φ h w){o:Oper}{a:Act}{t:TypeId}{ti:TI}(ht:aO P t ti){f:Operand}{x:af}(j:V (Fr (own φ h) Bw w) ρ x (a.eval f))(ho:o.op = .load t f)
  {r:af} {u:gZ} {c:Prop} (hd:mT ti x h=some (r,u,c)):Good P o a w (aF Bw w0 ρ φ h w new r u):=by
 unfold mT at hd;split at hd
 ·rename_i id b n i k hk;split at hd
  ·rename_i p hb;split at hd
   ·rename_i hn;split at hd
    ·rename_i l hl;cases hd;exact Ac m ht hk j ho hb hl hn
    ·cases hd
   ·cases hd
  ·cases hd
 ·cases hd
theorem Gh(m:Mem Bw w0 ρ φ h w){o:Oper}{a:Act}{t:TypeId}{ti:TI}(ht:aO P t ti){f j:Operand}{x y:af}(p:V (Fr (own φ h) Bw w) ρ x (a.eval f))(q:V (Fr (own φ h) Bw w) ρ y (a.eval j))(ho:o.op = .store t f j)
  {r:af} {u:gZ} {c:Prop} (hd:lq ti x y h=some (r,u,c)):Good P o a w (aF Bw w0 ρ φ h w new r u):=by
 unfold lq at hd;split at hd
 ·rename_i id b n i β k v;split at hd
  ·rename_i z hb;split at hd
   ·rename_i hn;split at hd
    ·rename_i l hl;cases hd;exact xB m ht hn.2 p q ho hb hl hn.1
    ·cases hd
   ·cases hd
  ·cases hd
 ·cases hd
theorem Fg{tb:bQ}(m:Mem Bw w0 ρ φ h w)(f:cb P tb){o:Oper}{a:Act}{t:TypeId}{C io:Operand}{x i:af}(B:V (Fr (own φ h) Bw w) ρ x (a.eval C))(hi:V (Fr (own φ h) Bw w) ρ i (a.eval io))(ho:o.op = .indexAddr t C io)
  {r:af} {u:gZ} {c:Prop} (hd:la tb t x i h=some (r,u,c)) (hc:c):Good P o a w (aF Bw w0 ρ φ h w new r u):=by
 unfold la at hd;split at hd
 ·rename_i ti ht;split at hd
  ·rename_i n e hk;split at hd
   ·rename_i I z;split at hd
    ·rename_i q;split at hd
     ·rename_i id j sz off β k D;split at hd
      ·rename_i E hb;cases hd;exact xO m (f.find ht) hk (f.find z) q B hb hi ho hc
      ·cases hd
     ·rename_i id b N p β k D;cases hd;exact xf m (f.find ht) hk (f.find z) q B hi ho hc
     ·cases hd
    ·split at hd
     ·rename_i q;split at hd
      ·rename_i id j sz off β k D;split at hd
       ·rename_i E hb;cases hd;exact wM m (f.find ht) hk (f.find z) q B hb hi ho hc
       ·cases hd
      ·cases hd
     ·cases hd
   ·cases hd
  ·cases hd
 ·cases hd
theorem Fq(m:Mem Bw w0 ρ φ h w)(hn:ρ new=none){o:Oper}{a:Act}{t:TypeId}{ti:TI}(ht:aO P t ti){C:Operand}{x:af}(D:V (Fr (own φ h) Bw w) ρ x (a.eval C))(ho:o.op = .load t C)
  {r:af} {u:gZ} {c:Prop} (hd:l9 new ti x h=some (r,u,c)) (hc:c):Good P o a w (aF Bw w0 ρ φ h w new r u):=by
 unfold l9 at hd;split at hd
 ·rename_i id i sz off;split at hd
  ·rename_i f;obtain⟨rfl,rfl,hk⟩:=f;split at hd
   ·rename_i e I A p hi;cases hd;exact rA m hn ht hk D ho hi hc
   ·rename_i e I A p k j hi;split at hd
    ·rename_i O B X J;split at hd
     ·rename_i q;subst q;split at hd
      ·rename_i L;subst L;simp only[Option.some.injEq,Prod.mk.injEq]at hd;obtain⟨rfl,rfl,rfl⟩:=hd;obtain⟨M,E⟩:=m.vz hi J;have N:=rA (new:=new) M hn ht hk (V.mono E (fun _ _ h=>h) D) ho (aB _ _ _) (i:=i) (by rw[List.length_set];exact hc);exact fun K Q z=>N K Q fun v w' hp=>z v w' (aF.HX rfl E hp)
      ·cases hd
     ·cases hd
    ·cases hd
   ·cases hd
  ·cases hd
 ·cases hd
theorem GZ(m:Mem Bw w0 ρ φ h w){o:Oper}{a:Act}{t:TypeId}{ti:TI}(ht:aO P t ti){I J:Operand}{id i:Nat}(x:V (Fr (own φ h) Bw w) ρ (.adr id i 1 0) (a.eval I)){y:af}(z:V (Fr (own φ h) Bw w) ρ y (a.eval J))(B:(cellsOf y).length=ti.size)
  (ho:o.op = .store t I J) {e L:TypeId} {A:Ty} {p:List (List A.den)} {hole:Option (Nat×Nat)} (hi:h id=some (.mat e L A p hole)) {r:af} {u:gZ} {c:Prop} (hd:td id i e L A p hole y h=some (r,u,c)) (hc:c) :
  Good P o a w (aF Bw w0 ρ φ h w new r u):=by
 unfold td at hd;split at hd
 ·rename_i Y;have f:ti.size=1:=B.symm;split at hd
  ·split at hd
   ·split at hd
    ·cases hd;exact oV m ht f x z ho hi hc (fun k j e=>by cases e)
    ·rename_i k j;split at hd
     ·cases hd;exact oV m ht f x z ho hi hc.2 (fun Z j' e=>by cases e;exact hc.1)
     ·rename_i e4 C ys M;split at hd
      ·rename_i q;subst q;split at hd
       ·rename_i N;obtain⟨rfl,_⟩:=N;simp only[Option.some.injEq,Prod.mk.injEq]at hd;obtain⟨rfl,rfl,rfl⟩:=hd;obtain⟨O,D⟩:=m.vz hi M;have X:=oV (new:=new) O ht f (V.mono D (fun _ _ h=>h) x) (V.mono D (fun _ _ h=>h) z) ho (aB _ _ _) (i:=i) (by rw[List.length_set];exact hc) (fun k j e=>by cases e);exact fun K Q E=>X K Q fun v w' hp=>E v w' (aF.HX rfl D hp)
       ·cases hd
      ·cases hd
     ·cases hd
   ·cases hd
  ·cases hd
 ·cases hd
theorem FR(m:Mem Bw w0 ρ φ h w)(hn:ρ new=none){o:Oper}{a:Act}{t e:TypeId}{ti j:TI}(ht:aO P t ti)(hk:ti.k = .sl e)(f:aO P e j){A:Ty}(hT:j.T=some A)(C:0<A.size)
  {u co:Operand} (ho:o.op = .makeSlice t u co) {β q:Bool} {D E:IntKind} {l c:Int} (hl:V (Fr (own φ h) Bw w) ρ (.p β (.int D) l) (a.eval u)) (hc:V (Fr (own φ h) Bw w) ρ (.p q (.int E) c) (a.eval co))
  (h1:0≤l) (h2:l≤c) (x:(j.bytes:Int)*c≤281474976710656) (z:c≤9223372036854775807) :
  Good P o a w (aF Bw w0 ρ φ h w new (.sl new) [(new,some (If e j A l.toNat))]):=by
 have key:=vO (new:=new) m hn ht hk f hT C ho hl hc h1 h2 x z;unfold If;split
 ·rename_i B;split
  ·rename_i J I hz;split
   ·rename_i hB;exact Ab m hn ht hk f hT hz hB ho hl hc h1 h2 x z
   ·exact key
  ·exact key
 ·exact key
end
theorem Cm{F:Bool→Addr→Value→Prop}{ρ:Nat→QW}{T:Ty}{x:af}{v:Value}(h:V F ρ x v):V F ρ (sP T x) v:=by
 unfold sP;split
 ·simp only[V]at h ⊢;exact⟨rfl,none,0,0,h.symm,⟨rfl,Nat.le_refl _⟩,fun i hi=>absurd hi (by simp)⟩
 ·simp only[V]at h ⊢;exact⟨rfl,h.symm⟩
 ·exact h
theorem wG{T:Ty}{x:af}:ids (sP T x)=ids x:=by
 unfold sP;split <;> simp[ids]
theorem xa{F:Bool→Addr→Value→Prop}{ρ:Nat→QW}:∀ {Ts:List Ty} {f:List af} {g:Nat→Value→Prop},VL F ρ f g→VL F ρ (mj Ts f) g
 | [],f,g,h=>by cases f <;> exact h
 | T::Ts,[],g,h=>h
 | T::Ts,c::f,g,h=>by
  simp only[mj,VL]at h ⊢;obtain⟨⟨u,j,p⟩,q⟩:=h;exact⟨⟨u,j,Cm p⟩,xa q⟩
theorem oG:∀ {Ts:List Ty} {cs:List af},(mj Ts cs).length=cs.length
 | [],cs=>by cases cs <;> rfl
 | T::Ts,[]=>rfl
 | T::Ts,c::cs=>by simp[mj,oG (Ts:=Ts) (cs:=cs)]
theorem tW:∀ {Ts:List Ty} {cs:List af},bu (mj Ts cs)=bu cs
 | [],cs=>by cases cs <;> rfl
 | T::Ts,[]=>rfl
 | T::Ts,c::cs=>by simp[mj,bu,wG,tW (Ts:=Ts) (cs:=cs)]
theorem Gb{tb:bQ}{t:TypeId}{F:Bool→Addr→Value→Prop}{ρ:Nat→QW}{x:af}{v:Value}(h:V F ρ x v):V F ρ (xc tb t x) v:=by
 unfold xc;split
 ·split
  ·unfold Dk;split
   ·simp only[V]at h ⊢;obtain⟨f,e,j,hl⟩:=h;exact⟨f,e,by rw[oG];exact j,xa hl⟩
   ·exact Cm h
  ·exact h
 ·exact h
theorem C5{tb:bQ}{t:TypeId}{x:af}:ids (xc tb t x)=ids x:=by
 unfold xc;split
 ·split
  ·unfold Dk;split
   ·simp only[ids,tW]
   ·exact wG
  ·rfl
 ·rfl
theorem jK{tb:bQ}{F:Bool→Addr→Value→Prop}{ρ:Nat→QW}:∀ {j:List Bool} {p:List TypeId} {xs:List af} {f:QY},iS F ρ xs f→iS F ρ (gX tb j p xs) f
 | true::j,t::p,x::xs,f,h=>by
  cases f with
  | nil=>exact h.elim
  | cons v f=>exact⟨Gb h.1,jK h.2⟩
 | false::j,t::p,x::xs,f,h=>by
  cases f with
  | nil=>exact h.elim
  | cons v f=>exact⟨h.1,jK h.2⟩
 | [],p,xs,f,h=>by simpa only [gX]using h
 | b::j,[],xs,f,h=>by cases b <;> simpa only [gX]using h
 | b::j,t::p,[],f,h=>by cases b <;> simpa only [gX]using h
theorem nw{tb:bQ}:∀ {bs:List Bool} {ts:List TypeId} {xs:List af},bu (gX tb bs ts xs)=bu xs
 | true::bs,t::ts,x::xs=>by simp only[gX,bu,C5,nw (bs:=bs) (ts:=ts) (xs:=xs)]
 | false::bs,t::ts,x::xs=>by simp only[gX,bu,nw (bs:=bs) (ts:=ts) (xs:=xs)]
 | [],ts,xs=>by simp only[gX]
 | b::bs,[],xs=>by cases b <;> simp only[gX]
 | b::bs,t::ts,[]=>by cases b <;> simp only[gX]
def xR(h:Nat→Qz)(x:af):Option (af×gZ) :=
 match x with
 | .agg f=>match qi h f with
  | some (j,u)=>some (.agg j,u)
  | none=>none
 | x=>gf h x
def frzL(h:Nat→Qz):List Bool→List af→Option (List af×gZ)
 | _,[]=>some ([],[])
 | [],xs=>some (xs,[])
 | false::bs,x::xs=>match frzL h bs xs with
  | some (j,u)=>some (x::j,u)
  | none=>none
 | true::bs,x::xs=>match xR h x with
  | some (y,u)=>match frzL (apply u h) bs xs with
   | some (j,p)=>some (y::j,u++p)
   | none=>none
  | none=>none
structure vE where
 r:af
 fl:List Bool
 own:Bool
 cn:List Bool
 g:QV
 hout:Qk
 die:QW
def dieOf:Option vE→QW
 | some q=>q.die
 | none=>none
def vU(P:Program)(f:FuncId)(args:List af)(hin:Qk)(q:vE):Prop :=
 match q.die with
 | none=>jy P f args hin q.r q.hout
 | some x=>jR P f args hin x
def NV:Option vE→QV
 | some q=>q.g
 | none=>[]
def AV:af→af
 | .lit (.func (.func f) j p)=>if j.isEmpty && p.isEmpty then .fn f []else .unk
 | x=>x
def I5:Option vE→List Bool
 | some q=>q.cn
 | none=>[]
def uX(P:Program)(new:Nat)(iR:Option vE)(f:af)(xs:List af)(h:Nat→Qz):XQ :=
 match f,iR with
 | .fn fid j,some q=>match frzL h q.fl xs with
  | some (p,u) =>
   if q.own then
    if q.g.all (fun i=>(vL h (f::xs)).contains i)then
     match ri q.g (less q.g (apply u h)) (p++j),jZ q.g (apply u h) 0 q.g with
     | some args,some hin=>if ug q.g q.hout q.r then some (mq (qZ q.g new) q.r,u++uN q.g new q.hout,vU P fid args hin q)else none
     | _,_=>none
    else none
   else match om (apply u h) (p++j)with
   | some args=>some (q.r,u,Pure P fid args q.r)
   | none=>none
  | none=>none
 | _,_=>none
def z9(asm:Option Bool)(c:af)(s:Nat→af)(x y:Operand):XQ :=
 match asm,c with
 | some b,.p _ .bool j=>some (ev s (if b then x else y),[],j=b)
 | none,.p _ .bool j=>match j with
  | true=>some (ev s x,[],True)
  | false=>some (ev s y,[],True)
 | _,_=>none
def D4(fn:Fn)(first:List Operand)(j:List af):XQ :=
 match fn,first with
 | .func f,[]=>some (.fn f j,[],True)
 | _,_=>none
def qE(tb:bQ)(new:Nat)(b:Builtin)(xs:List af)(j:List TypeId)(h:Nat→Qz):XQ :=
 match b,xs,j with
 | .len,[x],[t]=>if MR x then sS tb t x h else CT tb t x h
 | .min,[x,y],_=>EA false x y
 | .max,[x,y],_=>EA true x y
 | .append,[x,y],[t,p]=>if t=p then nb tb new t x y h else none
 | .copy,[x,y],[t,_]=>rW tb t x y h
 | _,_,_=>none
def pS(P:Program)(tb:bQ)(new:Nat)(iR:Option vE)(c:Call)(s:Nat→af)(h:Nat→Qz):XQ :=
 match c.callee with
 | .builtin b=>qE tb new b (c.args.toList.map (ev s)) c.argTypes.toList h
 | .value f=>uX P new iR (AV (ev s f)) (gX tb (I5 iR) c.argTypes.toList (c.args.toList.map (ev s))) h
 | _=>none
def gU(P:Program)(tb:bQ)(new:Nat)(asm:Option Bool)(iR:Option vE)(op:Op)(s:Nat→af)(h:Nat→Qz):XQ :=
 match op with
 | .move x=>some (ev s x,[],True)
 | .assign x=>some (ev s x,[],True)
 | .pick c x y=>z9 asm (ev s c) s x y
 | .alloc t=>BQ tb new t
 | .box _ x=>Hy new (ev s x)
 | .build t j=>oR tb t (j.toList.map (·.1)) (j.toList.map fun p=>ev s p.2)
 | .buildSlice t len j=>mH tb new t len (j.toList.map (·.1)) (j.toList.map fun p=>ev s p.2) h
 | .load t x=>ze tb new t (ev s x) h
 | .store t x y=>oQ tb t (ev s x) (ev s y) h
 | .binOp op t x y _=>Gz P tb op t (ev s x) (ev s y)
 | .nilCheck x=>Hb (ev s x)
 | .unOp op _ x=>JO op (ev s x)
 | .convert st z x=>match iR with
  | none=>zc tb st z (ev s x) h
  | some _=>Ar tb new st z (ev s x)
 | .slice t x u hi none=>oE tb new t (ev s x) (pZ s u) (pZ s hi) h
 | .slice t x u (some hi) (some mx)=>match iR with
  | none=>tv tb t (ev s x) (pZ s u) (ev s hi) (ev s mx) h
  | some _=>CK tb new t (ev s x) (pZ s u) (ev s hi) (ev s mx) h
 | .fieldAddr t x f=>BE tb t (ev s x) f
 | .indexAddr t x i=>match jg tb t (ev s x) (ev s i) h with
  | some r=>some r
  | none=>la tb t (ev s x) (ev s i) h
 | .index t x i=>Ca tb t (ev s x) (ev s i)
 | .extract x i=>wm (ev s x) i
 | .typeAssert x _ t ok=>tF P (ev s x) t ok
 | .makeFunc fn first q=>D4 fn first.toList (q.toList.map (ev s))
 | .makeSlice t l c=>D6 tb new t (ev s l) (ev s c)
 | .makeMap t none=>match wD P tb new t with
  | some r=>some r
  | none=>tV P tb new t
 | .lookup t x k ok=>match na P tb t (ev s x) (ev s k) ok h with
  | some r=>some r
  | none=>lD P tb t (NV iR) (ev s x) (ev s k) ok h
 | .mapUpdate t x k y=>match fR P tb t (ev s x) (ev s k) (ev s y) h with
  | some r=>some r
  | none=>fc P tb t (ev s x) (ev s k) (ev s y) h
 | .insert t x k y=>match fR P tb t (ev s x) (ev s k) (ev s y) h with
  | some r=>some r
  | none=>fc P tb t (ev s x) (ev s k) (ev s y) h
 | .call c=>pS P tb new iR c s h
 | _=>none
section
variable{P:Program}{tb:bQ}{Bw:Nat→Prop}{w0:cr P}{ρ:Nat→QW}{φ:Nat→Nat→Prop}{h:Nat→Qz}{w:World}{new:Nat}{n:NS}{s:Nat→af}{a:Act}
theorem bX(f:cb P tb){t e:TypeId}{j:TI}{A:Ty}(h:ij tb t=some (e,j,A)):∃ti,aO P t ti∧tb.find t=some ti∧ti.k = .sl e∧aO P e j∧j.T=some A∧0<A.size:=by
 unfold ij at h;split at h
 ·rename_i ti h1;split at h
  ·rename_i z h2;split at h
   ·rename_i p q;split at h
    ·rename_i B u;split at h
     ·rename_i x;cases h;exact⟨ti,f.find h1,h1,h2,f.find q,u,x⟩
     ·cases h
    ·cases h
   ·cases h
  ·cases h
 ·cases h
theorem nQ(j:cb P tb){t:TypeId}{K A:Ty}{c:Prop}(h:GL P tb t=some (K,A,c))(hc:c):∃ti p q u,aO P t ti∧ti.k = .mp p q∧hZ P p K∧aO P q u∧u.T=some A:=by
 unfold GL at h;split at h
 ·rename_i ti h1;split at h
  ·rename_i p q h2;split at h
   ·rename_i D u x z;split at h
    ·rename_i E c' I f B;cases h;refine⟨ti,p,q,u,j.find h1,h2,?_,j.find z,B⟩;unfold IK at f;split at f
     ·rename_i J C;cases f;exact hZ.Eo (j.find x) C
     ·split at f
      ·split at f
       ·cases f;exact hc
       ·cases f
      ·cases f
    ·cases h
   ·cases h
  ·cases h
 ·cases h
theorem nO(f:cb P tb){t:TypeId}{K:Ty}{c:Prop}(h:HT P tb t=some (K,c))(hc:c):∃ti j p q,aO P t ti∧ti.k = .mp j p∧hZ P j K∧aO P p q∧KT tb t=zV q:=by
 unfold HT at h;split at h
 ·rename_i ti h1;split at h
  ·rename_i j p h2;split at h
   ·rename_i B q x u;split at h
    ·refine⟨ti,j,p,q,f.find h1,h2,?_,f.find u,by simp[KT,h1,h2,u]⟩;unfold IK at h;split at h
     ·rename_i C z;cases h;exact hZ.Eo (f.find x) z
     ·split at h
      ·split at h
       ·cases h;exact hc
       ·cases h
      ·cases h
    ·cases h
   ·cases h
  ·cases h
 ·cases h
theorem tH{F:Bool→Addr→Value→Prop}{ρ:Nat→QW}{x:af}{v u:Value}(h:valOf x=some v)(f:V F ρ x u):u=v:=by
 unfold valOf at h;split at h
 ·cases h;simpa only [V]using f
 ·cases h;simp only[V]at f;obtain⟨j,e,p,_⟩:=f;have:j = #[]:=Array.eq_empty_of_size_eq_zero (by simpa using p);subst this;exact e
 ·cases h;simp only[V,VL]at f;obtain⟨j,rfl,p,⟨E,q,z,rfl,B,_⟩,_⟩:=f;have h1:z = #[]:=Array.eq_empty_of_size_eq_zero (by simpa using B);subst h1;have h2:j = #[.func (.func _) #[] #[]]:=Array.ext (by simpa using p) (fun i C D=>by
   have:i=0:=by simp at D;omega
   subst this;simpa [Array.getElem?_eq_getElem C]using q)
  rw[h2]
 ·cases h
theorem w9{F:Bool→Addr→Value→Prop}{ρ:Nat→QW}{x:af}{u:Value}(j:V F ρ x u):V F ρ (AV x) u:=by
 unfold AV;split
 ·rename_i f p q;split
  ·rename_i hc;simp only[Bool.and_eq_true,Array.isEmpty_iff]at hc;obtain⟨rfl,rfl⟩:=hc;simp only[V]at j ⊢;exact⟨#[],j,rfl,by simp only[VL]⟩
  ·trivial
 ·exact j
theorem BR{x:af}:∀i∈ids (AV x),i∈ids x:=by
 unfold AV;split
 ·split
  ·intro i hi;simp[ids,bu]at hi
  ·intro i hi;simp[ids]at hi
 ·exact fun i hi=>hi
theorem gM{F:Bool→Addr→Value→Prop}{ρ:Nat→QW}{K:Ty}{x:af}{k:K.den}{v:Value}(h:tj K x=some k)(f:K.isKey=true)(p:V F ρ x v):v=aS K k:=by
 unfold tj at h;split at h
 ·rename_i β I i;split at h
  ·rename_i q;subst q;split at h
   ·rename_i z;cases h;exact sh f z p
   ·cases h
  ·cases h
 ·rename_i J;split at h
  ·rename_i z;split at h
   ·rename_i L r hu;cases h;simp only[V]at p;obtain⟨B,rfl,C,D⟩:=p;obtain⟨h1,h2,M⟩:=cN hu D;rw[jH f z.1];congr 1;refine Array.ext_getElem? fun i=>?_
    rw[List.getElem?_toArray,←Array.getElem?_toList];rcases Nat.lt_or_ge i K.size with hi | hi
    ·have:=kg (l:=B.toList) (o:=0) f (ah.mono (fun _ _ h=>h) (fun j u E=>by rw[Nat.zero_add,Array.getElem?_toList];exact E) h1) i hi;rw[Nat.zero_add]at this;exact this
    ·rw[List.getElem?_eq_none (by rw[Array.length_toList,C,z.2];exact hi)];rw[List.getElem?_eq_none (by rw[cT f];exact hi)]
   ·cases h
  ·cases h
 ·rename_i N O xs;split at h
  ·rename_i q;subst q;cases h;simp only[V]at p;obtain⟨B,rfl,hl,-⟩:=p;rw[jH f rfl];cases B with
   | nil=>simp[cE]
   | cons _ _=>simp at hl
  ·cases h
 ·cases h
theorem qH{F:Bool→Addr→Value→Prop}(j:eP n F ρ s a){f:Option Operand}{l:Option Int}(h:pZ s f=some l):tC F ρ a f l:=by
 unfold pZ at h;cases f with
 | none=>cases h;trivial
 | some x =>
  simp only at h;split at h
  ·rename_i β k m e;cases h;have:=aV j x;rw[e]at this;exact⟨_,_,this⟩
  ·cases h
theorem mr{F:Bool→Addr→Value→Prop}{x:af}{n:Int}(h:intOf x=some n){v:Value}(f:V F ρ x v):∃β k,V F ρ (.p β (.int k) n) v:=by
 unfold intOf at h;split at h
 ·cases h;exact⟨_,_,f⟩
 ·cases h
theorem CG(m:Mem Bw w0 ρ φ h w){x y:af}{u:gZ}(hd:xR h x=some (y,u)):
  Mem Bw w0 ρ φ (apply u h) w∧(∀β a v,Fr (own φ h) Bw w β a v→Fr (own φ (apply u h)) Bw w β a v)∧∀v,V (Fr (own φ h) Bw w) ρ x v→V (Fr (own φ (apply u h)) Bw w) ρ y v:=by
 unfold xR at hd;split at hd
 ·split at hd
  ·rename_i C D h1;cases hd;obtain⟨j,p,q,z⟩:=oU m h1;refine⟨j,p,fun v f=>?_⟩;simp only[V]at f ⊢;obtain⟨A,e,B,hl⟩:=f;exact⟨A,e,by rw[q];exact B,z _ hl⟩
  ·cases hd
 ·exact gF m hd
theorem nN:∀ {z:List Bool} {xs p:List af} {h:Nat→Qz} {u:gZ},Mem Bw w0 ρ φ h w→frzL h z xs=some (p,u) →
  Mem Bw w0 ρ φ (apply u h) w∧(∀β a v,Fr (own φ h) Bw w β a v→Fr (own φ (apply u h)) Bw w β a v)∧∀f,iS (Fr (own φ h) Bw w) ρ xs f→iS (Fr (own φ (apply u h)) Bw w) ρ p f
 | _,[],p,h,u,m,hd=>by
  simp only[frzL]at hd;cases hd;exact⟨m,fun _ _ _ h=>h,fun _ h=>h⟩
 | [],x::xs,p,h,u,m,hd=>by
  simp only[frzL]at hd;cases hd;exact⟨m,fun _ _ _ h=>h,fun _ h=>h⟩
 | false::z,x::xs,p,h,u,m,hd=>by
  simp only[frzL]at hd;split at hd
  ·rename_i B M h1;cases hd;obtain⟨C,q,D⟩:=nN m h1;refine⟨C,q,fun f j=>?_⟩;cases f with
   | nil=>exact j.elim
   | cons v f=>exact⟨V.mono q (fun _ _ h=>h) j.1,D f j.2⟩
  ·cases hd
 | true::z,x::xs,p,h,u,m,hd=>by
  simp only[frzL]at hd;split at hd
  ·rename_i y u1 h1;split at hd
   ·rename_i B N h2;cases hd;obtain⟨C,q,D⟩:=CG m h1;obtain⟨I,E,J⟩:=nN C h2;rw[eU];refine⟨I,fun β a v L=>E _ _ _ (q _ _ _ L),fun f j=>?_⟩;cases f with
    | nil=>exact j.elim
    | cons v f=>exact⟨V.mono E (fun _ _ h=>h) (D v j.1),J f (iS.mono q (fun _ _ h=>h) j.2)⟩
   ·cases hd
  ·cases hd
theorem vg{f:gZ}{i:Nat}(hu:f.all (fun p=>p.1 != i)=true):∀ {h:Nat→Qz},apply f h i=h i:=by
 induction f with
 | nil=>intro h;rfl
 | cons p f q =>
  intro h;obtain⟨j,o⟩:=p;simp only[List.all_cons,Bool.and_eq_true,bne_iff_ne,ne_eq]at hu;simp only[apply];rw[q hu.2,aR _ _ (Ne.symm hu.1)]
theorem kX{F:Bool→Addr→Value→Prop}{x:af}{b:Bool}(h:zd x=some b){u:Value}(hu:V F ρ x u):∃q,u = .pointer q∧q.isNone=b:=by
 cases x <;> simp only[zd]at h <;> first | (cases h;done) | skip
 ·cases h;simp only[V]at hu;exact⟨none,hu,rfl⟩
 ·cases h;simp only[V]at hu;obtain⟨g,_,e⟩:=hu;exact⟨_,e,rfl⟩
 ·cases h;simp only[V]at hu;obtain⟨f,e,_⟩:=hu;exact⟨_,e,rfl⟩
theorem zQ(d:Nat){t e:TypeId}(h:P.underlying t=some (.pointer e))(q:Option Addr):(Op.equalIn (d+1) t (.pointer none) (.pointer q)).run P w = .ok q.isNone w:=by
 simp[Op.equalIn,run_underlying h]
theorem xq(d:Nat){t e:TypeId}(h:P.underlying t=some (.pointer e))(a:Addr):(Op.equalIn (d+1) t (.pointer (some a)) (.pointer none)).run P w = .ok false w:=by
 simp[Op.equalIn,run_underlying h]
theorem zD(d:Nat){t:TypeId}{f:Array (String×TypeId)}(h:P.underlying t=some (.interface f))(a:TypeId)(v:Value):(Op.equalIn (d+1) t (.iface a v) .nilIface).run P w = .ok false w:=by
 simp[Op.equalIn,run_underlying h]
theorem rf{F:Bool→Addr→Value→Prop}{op:BinOp}{b:Bool}{r:af}(h:Hr op b=some r){t:TypeId}{u v:Value}{xo yo:Operand}(j:(eqGuard op t xo yo u v).run P w = .ok () w)
  (p:(Op.equal t u v).run P w = .ok b w) (f:binOp .eql t u v=(do pure (.bool (←Op.equal t u v)))∧binOp .neq t u v=(do pure (.bool (!(←Op.equal t u v))))) :
  ∃z,(do eqGuard op t xo yo u v;binOp op t u v:Sem Value).run P w = .ok z w∧V F ρ r z:=by
 unfold Hr at h;split at h <;> cases h
 ·exact⟨_,by rw[Sem.run_bind,j,Result.andThen_ok,f.1,Sem.run_bind,p];rfl,jl _ _⟩
 ·exact⟨_,by rw[Sem.run_bind,j,Result.andThen_ok,f.2,Sem.run_bind,p];rfl,jl _ _⟩
theorem AG{F:Bool→Addr→Value→Prop}{ti:TI}{op:BinOp}{t:TypeId}{x y r:af}{us:gZ}{c:Prop}(h:HK P ti op t x y=some (r,us,c))(hc:c){u v:Value}(hu:V F ρ x u)(p:V F ρ y v)(J L:Operand):
  us=[]∧∃z,(do eqGuard op t J L u v;binOp op t u v:Sem Value).run P w = .ok z w∧V F ρ r z:=by
 have ptr:∀ {b:Bool} {q j:Option Addr},u = .pointer q→v = .pointer j→(∃e,P.underlying t=some (.pointer e))→(q.isNone=true∧j.isNone=b∨q.isNone=false∧j.isNone=true∧b=false)→Hr op b=some r →
   ∃z,(do eqGuard op t J L u v;binOp op t u v:Sem Value).run P w = .ok z w∧V F ρ r z:=fun {b q j} C D B hq f=>by
  subst C D;obtain⟨e,B⟩:=B;refine rf f (bJ (by intro M e;cases e) (by intro e;cases e)) ?_ ⟨by cases q <;> cases j <;> rfl,by cases q <;> cases j <;> rfl⟩;unfold Op.equal Op.maxDepth;cases q with
  | none =>
   rcases hq with⟨_,N⟩ | ⟨O,_⟩
   ·subst N;exact zQ 9999 B j
   ·cases O
  | some a =>
   rcases hq with⟨O,_⟩ | ⟨_,N,q3⟩
   ·cases O
   ·cases j with
    | none=>subst q3;exact xq 9999 B a
    | some _=>cases N
 unfold HK at h;split at h
 ·rename_i M ds;split at h
  ·rename_i T hT;split at h
   ·rename_i a b ha hb;split at h
    ·rename_i I f;cases h;refine⟨rfl,?_⟩;simp only[V]at hu p;obtain⟨xs,rfl,sx,lx⟩:=hu;obtain⟨ys,rfl,sy,ly⟩:=p;obtain⟨a1,a2,a3⟩:=cN ha lx;obtain⟨b1,b2,b3⟩:=cN hb ly;have hl:∀l:List af,([]:List af)=l.drop T.size→T.size≤l.length→l.length=T.size:=fun l h1 h2=>by have:=congrArg List.length h1;simp only[List.length_nil,List.length_drop]at this;omega
     have B:=hc.2 w;have E:T.scalar=false:=hc.1.2;refine rf f (run_eqGuard_agg w op t J L xs ys hc.1.1) ?_ ⟨rfl,rfl⟩;refine B.2.2 (F false) a b _ _ ?_ ?_
     ·unfold og;rw[E];simp only[Bool.false_eq_true,if_false];exact⟨xs,rfl,by rw[sx,hl M a2 a3],a1⟩
     ·unfold og;rw[E];simp only[Bool.false_eq_true,if_false];exact⟨ys,rfl,by rw[sy,hl ds b2 b3],b1⟩
    ·cases h
   ·cases h
  ·cases h
 ·rename_i A q;split at h
  ·rename_i I f;cases h;simp only[V]at hu p;cases q with
   | none =>
    have e:u = .pointer none:=hu.2.symm;exact⟨rfl,ptr e p hc (.inl ⟨rfl,rfl⟩) f⟩
   | some y =>
    obtain⟨_,b,e,_⟩:=hu;exact⟨rfl,ptr e.symm p hc (.inr ⟨rfl,rfl,rfl⟩) f⟩
  ·cases h
 ·split at h
  ·rename_i b h1 h2;split at h
   ·rename_i I f;cases h;obtain⟨q,C,D⟩:=kX h1 hu;obtain⟨j,X,Y⟩:=kX h2 p;exact⟨rfl,ptr C X hc (.inl ⟨D,Y⟩) f⟩
   ·cases h
  ·rename_i h1 h2;split at h
   ·rename_i I f;cases h;obtain⟨q,C,D⟩:=kX h1 hu;obtain⟨j,X,Y⟩:=kX h2 p;exact⟨rfl,ptr C X hc (.inr ⟨D,Y,rfl⟩) f⟩
   ·cases h
  ·split at h
   ·split at h
    ·rename_i I f;cases h;simp only[V]at hu p;subst hu p;obtain⟨ms,Z⟩:=hc;refine⟨rfl,rf f (bJ (by intro M e;cases e) (by intro e;cases e)) ?_ ⟨rfl,rfl⟩⟩;unfold Op.equal Op.maxDepth;exact zD 9999 Z _ _
    ·cases h
   ·cases h
theorem Bn(m:Mem Bw w0 ρ φ h w){o:Oper}{j:Operand}{z f:TypeId}{ok:Bool}(ho:o.op = .typeAssert j z f ok){x:af}(p:V (Fr (own φ h) Bw w) ρ x (a.eval j)){y:af}{u:gZ}{c:Prop}
  (hd:tF P x f ok=some (y,u,c)) (hc:c):Good P o a w (aF Bw w0 ρ φ h w new y u):=by
 unfold tF at hd;split at hd
 ·rename_i t v;split at hd
  ·rename_i q;obtain⟨rfl,rfl⟩:=q;cases hd;obtain⟨d,hd,hi⟩:=hc;simp only[V]at p;refine Good.aG (v:= .tuple #[v,.bool true]) (w':=w) ?_ (aF.pure m ?_)
   ·simp only[execOp,ho,p];simp only[Instr.typeAssert,Sem.run_bind,run_underlying hd,Result.andThen_ok];cases d <;> first | (simp at hi;done) | (simp;done)
   ·simp only[V,VL];exact⟨_,rfl,rfl,⟨v,by simp,Cs v⟩,⟨.bool true,by simp,by simp only[V,ah];exact⟨rfl,trivial⟩⟩,trivial⟩
  ·cases hd
 ·cases hd
theorem Fk(C:cb P tb)(m:Mem Bw w0 ρ φ h w)(E:eP n (Fr (own φ h) Bw w) ρ s a)(c8:∀j,j<8→ρ (new+j)=none){o:Oper}{asm:Option Bool}{iR:Option vE}(c9:dieOf iR=none){x:af}{u:gZ}{c:Prop}
  (hd:gU P tb new asm iR o.op s h=some (x,u,c)) (hc:c):Good P o a w (aF Bw w0 ρ φ h w new x u):=by
 have hn:ρ new=none:=c8 0 (by omega);unfold gU at hd;split at hd
 ·rename_i x' ho;cases hd;exact yy m (aV E _) (.inl ho)
 ·rename_i x' ho;cases hd;exact yy m (aV E _) (.inr ho)
 ·rename_i co D L ho;unfold z9 at hd;split at hd
  ·rename_i b β b' e;cases hd;subst hc;have:=aV E co;rw[e]at this;exact tf m this (aV E _) ho
  ·rename_i β b' e;have:=aV E co;rw[e]at this;split at hd
   ·cases hd;exact tf (b:=true) m this (aV E _) ho
   ·cases hd;exact tf (b:=false) m this (aV E _) ho
  ·cases hd
 ·rename_i t ho;unfold BQ at hd;split at hd
  ·rename_i ti ht;cases hd;exact DH m hn (C.find ht) ho
  ·cases hd
 ·rename_i t D ho;unfold Hy at hd;split at hd
  ·rename_i be;cases hd;exact Hh m hn (aV E D) be ho _
  ·cases hd
 ·rename_i t ps ho;unfold oR at hd;split at hd
  ·rename_i ti ht;split at hd
   ·rename_i fs hk;split at hd
    ·rename_i ds bi;cases hd;have:=jG E (ps.toList.map (·.2));simp only[List.map_map]at this;exact wW m C (C.find ht) hk ho this bi
    ·cases hd
   ·rename_i n e hk;split at hd
    ·rename_i te a6;split at hd
     ·rename_i ds bi;cases hd;have:=jG E (ps.toList.map (·.2));simp only[List.map_map]at this;exact ue m C (C.find ht) hk (C.find a6) ho this bi
     ·cases hd
    ·cases hd
   ·cases hd
  ·cases hd
 ·rename_i t len ps ho;unfold mH at hd;split at hd
  ·rename_i e te A M;obtain⟨ti,h1,_,h2,J,h4,Z⟩:=bX C M;split at hd
   ·rename_i N;split at hd
    ·rename_i ys us b1;cases hd;have:=jG E (ps.toList.map (·.2));simp only[List.map_map]at this;exact uO m hn h1 h2 J h4 Z ho N.1 this (fun x I=>DI ((List.all_eq_true.1 N.2.1) x I)) b1 N.2.2
    ·cases hd
   ·cases hd
  ·cases hd
 ·rename_i t D ho;unfold ze at hd;split at hd
  ·rename_i ti ht;split at hd
   ·rename_i cs off c' cx;split at hd
    ·rename_i y hy;cases hd;exact Fy m (C.find ht) (aV E D) ho cx hc hy
    ·cases hd
   ·split at hd
    ·rename_i r0 bs;cases hd;exact Hw m (C.find ht) (aV E D) ho bs
    ·exact Fq m hn (C.find ht) (aV E D) ho hd hc
  ·cases hd
 ·rename_i t D L ho;unfold oQ at hd;split at hd
  ·rename_i ti ht;split at hd
   ·rename_i N;split at hd
    ·rename_i id i sz off ex;have I:=aV E D;rw[ex]at I;split at hd
     ·rename_i cs hi;split at hd
      ·rename_i cc;cases hd;exact xd m (C.find ht) I (aV E L) N.1 ho hi N.2 cc
      ·cases hd
     ·rename_i e A xs hi;split at hd
      ·rename_i aa;split at hd
       ·rename_i z us hz;split at hd
        ·rename_i b3;cases hd;rw[aa.1]at I;exact w8 m (C.find ht) I (aV E L) N.1 ho hz hi (by rw[vg b3];exact hi) N.2 aa.2 hc
        ·cases hd
       ·cases hd
      ·cases hd
     ·rename_i e e2 A dk hole hi;split at hd
      ·rename_i aa;obtain⟨rfl,rfl⟩:=aa;exact GZ m (C.find ht) I (aV E L) N.2 ho hi hd hc
      ·cases hd
     ·rename_i e xs hi;split at hd
      ·rename_i aa;obtain⟨rfl,rfl,d1⟩:=aa;split at hd
       ·rename_i β v ey;have hy:=aV E L;rw[ey]at hy;cases hd;exact tq m (C.find ht) d1 I hy ho hi hc
       ·cases hd
      ·cases hd
     ·cases hd
    ·exact Gh m (C.find ht) (aV E D) (aV E L) ho hd
   ·cases hd
  ·cases hd
 ·rename_i op t D L t' ho;unfold Gz at hd;split at hd
  ·rename_i ti ht;split at hd
   ·rename_i r c' hr;cases hd;obtain⟨z,h1,h2⟩:=Fh (P:=P) (w:=w) (C.find ht) hr hc (aV E D) (aV E L) D L;exact Good.aG (v:=z) (w':=w) (by simp only[execOp,ho];rw[Sem.run_bind,h1];rfl) (aF.pure m h2)
   ·obtain⟨hu,z,h1,h2⟩:=AG (P:=P) (w:=w) hd hc (aV E D) (aV E L) D L;subst hu;exact Good.aG (v:=z) (w':=w) (by simp only[execOp,ho];rw[Sem.run_bind,h1];rfl) (aF.pure m h2)
  ·cases hd
 ·rename_i D ho;have I:=aV E D;unfold Hb at hd;split at hd
  ·rename_i id i sz off ex;cases hd;rw[ex]at I;obtain⟨g,h1,h2⟩:∃g,_∧a.eval D = .pointer (some ⟨g,i*sz+off,none⟩):=by simpa only [V]using I
   exact Good.aG (v:=a.eval D) (w':=w) (by simp only[execOp,ho,h2];rfl) (aF.pure m I)
  ·rename_i β cs off ex;cases hd;rw[ex]at I;obtain⟨ad,h1,h2⟩:∃ad:Addr,a.eval D = .pointer (some (ad.add off))∧_:=by simpa only [V]using I
   exact Good.aG (v:=a.eval D) (w':=w) (by simp only[execOp,ho,h1];rfl) (aF.pure m I)
  ·rename_i β A q ex;cases hd;rw[ex]at I;cases q with
   | none=>cases hc
   | some y =>
    obtain⟨_,b,e,hv⟩:_∧∃b:Addr,Value.pointer (some b)=a.eval D∧ah (Fr (own φ h) Bw w β) A y (fun k v=>Fr (own φ h) Bw w β (b.add k) v):=by simpa only [V,ah]using I
    refine Good.aG (v:=a.eval D) (w':=w) (by simp only[execOp,ho,←e];rfl) (aF.pure m ?_);simp only[V,Option.getD_some];exact⟨b,by rw[←e];unfold Addr.add;simp,jN β A y _ hv⟩
  ·cases hd
 ·rename_i op t D ho;unfold JO at hd;split at hd
  ·rename_i r hr;cases hd;obtain⟨z,h1,h2⟩:=GB (P:=P) (w:=w) hr (aV E D);exact Good.aG (v:=z) (w':=w) (by simp only[execOp,ho];rw[Sem.run_bind,h1];rfl) (aF.pure m h2)
  ·cases hd
 ·rename_i st dt D ho;split at hd
  ·unfold zc at hd;split at hd
   ·rename_i si b4;split at hd
    ·rename_i di b7;split at hd
     ·rename_i r hr;cases hd;obtain⟨dd,b8,a4⟩:=(C.find b7).hu;unfold HL at hr;split at hr
      ·rename_i β l ex;have I:=aV E D;rw[ex]at I;split at hr
       ·rename_i e hk;split at hr
        ·rename_i Y;cases hr;rw[hk]at a4;simp only[UK]at a4;subst a4;simp only[Fl]at Y;split at Y
         ·rename_i te a6;obtain⟨d,q1,q2⟩:=(C.find a6).hu;split at Y
          ·rename_i bv;rw[bv]at q2;simp only[UK]at q2;exact CN m (C.find b4) b8 (by rw[q1,q2]) ho I
          ·cases Y
         ·cases Y
        ·cases hr
       ·cases hr
      ·rename_i β k n ex;have I:=aV E D;rw[ex]at I;split at hr
       ·rename_i hk;cases hr;rw[hk]at a4;simp only[UK]at a4;subst a4;exact FX m (C.find b4) b8 ho I
       ·cases hr
      ·cases hr
     split at hd
     ·rename_i Y;split at hd
      ·rename_i r hr;cases hd;obtain⟨z,h1,h2⟩:=CW (P:=P) m (C.find b4) (C.find b7) (fun e he=>by
        rw[he]at Y;simp only[Fl]at Y;split at Y
        ·rename_i te a6;obtain⟨d,q1,q2⟩:=(C.find a6).hu;split at Y
         ·rename_i hk;rw[hk]at q2;simp only[UK]at q2;rw[q1,q2]
         ·cases Y
        ·cases Y) hr (aV E D)
       exact Good.aG (v:=z) (w':=w) (by simp only[execOp,ho];rw[Sem.run_bind,h1];rfl) (aF.pure m h2)
      ·cases hd
     ·cases hd
    ·cases hd
   ·cases hd
  ·unfold Ar at hd;split at hd
   ·rename_i si b4;split at hd
    ·rename_i di b7;obtain⟨dd,b8,a4⟩:=(C.find b7).hu;split at hd
     ·rename_i β l ex;have I:=aV E D;rw[ex]at I;split at hd
      ·rename_i e hk;split at hd
       ·rename_i Y;cases hd;rw[hk]at a4;simp only[UK]at a4;subst a4;simp only[Fl]at Y;split at Y
        ·rename_i te a6;obtain⟨d,q1,q2⟩:=(C.find a6).hu;split at Y
         ·rename_i bv;rw[bv]at q2;simp only[UK]at q2;exact Cl m hn (C.find b4) b8 (by rw[q1,q2]) ho I
         ·cases Y
        ·cases Y
       ·cases hd
      ·cases hd
     ·cases hd
    ·cases hd
   ·cases hd
 ·rename_i t D lo hi ho;unfold oE at hd;split at hd
  ·rename_i ti ht;split at hd
   ·rename_i l r hl hr;have ac:=qH E hl;have a1:=qH E hr;have I:=aV E D;split at hd
    ·rename_i β str ex;rw[ex]at I;split at hd
     ·rename_i hk;cases hd;exact wU m (C.find ht) hk ho I ac a1 hc.1 hc.2.1 hc.2.2
     ·cases hd
    ·rename_i β A xs ex;rw[ex]at I;split at hd
     ·rename_i _ _ B M;obtain⟨a7,h1,a8,h2,J,h4,Z⟩:=bX C M;split at hd
      ·rename_i a9;subst a9;cases hd;exact oh m h1 h2 J h4 ho I ac a1 hc.1 hc.2.1 hc.2.2
      ·cases hd
     ·cases hd
    ·rename_i id ex;rw[ex]at I;split at hd
     ·rename_i e A xs a2;split at hd
      ·rename_i _ _ _ M;obtain⟨a7,h1,a8,h2,J,h4,Z⟩:=bX C M;split at hd
       ·rename_i k;cases hd;cases lo with
        | some _=>exact ac.elim
        | none =>
         cases hi with
         | none=>exact a1.elim
         | some dm =>
          obtain⟨β,kk,hv⟩:=a1;exact wC m hn h1 h2 J (A:=A) ho a2 I hv hc.1 hc.2
       ·cases hd
      ·cases hd
     ·rename_i A xs a2;split at hd
      ·rename_i _ _ B M;obtain⟨a7,h1,a8,h2,J,h4,Z⟩:=bX C M;split at hd
       ·rename_i a9;subst a9;cases hd;obtain⟨u,q1,q2⟩:=m.ob id _ a2;simp only[V]at I;rw[I.1]at q1;cases q1;exact oh m h1 h2 J h4 ho q2 ac a1 hc.1 hc.2.1 hc.2.2
       ·cases hd
      ·cases hd
     ·cases hd
    ·rename_i ex;rw[ex]at I;split at hd
     ·rename_i _ _ A M;obtain⟨a7,h1,a8,h2,J,h4,Z⟩:=bX C M;cases hd;exact wJ m h1 h2 J ho I ac a1 hc.1 hc.2.1 hc.2.2
     ·cases hd
    ·cases hd
   ·cases hd
  ·cases hd
 ·rename_i t D lo hi mx ho;split at hd
  ·unfold tv at hd;split at hd
   ·rename_i _ _ B l r q M hl hr hq;obtain⟨a7,h1,a8,h2,J,h4,Z⟩:=bX C M;have ac:=qH E hl;obtain⟨d2,k1,a1⟩:=mr hr (aV E hi);obtain⟨d3,k2,b9⟩:=mr hq (aV E mx);have I:=aV E D;split at hd
    ·rename_i β A xs ex;rw[ex]at I;split at hd
     ·rename_i a9;subst a9;cases hd;exact tQ m h1 h2 J h4 ho I ac a1 b9 hc.1 hc.2.1 hc.2.2.1 hc.2.2.2
     ·cases hd
    ·rename_i id ex;rw[ex]at I;split at hd
     ·rename_i A xs a2;split at hd
      ·rename_i a9;subst a9;cases hd;obtain⟨u,q1,q2⟩:=m.ob id _ a2;simp only[V]at I;rw[I.1]at q1;cases q1;exact tQ m h1 h2 J h4 ho q2 ac a1 b9 hc.1 hc.2.1 hc.2.2.1 hc.2.2.2
      ·cases hd
     ·cases hd
    ·cases hd
   ·cases hd
  ·unfold CK at hd;split at hd
   ·rename_i _ _ B r q M hl hr hq;obtain⟨a7,h1,a8,h2,J,h4,Z⟩:=bX C M;obtain⟨d2,k1,a1⟩:=mr hr (aV E hi);obtain⟨d3,k2,b9⟩:=mr hq (aV E mx);have I:=aV E D;have d4:lo=none:=by
     cases lo with
     | none=>rfl
     | some y =>simp only[pZ]at hl;split at hl <;> cases hl
    subst d4;split at hd
    ·rename_i A xs u' ed;split at hd
     ·rename_i a9;subst a9;cases hd;obtain⟨c1,rfl,c3⟩:=hc;obtain⟨m',hF,hv⟩:=gF m ed;have:=zU (new:=new) m' hn h1 h2 J h4 ho (hv _ I) (V.mono hF (fun _ _ h=>h) a1) (V.mono hF (fun _ _ h=>h) b9) c1 c3;exact fun K Q d5=>this K Q fun v w' hp=>d5 v w' (aF.after rfl hF hp)
     ·cases hd
    ·cases hd
   ·cases hd
 ·rename_i t D f ho;unfold BE at hd;split at hd
  ·rename_i ti ht;split at hd
   ·rename_i fs hk;split at hd
    ·rename_i off ft hf;split at hd
     ·rename_i id i sz k ex;cases hd;exact o5 m (C.find ht) (aV E D) ho hk hf (.inl ⟨_,_,_,_,ex,rfl⟩)
     ·rename_i β cs k ex;cases hd;exact o5 m (C.find ht) (aV E D) ho hk hf (.inr ⟨_,_,_,ex,rfl⟩)
     ·cases hd
    ·cases hd
   ·cases hd
  ·cases hd
 ·rename_i t D io ho;split at hd
  case h_2=>exact Fg m C (aV E D) (aV E io) ho hd hc
  rename_i r0 bs;cases hd;revert bs;intro hd;unfold jg at hd;split at hd
  ·rename_i e te A M;obtain⟨a7,h1,a8,h2,J,h4,Z⟩:=bX C M;split at hd
   ·rename_i β k i ei;split at hd
    ·rename_i y sz c' hy;split at hd
     ·rename_i aa;subst aa;cases hd;have hi:=aV E io;rw[ei]at hi;exact vh m h1 h2 J (aV E D) hi ho hy hc
     ·cases hd
    ·cases hd
   ·cases hd
  ·cases hd
 ·rename_i t D io ho;unfold Ca at hd;split at hd
  ·rename_i ti ht;split at hd
   ·rename_i hk;split at hd
    ·rename_i β str bx k i ex ei;cases hd;have I:=aV E D;have hi:=aV E io;rw[ex]at I;rw[ei]at hi;exact wV m (C.find ht) hk I hi ho hc.1 hc.2
    ·cases hd
   ·rename_i n e hk;split at hd
    ·rename_i te a6;split at hd
     ·rename_i k d6;split at hd
      ·rename_i cs β k' j ex ei;split at hd
       ·rename_i hn;split at hd
        ·rename_i l hl;cases hd;have I:=aV E D;have hi:=aV E io;rw[ex]at I;rw[ei]at hi;exact xY m (C.find ht) hk (C.find a6) d6 I hl hn hi ho hc
        ·cases hd
       ·cases hd
      ·cases hd
     ·cases hd
    ·cases hd
   ·cases hd
  ·cases hd
 ·rename_i D i ho;unfold wm at hd;split at hd
  ·rename_i cs ex;split at hd
   ·rename_i y hy;cases hd;have I:=aV E D;rw[ex]at I;exact za m I ho hy
   ·cases hd
  ·cases hd
 ·rename_i D xt t ok ho;exact Bn m ho (aV E D) hd hc
 ·rename_i fn first ch ho
  unfold D4 at hd;split at hd
  ·rename_i f e;cases hd;have e':first = #[]:=Array.ext' e
   subst e';exact xh m ho (jG E _)
  ·cases hd
 ·rename_i t lo co ho;unfold D6 at hd;split at hd
  ·rename_i e te A M;obtain⟨a7,h1,a8,h2,J,h4,Z⟩:=bX C M;split at hd
   ·rename_i β k l bx k' c' el ec;cases hd;have hl:=aV E lo;have cp:=aV E co;rw[el]at hl;rw[ec]at cp;exact FR m hn h1 h2 J h4 Z ho hl cp hc.1 hc.2.1 hc.2.2.1 hc.2.2.2
   ·cases hd
  ·cases hd
 ·rename_i t ho;split at hd
  ·rename_i r b2;cases hd;have hd:=b2;unfold wD at hd;split at hd
   ·rename_i K A c' hm;cases hd;obtain⟨ti,kt,et,te,h1,h2,J,Z,h6⟩:=nQ C hm hc;exact zF m hn J.isKey ho
   ·cases hd
  ·unfold tV at hd;split at hd
   ·rename_i K c' hm;cases hd;obtain⟨ti,kt,et,te,h1,h2,J,Z⟩:=nO C hm hc;exact xT m hn J.isKey ho
   ·cases hd
 ·rename_i t D ko ok ho;split at hd
  ·rename_i r b2;cases hd;have hd:=b2;unfold na at hd;split at hd
   ·rename_i K A c' hm;split at hd
    ·rename_i id ex;split at hd
     ·rename_i K1 A1 kv hi;split at hd
      ·rename_i i a3;split at hd
       ·rename_i q;obtain⟨rfl,rfl⟩:=q;cases hd;obtain⟨ti,kt,et,te,h1,h2,J,Z,h6⟩:=nQ C hm hc;have I:=aV E D;have hk:=aV E ko;rw[ex]at I;exact Bb m h1 h2 J Z h6 ho hi I (gM a3 J.isKey hk)
       ·cases hd
      ·cases hd
     ·cases hd
    ·cases hd
   ·cases hd
  ·unfold lD at hd;split at hd
   ·rename_i K c' hm;split at hd
    ·rename_i id ex;split at hd
     ·rename_i K1 kv hi;split at hd
      ·rename_i i j a3 _;split at hd
       ·rename_i q;obtain⟨rfl,rfl⟩:=q;cases hd;obtain⟨ti,kt,et,te,h1,h2,J,Z,hz⟩:=nO C hm hc.1;have I:=aV E D;have hk:=aV E ko;rw[ex]at I;rw[←vw hc.2,hz];exact zK m h1 h2 J Z ho hi I (gM a3 J.isKey hk)
       ·cases hd
      ·cases hd
     ·cases hd
    ·cases hd
   ·cases hd
 ·rename_i t D ko L ho;split at hd
  ·rename_i r b2;cases hd;have hd:=b2;unfold fR at hd;split at hd
   ·rename_i K A c' hm;split at hd
    ·rename_i id ex;split at hd
     ·rename_i K1 A1 kv hi;split at hd
      ·rename_i i a3;split at hd
       ·rename_i q;obtain⟨rfl,rfl,c2,c4⟩:=q;split at hd
        ·rename_i z us hz;split at hd
         ·rename_i b3;cases hd;obtain⟨ti,kt,et,te,h1,h2,J,Z,h6⟩:=nQ C hm hc;have I:=aV E D;have hk:=aV E ko;rw[ex]at I;exact lL m h1 h2 J (.inl ho) hi (by rw[vg b3];exact hi) I (gM a3 J.isKey hk) (aV E L) c2 c4 hz
         ·cases hd
        ·cases hd
       ·cases hd
      ·cases hd
     ·cases hd
    ·cases hd
   ·cases hd
  ·unfold fc at hd;split at hd
   ·rename_i K c' hm;split at hd
    ·rename_i id ex;split at hd
     ·rename_i K1 kv hi;split at hd
      ·rename_i i v a3 c5;split at hd
       ·rename_i q;obtain⟨rfl,q2⟩:=q;cases hd;obtain⟨ti,kt,et,te,h1,h2,J,Z⟩:=nO C hm hc;have I:=aV E D;have hk:=aV E ko;rw[ex]at I;refine oo m h1 h2 J (.inl ho) hi I (gM a3 J.isKey hk) (tH c5 (aV E L)) (fun p hp e=>?_);have:=List.all_eq_true.1 q2 p hp;rw[(fB J.isKey).2 e]at this;cases this
       ·cases hd
      ·cases hd
     ·cases hd
    ·cases hd
   ·cases hd
 ·rename_i t D ko L ho;split at hd
  ·rename_i r b2;cases hd;have hd:=b2;unfold fR at hd;split at hd
   ·rename_i K A c' hm;split at hd
    ·rename_i id ex;split at hd
     ·rename_i K1 A1 kv hi;split at hd
      ·rename_i i a3;split at hd
       ·rename_i q;obtain⟨rfl,rfl,c2,c4⟩:=q;split at hd
        ·rename_i z us hz;split at hd
         ·rename_i b3;cases hd;obtain⟨ti,kt,et,te,h1,h2,J,Z,h6⟩:=nQ C hm hc;have I:=aV E D;have hk:=aV E ko;rw[ex]at I;exact lL m h1 h2 J (.inr ho) hi (by rw[vg b3];exact hi) I (gM a3 J.isKey hk) (aV E L) c2 c4 hz
         ·cases hd
        ·cases hd
       ·cases hd
      ·cases hd
     ·cases hd
    ·cases hd
   ·cases hd
  ·unfold fc at hd;split at hd
   ·rename_i K c' hm;split at hd
    ·rename_i id ex;split at hd
     ·rename_i K1 kv hi;split at hd
      ·rename_i i v a3 c5;split at hd
       ·rename_i q;obtain⟨rfl,q2⟩:=q;cases hd;obtain⟨ti,kt,et,te,h1,h2,J,Z⟩:=nO C hm hc;have I:=aV E D;have hk:=aV E ko;rw[ex]at I;refine oo m h1 h2 J (.inr ho) hi I (gM a3 J.isKey hk) (tH c5 (aV E L)) (fun p hp e=>?_);have:=List.all_eq_true.1 q2 p hp;rw[(fB J.isKey).2 e]at this;cases this
       ·cases hd
      ·cases hd
     ·cases hd
    ·cases hd
   ·cases hd
 ·rename_i c ho;obtain⟨callee,args,c6⟩:=c;unfold pS at hd;simp only at hd;split at hd
  ·rename_i b;unfold qE at hd;split at hd
   ·rename_i x0 t ex et;obtain⟨D,O,rfl⟩:∃D,args = #[D]∧ev s D=x0:=by
     match X:args.toList,ex with
     | [D],ex=>exact⟨D,Array.ext' X,by simpa using ex⟩
    have ax:c6 = #[t]:=Array.ext' et;subst O ax;split at hd
    ·unfold sS at hd;split at hd
     ·rename_i ti ht;split at hd
      ·rename_i kt et id hk ex;split at hd
       ·rename_i K A kv hi;cases hd;have I:=aV E D;rw[ex]at I;exact zk m (C.find ht) hk hi I ho
       ·cases hd
      ·cases hd
     ·cases hd
    unfold CT at hd;split at hd
    ·rename_i ti ht;split at hd
     ·rename_i k hk;split at hd
      ·rename_i e he;split at hd
       ·cases hd
       ·rename_i a5;cases hd;refine BS m (C.find ht) (.inl ⟨e,he⟩) (aV E D) ho hk ⟨fun h=>(by rw[he]at h;cases h),fun⟨β,str,ex⟩=>?_⟩;rw[ex]at a5;exact absurd rfl a5
      ·rename_i he;split at hd
       ·rename_i a5;cases hd;refine BS m (C.find ht) (.inr he) (aV E D) ho hk ⟨fun _=>?_,fun _=>he⟩;unfold isStr at a5;split at a5
        ·rename_i β str ex;exact⟨β,str,ex⟩
        ·cases a5
       ·cases hd
      ·cases hd
     ·cases hd
    ·cases hd
   ·rename_i x0 y0 ex;obtain⟨D,L,O,rfl,rfl⟩:∃D L,args = #[D,L]∧ev s D=x0∧ev s L=y0:=by
     match X:args.toList,ex with
     | [D,L],ex=>exact⟨D,L,Array.ext' X,by simp at ex;exact ex.1,by simp at ex;exact ex.2⟩
    subst O;unfold EA at hd;split at hd
    ·rename_i β k i bx k' j ex ey;split at hd
     ·rename_i c7;subst c7;cases hd;have I:=aV E D;have hy:=aV E L;rw[ex]at I;rw[ey]at hy;exact HR m I hy ho
     ·cases hd
    ·cases hd
   ·rename_i x0 y0 ex;obtain⟨D,L,O,rfl,rfl⟩:∃D L,args = #[D,L]∧ev s D=x0∧ev s L=y0:=by
     match X:args.toList,ex with
     | [D,L],ex=>exact⟨D,L,Array.ext' X,by simp at ex;exact ex.1,by simp at ex;exact ex.2⟩
    subst O;unfold EA at hd;split at hd
    ·rename_i β k i bx k' j ex ey;split at hd
     ·rename_i c7;subst c7;cases hd;have I:=aV E D;have hy:=aV E L;rw[ex]at I;rw[ey]at hy;exact Gy m I hy ho
     ·cases hd
    ·cases hd
   ·rename_i x0 y0 t t' ex et;obtain⟨D,L,O,rfl,rfl⟩:∃D L,args = #[D,L]∧ev s D=x0∧ev s L=y0:=by
     match X:args.toList,ex with
     | [D,L],ex=>exact⟨D,L,Array.ext' X,by simp at ex;exact ex.1,by simp at ex;exact ex.2⟩
    have ax:c6 = #[t,t']:=Array.ext' et;subst O ax;split at hd
    ·rename_i d7;subst d7;unfold nb at hd;split at hd
     ·rename_i e te A M;obtain⟨a7,h1,a8,h2,J,h4,Z⟩:=bX C M;split at hd
      ·rename_i ys b1;split at hd
       ·rename_i ex;cases hd;exact uh m hn h1 h2 J h4 Z (aV E D) (aV E L) ho (xs:=[]) (.inl ⟨ex,rfl,rfl,rfl⟩) b1 hc.1 hc.2
       ·rename_i id ex;split at hd
        ·rename_i e' B xs a2;split at hd
         ·rename_i b5;subst b5;split at hd
          ·rename_i d8;subst d8;simp only[Option.some.injEq,Prod.mk.injEq]at hd;obtain⟨rfl,rfl,rfl⟩:=hd;exact uh m hn h1 h2 J h4 Z (aV E D) (aV E L) ho (xs:=xs) (.inr ⟨id,ex,a2,rfl,rfl⟩) b1 hc.1 hc.2
          ·cases hd
         ·cases hd
        ·rename_i B xs a2;split at hd
         ·rename_i b5;subst b5;simp only[Option.some.injEq,Prod.mk.injEq]at hd;obtain⟨rfl,rfl,rfl⟩:=hd;have I:=aV E D;rw[ex]at I;exact wR m hn h1 h2 J h4 Z I (aV E L) ho a2 b1 hc.1 hc.2.1 hc.2.2
         ·cases hd
        ·cases hd
       ·cases hd
      ·cases hd
     ·cases hd
    ·cases hd
   ·rename_i x0 y0 t t' ex et;obtain⟨D,L,O,rfl,rfl⟩:∃D L,args = #[D,L]∧ev s D=x0∧ev s L=y0:=by
     match X:args.toList,ex with
     | [D,L],ex=>exact⟨D,L,Array.ext' X,by simp at ex;exact ex.1,by simp at ex;exact ex.2⟩
    have ax:c6 = #[t,t']:=Array.ext' et;subst O ax;unfold rW at hd;split at hd
    ·rename_i e te A M;obtain⟨a7,h1,a8,h2,J,h4,Z⟩:=bX C M;split at hd
     ·rename_i ys b1;split at hd
      ·rename_i id ex;split at hd
       ·rename_i e' B xs a2;split at hd
        ·rename_i b5;subst b5;simp only[Option.some.injEq,Prod.mk.injEq]at hd;obtain⟨rfl,rfl,rfl⟩:=hd;have I:=aV E D;rw[ex]at I;exact FA m h1 h2 J h4 I (aV E L) ho a2 b1
        ·cases hd
       ·cases hd
      ·cases hd
     ·cases hd
    ·cases hd
   ·cases hd
  ·rename_i fo;unfold uX at hd;split at hd
   ·rename_i fid ch q ef;split at hd
    ·rename_i ys u' d9;have hf:=w9 (aV E fo);rw[ef]at hf;obtain⟨q1,q2,q3⟩:=nN m d9;split at hd
     ·split at hd
      ·split at hd
       ·rename_i b6 hin hl hi;split at hd
        ·rename_i de;cases hd;have hc:jy P fid b6 hin q.r q.hout:=by unfold vU at hc;rw[show q.die=none from c9]at hc;exact hc
         have hg:=GV (new:=new) q1 c8 ho (V.mono q2 (fun _ _ h=>h) hf) (q3 _ (jK (jG E args.toList))) hl hi de hc;refine fun K Q hk=>hg K Q fun v w' hp=>hk v w' ?_
         exact aF.after (h:=h) (u1:=u') rfl q2 hp
        ·cases hd
       ·cases hd
      ·cases hd
     ·split at hd
      ·rename_i b6 hl;cases hd;have hg:=F0 (new:=new) q1 ho (V.mono q2 (fun _ _ h=>h) hf) (q3 _ (jK (jG E args.toList))) hl hc;refine fun K Q hk=>hg K Q fun v w' hp=>hk v w' ?_
       have:=aF.after (h:=h) (u1:=u) rfl q2 hp;simpa using this
      ·cases hd
    ·cases hd
   ·cases hd
  ·cases hd
 ·cases hd
def JL:af→Bool
 | .unk=>true
 | _=>false
def dying(op:Op)(iR:Option vE):QW :=
 match op,iR with
 | .call c,some q=>match c.callee with
  | .value _=>if q.own && JL q.r && q.hout.isEmpty then q.die else none
  | _=>none
 | _,_=>none
theorem HE(m:Mem Bw w0 ρ φ h w)(L:eP n (Fr (own φ h) Bw w) ρ s a)(E:∀j,j<8→ρ (new+j)=none){o:Oper}{asm:Option Bool}{iR:Option vE}{y:Value}(f:dying o.op iR=some y){x:af}{u:gZ}{c:Prop}
  (hd:gU P tb new asm iR o.op s h=some (x,u,c)) (hc:c):Lr P o a w y (fun I=>∃v,aF Bw w0 ρ φ h w new .unk u v I):=by
 unfold dying at f;split at f
 ·rename_i c0 q ho;split at f
  ·rename_i X B;split at f
   ·rename_i p;simp only[Bool.and_eq_true,List.isEmpty_iff]at p;obtain⟨⟨C,z⟩,hout⟩:=p;obtain⟨callee,args,Y⟩:=c0;simp only at B;subst B;have Z:q.r = .unk:=by
     unfold JL at z;split at z
     ·assumption
     ·cases z
    rw[ho]at hd;simp only[gU,pS]at hd;unfold uX at hd;split at hd
    ·rename_i fid M q' ef eq;cases eq;split at hd
     ·rename_i ys u' J;have N:=w9 (aV L X);rw[ef]at N;obtain⟨q1,O,q3⟩:=nN m J;rw[if_pos C]at hd;split at hd
      ·split at hd
       ·rename_i A hin hl hi;split at hd
        ·rename_i D;cases hd;rw[Z,hout]at D;have hc:jR P fid A hin y:=by unfold vU at hc;rw[f]at hc;exact hc
         have hg:=Jn (new:=new) q1 E ho (V.mono O (fun _ _ h=>h) N) (q3 _ (jK (jG L args.toList))) hl hi D hc;refine fun K Q hk=>hg K Q fun I ⟨v,hp⟩=>hk I ⟨v,?_⟩
         rw[hout];exact aF.after (h:=h) (u1:=u') rfl O hp
        ·cases hd
       ·cases hd
      ·cases hd
     ·cases hd
    ·cases hd
   ·cases f
  ·cases f
 ·cases f
end
end Go.Tv
