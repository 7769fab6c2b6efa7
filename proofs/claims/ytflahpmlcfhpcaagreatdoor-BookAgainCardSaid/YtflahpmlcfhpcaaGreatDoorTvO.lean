import Derived.Test.YtflahpmlcfhpcaaGreatDoorTvN
namespace Go.Tv
open Go Go.RowKit
def yO(a b:QV):Bool:=a.all fun x=> !b.contains x
theorem pr{a b:QV}(h:yO a b=true){x:Nat}(ha:x∈a):x ∉ b:=fun hb=>by
 have:=List.all_eq_true.1 h x ha;simp[hb]at this
theorem gK{u:gZ}{k:Nat}(hk:∀p∈u,p.1≠k){h:Nat→Qz}:apply u h k=h k:=by
 induction u generalizing h with
 | nil=>rfl
 | cons p u e =>
  obtain⟨i,o⟩:=p;simp only[apply];rw[e (fun q f=>hk q (by simp[f])),aQ _ _ (Ne.symm (hk (i,o) (by simp)))]
theorem Hn{u:gZ}{k:Nat}(hk:∃p∈u,p.1=k){h h':Nat→Qz}:apply u h k=apply u h' k:=by
 induction u generalizing h h' with
 | nil=>obtain⟨p,x,_⟩:=hk;simp at x
 | cons p u z =>
  obtain⟨i,o⟩:=p;simp only[apply];by_cases v:∃q∈u,q.1=k
  ·exact z v
  ·have e:∀q∈u,q.1≠k:=fun q f j=>v ⟨q,f,j⟩
   rw[gK e,gK e];obtain⟨q,f,j⟩:=hk;rcases List.mem_cons.1 f with rfl | f
   ·subst j;rw[aB,aB]
   ·exact absurd j (e q f)
theorem CL{u v:gZ}{A B:QV}(hu:∀p∈u,p.1∈A)(z:∀p∈v,p.1∈B)(hd:yO A B=true){h:Nat→Qz}:apply u (apply v h)=apply v (apply u h):=by
 funext k;by_cases hk:∃p∈u,p.1=k
 ·have j:∀p∈v,p.1≠k:=fun p x e=>by obtain⟨q,C,D⟩:=hk;exact pr hd (hu q C) (by rw[D,←e];exact z p x)
  rw[gK j (h:=apply u h)];exact Hn hk
 ·have f:∀p∈u,p.1≠k:=fun p x e=>hk ⟨p,x,e⟩
  rw[gK f];exact(gx (gK f) v).symm
section
variable{P:Program}{tb:bU}{an:An}{n:NS}{base:Nat}{ops:Array Oper}{Bw:Nat→Prop}{w0:cw P}{F W:Nat→QV}
theorem wA{s e:Nat→ag}{o:Oper}(j:∀t∈o.looksAt ops,s t=e t):∀x∈o.op.operands.toList,ev s x=ev e x:=fun x p=>by
 cases x with
 | tmp t =>
  refine j t (List.mem_append_left _ (List.mem_filterMap.2 ⟨_,p,rfl⟩))
 | const v=>rfl
 | global g=>rfl
 | func f=>rfl
theorem pY{s e:Nat→ag}{o:Oper}(f:∀t∈o.looksAt ops,s t=e t){g:Nat×Bool}(j:o.guard=some g):guardOf an n ops g s=guardOf an n ops g e:=by
 unfold guardOf;split
 ·rename_i d hd;rw[f d (List.mem_append_right _ (by simp[j,hd]))]
 ·rfl
theorem sW{s e:Nat→ag}{h h':Nat→Qz}{i:Nat}{o:Oper}(f:∀t∈o.looksAt ops,s t=e t)(j:∀i∈jF h o.op (fp s o.op),h i=h' i):
  oo P tb an n base ops i o s h=oo P tb an n base ops i o e h':=by
 unfold oo;rw[yc (wA f) j];split
 ·split
  ·rfl
  ·rename_i g p;rw[pY f p]
 ·rfl
theorem nB{s e:Nat→ag}{o:Oper}(f:∀t∈o.looksAt ops,s t=e t):fp s o.op=fp e o.op:=List.map_congr_left (wA f)
theorem Cd{h h':Nat→Qz}{e:List ag}(f:∀i∈vE h e,h i=h' i):vE h e=vE h' e:=by
 unfold vE;congr 1;have:∀i∈bz e,h i=h' i:=fun i hi=>f i (List.mem_append_left _ hi)
 revert this;generalize bz e=l;intro hl;induction l with
 | nil=>rfl
 | cons a l j=>rw[List.flatMap_cons,List.flatMap_cons,hl a (by simp),j (fun i hi=>hl i (by simp[hi]))]
theorem AV{h h':Nat→Qz}{e:List ag}(f:∀i∈uV h e,h i=h' i):uV h e=uV h' e:=by
 unfold uV;congr 1;have:∀i∈bz e,h i=h' i:=fun i hi=>f i (List.mem_append_left _ hi)
 revert this;generalize bz e=l;intro hl;induction l with
 | nil=>rfl
 | cons a l j=>rw[List.flatMap_cons,List.flatMap_cons,hl a (by simp),j (fun i hi=>hl i (by simp[hi]))]
theorem om{h h':Nat→Qz}{op:Op}{e:List ag}(f:∀i∈jF h op e,h i=h' i):jF h op e=jF h' op e:=by
 cases op <;> first | rfl | exact Cd f | exact AV f
structure o5(P:Program)(tb:bU)(an:An)(n:NS)(base:Nat)(ops:Array Oper)(F W:Nat→QV)(i:Nat)(s:Nat→ag)(h:Nat→Qz)(s':Nat→ag)(h':Nat→Qz):Prop where
 ex:∃o x u c,ops[i]? = some o∧oo P tb an n base ops i o s h=some (x,u,c)∧c∧(∀j∈jF h o.op (fp s o.op),j∈F i)∧(∀p∈u,p.1∈W i)∧s'=ke s o.dst x∧h'=apply u h
theorem wm{s:Nat→ag}{d:QJ}{x:ag}{t:Nat}(h:∀k,d=some k→k≠t):ke s d x t=s t:=by
 cases d with
 | none=>rfl
 | some d=>exact aQ _ _ (Ne.symm (h d rfl))
theorem ED{s:Nat→ag}{d e:QJ}{x y:ag}(h:∀k,d=some k→e≠some k):ke (ke s d x) e y=ke (ke s e y) d x:=by
 cases d with
 | none=>rfl
 | some d =>
  cases e with
  | none=>rfl
  | some e =>
   have f:e≠d:=fun q=>h d rfl (by rw[q])
   funext k;simp only[ke,bF];by_cases j:k=e <;> by_cases p:k=d <;> simp_all
theorem u5{i j:Nat}{f q:Oper}(hi:ops[i]? = some f)(Y:ops[j]? = some q)(L:f.apart ops q=true)(h1:yO (W i) (F j)=true)(h2:yO (W j) (F i)=true)(h3:yO (W i) (W j)=true)
  {s Z z:Nat→ag} {h A B:Nat→Qz} (a1:o5 P tb an n base ops F W i s h Z A) (a2:o5 P tb an n base ops F W j Z A z B) :
  ∃sj C,o5 P tb an n base ops F W j s h sj C∧o5 P tb an n base ops F W i sj C z B:=by
 obtain⟨o,x,u,c,e1,e2,e3,e4,M,rfl,rfl⟩:=a1.ex;obtain⟨o',y,v,c',f1,f2,f3,f4,N,rfl,rfl⟩:=a2.ex;rw[hi]at e1;cases e1;rw[Y]at f1;cases f1;obtain⟨p1,p2,p3⟩:=Oper.apart_spec L;have D:∀t∈q.looksAt ops,ke s f.dst x t=s t:=fun t ht=>wm fun k hk e=>by subst e;exact p1 k hk ht
 have E:∀k∈jF (apply u h) q.op (fp (ke s f.dst x) q.op),apply u h k=h k:=fun k hk=>gK fun p O e=>pr h1 (M p O) (by rw[e];exact f4 k hk)
 have g2:=sW (P:=P) (tb:=tb) (an:=an) (n:=n) (base:=base) (i:=j) D E;rw[f2]at g2;have V:=nB D;have X:=om E;have I:∀t∈f.looksAt ops,s t=ke s q.dst y t:=fun t ht=>(wm fun k hk e=>by subst e;exact p3 k hk ht).symm
 have J:∀k∈jF h f.op (fp s f.op),h k=apply v h k:=fun k hk=>(gK fun p O e=>pr h2 (N p O) (by rw[e];exact e4 k hk)).symm
 have g3:=sW (P:=P) (tb:=tb) (an:=an) (n:=n) (base:=base) (i:=i) I J;rw[e2]at g3;refine⟨ke s q.dst y,apply v h,⟨q,y,v,c',Y,g2.symm,f3,fun k hk=>f4 k ?_,N,rfl,rfl⟩,⟨f,x,u,c,hi,g3.symm,e3,fun k hk=>e4 k ?_,M,?_,?_⟩⟩
 ·rw[X,V];exact hk
 ·rw[om J,nB I];exact hk
 ·exact ED p2
 ·exact(CL M N h3).symm
def EZ(P:Program)(tb:bU)(an:An)(n:NS)(base:Nat)(ops:Array Oper)(F W:Nat→QV)(Q:(Nat→ag)→(Nat→Qz)→Prop):Nat→Array Bool→(Nat→ag)→(Nat→Qz)→Prop
 | 0,listed,s,h=>Region.ready .any ops listed=[]∧Q s h
 | e+1,listed,s,h=>(Region.ready .any ops listed=[]→Q s h) ∧
  ∀i∈Region.ready .any ops listed,∃f h',o5 P tb an n base ops F W i s h f h'∧EZ P tb an n base ops F W Q e (listed.setIfInBounds i true) f h'
def sA(ops:Array Oper)(F W:Nat→QV)(i j:Nat)(e f:Oper):Bool:=e.apart ops f && yO (W i) (F j) && yO (W j) (F i) && yO (W i) (W j)
def kJ(m:QV)(o:Oper):Nat:=o.after.toList.foldl (fun a e=>if Region.binds .any e then a ||| 2 ^ e.on ||| m.getD e.on 0 else a) 0
def tT(m:QV):List Oper→QV
 | []=>m
 | o::r=>tT (m++[kJ m o]) r
def pD(ops:Array Oper):QV:=tT [] ops.toList
theorem AJ{m:QV}{o:Oper}{i:Nat}(h:(kJ m o).testBit i=true):∃e∈o.after.toList,Region.binds .any e=true∧(e.on=i∨(m.getD e.on 0).testBit i=true):=by
 have key:∀(l:List Edge) (a:Nat),(l.foldl (fun a e=>if Region.binds .any e then a ||| 2 ^ e.on ||| m.getD e.on 0 else a) a).testBit i=true →
   a.testBit i=true∨∃e∈l,Region.binds .any e=true∧(e.on=i∨(m.getD e.on 0).testBit i=true):=fun l=>by
  induction l with
  | nil=>intro a h;exact .inl h
  | cons e l j =>
   intro a h;rw[List.foldl_cons]at h;rcases j _ h with f | ⟨p,f,q⟩
   ·split at f
    ·rename_i hb;rw[Nat.testBit_or,Nat.testBit_or,Bool.or_eq_true,Bool.or_eq_true]at f;rcases f with(f | f) | f
     ·exact .inl f
     ·exact .inr ⟨e,by simp,hb,.inl (by rw[Nat.testBit_two_pow]at f;simpa using f)⟩
     ·exact .inr ⟨e,by simp,hb,.inr f⟩
    ·exact .inl f
   ·exact .inr ⟨p,by simp[f],q⟩
 rcases key _ _ h with f | f
 ·simp at f
 ·exact f
theorem xR:∀(r:List Oper) (m:QV),∃l,tT m r=m++l
 | [],m=>⟨[],by simp[tT]⟩
 | o::r,m=>by
  obtain⟨l,h⟩:=xR r (m++[kJ m o]);exact⟨kJ m o::l,by simp only[tT];rw[h];simp⟩
theorem zE:∀(r:List Oper) (m:QV) (k:Nat) (o:Oper),r[k]? = some o→∃e l,tT m r=e++[kJ e o]++l∧e.length=m.length+k
 | [],m,k,o,h=>by simp at h
 | o::r,m,0,f,h=>by
  simp at h;subst h;obtain⟨l,h⟩:=xR r (m++[kJ m o]);exact⟨m,l,by simp only[tT];exact h,by simp⟩
 | o::r,m,k+1,f,h=>by
  obtain⟨e,l,j,p⟩:=zE r (m++[kJ m o]) k f (by simpa using h);exact⟨e,l,by simp only[tT];exact j,by simp at p;omega⟩
theorem F3{j i:Nat}{f:Oper}(z:ops[j]? = some f)(h:((pD ops).getD j 0).testBit i=true):∃e∈f.after.toList,Region.binds .any e=true∧(e.on=i∨e.on<j∧((pD ops).getD e.on 0).testBit i=true):=by
 obtain⟨q,l,A,u⟩:=zE ops.toList [] j f (by simpa using z);simp only[List.length_nil,Nat.zero_add]at u;have v:pD ops=q++[kJ q f]++l:=A;have B:(pD ops).getD j 0=kJ q f:=by rw[v,List.getD_eq_getElem?_getD,List.append_assoc,List.getElem?_append_right (by omega)];simp[u]
 rw[B]at h;obtain⟨e,C,D,p⟩:=AJ h;refine⟨e,C,D,p.imp (fun h=>h) fun p=>?_⟩;rcases Nat.lt_or_ge e.on j with x | x
 ·refine⟨x,?_⟩;rw[v,List.append_assoc,List.getD_eq_getElem?_getD,List.getElem?_append_left (by omega),←List.getD_eq_getElem?_getD];exact p
 ·rw[List.getD_eq_getElem?_getD,List.getElem?_eq_none (by omega)]at p;simp at p
def pg(ops:Array Oper)(listed:Array Bool):Prop:=∀(k:Nat) (o:Oper),ops[k]? = some o→listed.getD k false=true→∀e∈o.after,Region.binds .any e=true→listed.getD e.on false=true
theorem p8{listed:Array Bool}(hc:pg ops listed){i:Nat}:∀(n j:Nat) (f:Oper),j<n→ops[j]? = some f→(∀e∈f.after,Region.binds .any e=true→listed.getD e.on false=true) →
  ((pD ops).getD j 0).testBit i=true→listed.getD i false=true
 | 0,_,_,h,_,_,_=>absurd h (by omega)
 | n+1,j,f,hn,q,hd,hb=>by
  obtain⟨e,x,z,u⟩:=F3 q hb;have hl:=hd e (by simpa using x) z;rcases u with rfl | ⟨u,A⟩
  ·exact hl
  ·have p:e.on<ops.size:=by have:=(Array.getElem?_eq_some_iff.1 q).1;omega
   have v:ops[e.on]? = some ops[e.on]:=Array.getElem?_eq_getElem p;exact p8 hc n e.on _ (by omega) v (hc _ _ v hl) A
theorem pg.add{listed:Array Bool}(hc:pg ops listed){j:Nat}(B:j∈Region.ready .any ops listed):pg ops (listed.setIfInBounds j true):=fun k o hk hl e z hb=>by
 obtain⟨_,C,u,f⟩:=mem_ready.1 B;by_cases h:j=k
 ·subst h;rw[u]at hk;cases hk;exact getD_set_true (f e z hb)
 ·rw[getD_set_ne false h]at hl;exact getD_set_true (hc k o hk hl e z hb)
theorem vK{Q:(Nat→ag)→(Nat→Qz)→Prop}{i:Nat}{Z:Oper}(hi:ops[i]? = some Z):∀(p:Nat) (listed:Array Bool) {s C:Nat→ag} {h q:Nat→Qz},
  pg ops listed→(∀j D,ops[j]? = some D→j≠i→listed.getD j true=false→((pD ops).getD j 0).testBit i=false→sA ops F W i j Z D=true) →
  i∈Region.ready .any ops listed→o5 P tb an n base ops F W i s h C q→EZ P tb an n base ops F W Q p (listed.setIfInBounds i true) C q→EZ P tb an n base ops F W Q (p+1) listed s h
 | 0,listed,s,C,h,q,_,_,A,x,H=>by
  refine⟨fun e=>(by rw[e]at A;cases A),fun j E=>?_⟩;by_cases f:j=i
  ·subst f;exact⟨C,q,x,H⟩
  ·have:=ready_mono E f;rw[H.1]at this;cases this
 | p+1,listed,s,C,h,q,I,u,A,x,H=>by
  refine⟨fun e=>(by rw[e]at A;cases A),fun j E=>?_⟩;by_cases f:j=i
  ·subst f;exact⟨C,q,x,H⟩
  ·obtain⟨a1,a3,a2,H2⟩:=H.2 j (ready_mono E f);obtain⟨z,D,B,J⟩:=mem_ready.1 E;have L:((pD ops).getD j 0).testBit i=false:=by
    cases hb:((pD ops).getD j 0).testBit i with
    | false=>rfl
    | true =>
     have O:=p8 I (j+1) j D (by omega) B J hb;have h0:=(mem_ready.1 A).1;rcases Nat.lt_or_ge i listed.size with h' | h'
     ·simp[h']at h0 O;rw[h0]at O;cases O
     ·simp[Array.getElem?_eq_none h']at O
   have v:=u j D B f z L;simp only[sA,Bool.and_eq_true]at v;obtain⟨sj,V,b1,b2⟩:=u5 hi B v.1.1.1 v.1.1.2 v.1.2 v.2 x a2;refine⟨sj,V,b1,vK hi p (listed.setIfInBounds j true) (I.add E) (fun k ok hk X M Y=>?_) (ready_mono A (Ne.symm f)) b2 ?_⟩
   ·refine u k ok hk X ?_ Y;by_cases N:j=k
    ·subst N;exact z
    ·rw[getD_set_ne true N]at M;exact M
   ·rw[Array.setIfInBounds_comm _ _ f];exact H2
def Bt(P:Program)(tb:bU)(an:An)(n:NS)(base:Nat)(ops:Array Oper):List Oper→Nat→(Nat→ag)→(Nat→Qz)→Option ((Nat→ag)×(Nat→Qz)×List Prop×List (QV×QV))
 | [],_,s,h=>some (s,h,[],[])
 | o::r,k,s,h=>match oo P tb an n base ops k o s h with
  | some (x,u,c)=>match Bt P tb an n base ops r (k+1) (ke s o.dst x) (apply u h)with
   | some (e,h',f,j)=>some (e,h',c::f,(jF h o.op (fp s o.op),u.map (·.1))::j)
   | none=>none
  | none=>none
def Dn(ops:Array Oper)(F W:Nat→QV)(A:QV)(listed:Array Bool)(i:Nat):Bool :=
 match ops[i]? with
 | none=>false
 | some e=>(List.range ops.size).all fun j=>j == i || listed.getD j true || match ops[j]? with
   | some f=>(A.getD j 0).testBit i || sA ops F W i j e f
   | none=>true
def EA(ops:Array Oper)(F W:Nat→QV)(A:QV):Nat→Nat→Array Bool→Bool
 | 0,_,listed=>(Region.ready .any ops listed).isEmpty
 | e+1,k,listed=>(Region.ready .any ops listed).contains k && Dn ops F W A listed k && EA ops F W A e (k+1) (listed.setIfInBounds k true)
theorem uZ{A:QV}{i:Nat}{q:Oper}{listed:Array Bool}(hi:ops[i]? = some q)(h:Dn ops F W A listed i=true)(j:Nat)(u:Oper)
  (v:ops[j]? = some u) (e:j≠i) (f:listed.getD j true=false) (p:(A.getD j 0).testBit i=false):sA ops F W i j q u=true:=by
 simp only[Dn,hi,List.all_eq_true,List.mem_range]at h;have x:=h j (Array.getElem?_eq_some_iff.1 v).1;simp only[v,Bool.or_eq_true,beq_iff_eq,e,false_or,f,p,Bool.false_eq_true]at x;exact x
theorem AA{Q:(Nat→ag)→(Nat→Qz)→Prop}:∀(l:List Oper) (k:Nat) (listed:Array Bool) {s z:Nat→ag} {h h':Nat→Qz} {A:List Prop} {f:List (QV×QV)},(∀j,l[j]? = ops[k+j]?) →
  (∀j,f[j]?.map (·.1)=(if j<l.length then some (F (k+j))else none))→(∀j,f[j]?.map (·.2)=(if j<l.length then some (W (k+j))else none)) →
  pg ops listed→EA ops F W (pD ops) l.length k listed=true→Bt P tb an n base ops l k s h=some (z,h',A,f)→oU A→Q z h'→EZ P tb an n base ops F W Q l.length listed s h
 | [],_,listed,s,z,h,h',A,f,_,_,_,_,hB,e,_,B=>by
  cases e;exact⟨by simpa [EA]using hB,B⟩
 | o::l,k,listed,s,z,h,h',A,f,hl,L,M,q,hB,e,hc,B=>by
  have C:ops[k]? = some o:=by simpa using(hl 0).symm
  simp only[List.length_cons,EA,Bool.and_eq_true]at hB;obtain⟨⟨D,V⟩,E⟩:=hB;simp only[Bt]at e;split at e
  ·rename_i x u c X;split at e
   ·rename_i s2 h2 Y Z I;cases e;have N:=L 0;have O:=M 0;simp at N O;have J:o5 P tb an n base ops F W k s h (ke s o.dst x) (apply u h):=⟨o,x,u,c,C,X,hc.1,fun j hj=>by rw[←N];exact hj,fun p hp=>by rw[←O];exact List.mem_map.2 ⟨p,hp,rfl⟩,rfl,rfl⟩;have v:k∈Region.ready .any ops listed:=by simpa using D
    refine vK C l.length listed q (uZ C V) v J ?_;refine AA l (k+1) _ (fun j=>by have:=hl (j+1);simpa [Nat.add_assoc,Nat.add_comm 1 j]using this) (fun j=>?_) (fun j=>?_) (q.add v) E I hc.2 B
    ·have:=L (j+1);simpa [Nat.add_assoc,Nat.add_comm 1 j]using this
    ·have:=M (j+1);simpa [Nat.add_assoc,Nat.add_comm 1 j]using this
   ·cases e
  ·cases e
theorem pX(z:cg P tb){V:(Nat→ag)→(Nat→Qz)→Prop}{Q:Exit→Act→World→Prop}
  (L:∀s h a w,V s h→E3 n base Bw w0 (fun i=>i<ops.size) s h a w→Q .normal a w):∀(f:Nat) (listed:Array Bool) {s:Nat→ag} {h:Nat→Qz} {a:Act} {w:World},listed.size=ops.size →
  E3 n base Bw w0 (fun i=>listed.getD i false=true) s h a w→EZ P tb an n base ops F W V f listed s h→wpAny P .any ops Q f listed a w
 | 0,listed,s,h,a,w,p,J,H=>by
  refine⟨H.1,L s h a w H.2 ?_⟩;obtain⟨ρ,φ,A,B,C⟩:=J.ex;refine⟨ρ,φ,A,B,fun id u hu=>(C id u hu).imp (fun h=>h) fun⟨i,j,q,D⟩=>⟨i,j,?_,D⟩⟩;rcases Nat.lt_or_ge i listed.size with h' | h'
  ·omega
  ·simp[Array.getElem?_eq_none h']at q
 | f+1,listed,s,h,a,w,p,J,H=>by
  refine⟨fun e=>L s h a w (H.1 e) ?_,fun i hi=>?_⟩
  ·obtain⟨ρ,φ,A,B,C⟩:=J.ex;refine⟨ρ,φ,A,B,fun id u hu=>(C id u hu).imp (fun h=>h) fun⟨i,j,q,D⟩=>⟨i,j,?_,D⟩⟩;rcases Nat.lt_or_ge i listed.size with h' | h'
   ·omega
   ·simp[Array.getElem?_eq_none h']at q
  ·obtain⟨s',h',M,Y⟩:=H.2 i hi;obtain⟨o,x,u,c,X,Z,e3,e4,e5,rfl,rfl⟩:=M.ex;obtain⟨E,_⟩:=mem_ready.1 hi;have I:i<listed.size:=by rw[p];exact(Array.getElem?_eq_some_iff.1 X).1
   have N:¬(listed.getD i false=true):=fun e=>by simp[I]at E e;rw[E]at e;cases e
   refine jR z J X N Z e3 fun a' w' O=>pX z L f _ (by simpa using p) ?_ Y
   obtain⟨ρ,φ,A,B,C⟩:=O.ex;refine⟨ρ,φ,A,B,fun id v hv=>(C id v hv).imp (fun h=>h) fun⟨j,j',q,D⟩=>⟨j,j',?_,D⟩⟩;rcases q with q | rfl
   ·exact getD_set_true q
   ·simp[I]
end
end Go.Tv
