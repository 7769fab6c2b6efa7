import Derived.Test.YtobbjfkfmdiklaaGreatDoorTvN
namespace Go.Tv
open Go Go.RowKit
def zl(a b:QV):Bool:=a.all fun x=> !b.contains x
theorem pK{a b:QV}(h:zl a b=true){x:Nat}(ha:x∈a):x ∉ b:=fun hb=>by
 have:=List.all_eq_true.1 h x ha;simp[hb]at this
theorem gO{u:gX}{k:Nat}(hk:∀p∈u,p.1≠k){h:Nat→Qz}:apply u h k=h k:=by
 induction u generalizing h with
 | nil=>rfl
 | cons p u j =>
  obtain⟨i,o⟩:=p;simp only[apply];rw[j (fun q v=>hk q (by simp[v])),aR _ _ (Ne.symm (hk (i,o) (by simp)))]
theorem Ik{u:gX}{k:Nat}(hk:∃p∈u,p.1=k){h h':Nat→Qz}:apply u h k=apply u h' k:=by
 induction u generalizing h h' with
 | nil=>obtain⟨p,hp,_⟩:=hk;simp at hp
 | cons p u x =>
  obtain⟨i,o⟩:=p;simp only[apply];by_cases v:∃q∈u,q.1=k
  ·exact x v
  ·have j:∀q∈u,q.1≠k:=fun q h1 h2=>v ⟨q,h1,h2⟩
   rw[gO j,gO j];obtain⟨q,h1,h2⟩:=hk;rcases List.mem_cons.1 h1 with rfl | h1
   ·subst h2;rw[aB,aB]
   ·exact absurd h2 (j q h1)
theorem DK{u v:gX}{A B:QV}(hu:∀p∈u,p.1∈A)(z:∀p∈v,p.1∈B)(hd:zl A B=true){h:Nat→Qz}:apply u (apply v h)=apply v (apply u h):=by
 funext k;by_cases hk:∃p∈u,p.1=k
 ·have x:∀p∈v,p.1≠k:=fun p hp e=>by obtain⟨q,C,D⟩:=hk;exact pK hd (hu q C) (by rw[D,←e];exact z p hp)
  rw[gO x (h:=apply u h)];exact Ik hk
 ·have j:∀p∈u,p.1≠k:=fun p hp e=>hk ⟨p,hp,e⟩
  rw[gO j];exact(gy (gO j) v).symm
section
variable{P:Program}{tb:bT}{an:An}{n:NS}{base:Nat}{ops:Array Oper}{Bw:Nat→Prop}{w0:cC P}{F W:Nat→QV}
theorem vv{s j:Nat→ag}{o:Oper}(p:∀t∈o.looksAt ops,s t=j t):∀x∈o.op.operands.toList,ev s x=ev j x:=fun x q=>by
 cases x with
 | tmp t =>
  refine p t (List.mem_append_left _ (List.mem_filterMap.2 ⟨_,q,rfl⟩))
 | const v=>rfl
 | global g=>rfl
 | func f=>rfl
theorem p9{s j:Nat→ag}{o:Oper}(p:∀t∈o.looksAt ops,s t=j t){g:Nat×Bool}(q:o.guard=some g):guardOf an n ops g s=guardOf an n ops g j:=by
 unfold guardOf;split
 ·rename_i d hd;rw[p d (List.mem_append_right _ (by simp[q,hd]))]
 ·rfl
theorem tN{s j:Nat→ag}{h h':Nat→Qz}{i:Nat}{o:Oper}(p:∀t∈o.looksAt ops,s t=j t)(q:∀i∈j5 h o.op (fy s o.op),h i=h' i):
  oS P tb an n base ops i o s h=oS P tb an n base ops i o j h':=by
 unfold oS;rw[yz (vv p) q];split
 ·split
  ·rfl
  ·rename_i g u;rw[p9 p u]
 ·rfl
theorem nS{s j:Nat→ag}{o:Oper}(p:∀t∈o.looksAt ops,s t=j t):fy s o.op=fy j o.op:=List.map_congr_left (vv p)
theorem DR{h h':Nat→Qz}{j:List ag}(p:∀i∈xg h j,h i=h' i):xg h j=xg h' j:=by
 unfold xg;congr 1;have:∀i∈bu j,h i=h' i:=fun i hi=>p i (List.mem_append_left _ hi)
 revert this;generalize bu j=l;intro hl;induction l with
 | nil=>rfl
 | cons a l q=>rw[List.flatMap_cons,List.flatMap_cons,hl a (by simp),q (fun i hi=>hl i (by simp[hi]))]
theorem Bq{h h':Nat→Qz}{j:List ag}(p:∀i∈wD h j,h i=h' i):wD h j=wD h' j:=by
 unfold wD;congr 1;have:∀i∈bu j,h i=h' i:=fun i hi=>p i (List.mem_append_left _ hi)
 revert this;generalize bu j=l;intro hl;induction l with
 | nil=>rfl
 | cons a l q=>rw[List.flatMap_cons,List.flatMap_cons,hl a (by simp),q (fun i hi=>hl i (by simp[hi]))]
theorem pk{h h':Nat→Qz}{op:Op}{j:List ag}(p:∀i∈j5 h op j,h i=h' i):j5 h op j=j5 h' op j:=by
 cases op <;> first | rfl | exact DR p | exact Bq p
structure oN(P:Program)(tb:bT)(an:An)(n:NS)(base:Nat)(ops:Array Oper)(F W:Nat→QV)(i:Nat)(s:Nat→ag)(h:Nat→Qz)(s':Nat→ag)(h':Nat→Qz):Prop where
 ex:∃o x u c,ops[i]? = some o∧oS P tb an n base ops i o s h=some (x,u,c)∧c∧(∀j∈j5 h o.op (fy s o.op),j∈F i)∧(∀p∈u,p.1∈W i)∧s'=kh s o.dst x∧h'=apply u h
theorem u7{s:Nat→ag}{d:QJ}{x:ag}{t:Nat}(h:∀k,d=some k→k≠t):kh s d x t=s t:=by
 cases d with
 | none=>rfl
 | some d=>exact aR _ _ (Ne.symm (h d rfl))
theorem FJ{s:Nat→ag}{d e:QJ}{x y:ag}(h:∀k,d=some k→e≠some k):kh (kh s d x) e y=kh (kh s e y) d x:=by
 cases d with
 | none=>rfl
 | some d =>
  cases e with
  | none=>rfl
  | some e =>
   have j:e≠d:=fun q=>h d rfl (by rw[q])
   funext k;simp only[kh,bF];by_cases h1:k=e <;> by_cases h2:k=d <;> simp_all
theorem wF{i j:Nat}{q z:Oper}(hi:ops[i]? = some q)(Y:ops[j]? = some z)(M:q.apart ops z=true)(h1:zl (W i) (F j)=true)(h2:zl (W j) (F i)=true)(h3:zl (W i) (W j)=true)
  {s Z A:Nat→ag} {h B C:Nat→Qz} (a1:oN P tb an n base ops F W i s h Z B) (a2:oN P tb an n base ops F W j Z B A C) :
  ∃sj D,oN P tb an n base ops F W j s h sj D∧oN P tb an n base ops F W i sj D A C:=by
 obtain⟨o,x,u,c,e1,e2,e3,e4,N,rfl,rfl⟩:=a1.ex;obtain⟨o',y,v,c',f1,f2,f3,f4,O,rfl,rfl⟩:=a2.ex;rw[hi]at e1;cases e1;rw[Y]at f1;cases f1;obtain⟨p1,p2,p3⟩:=Oper.apart_spec M;have E:∀t∈z.looksAt ops,kh s q.dst x t=s t:=fun t ht=>u7 fun k hk e=>by subst e;exact p1 k hk ht
 have I:∀k∈j5 (apply u h) z.op (fy (kh s q.dst x) z.op),apply u h k=h k:=fun k hk=>gO fun p hp e=>pK h1 (N p hp) (by rw[e];exact f4 k hk)
 have g2:=tN (P:=P) (tb:=tb) (an:=an) (n:=n) (base:=base) (i:=j) E I;rw[f2]at g2;have V:=nS E;have X:=pk I;have J:∀t∈q.looksAt ops,s t=kh s z.dst y t:=fun t ht=>(u7 fun k hk e=>by subst e;exact p3 k hk ht).symm
 have L:∀k∈j5 h q.op (fy s q.op),h k=apply v h k:=fun k hk=>(gO fun p hp e=>pK h2 (O p hp) (by rw[e];exact e4 k hk)).symm
 have g3:=tN (P:=P) (tb:=tb) (an:=an) (n:=n) (base:=base) (i:=i) J L;rw[e2]at g3;refine⟨kh s z.dst y,apply v h,⟨z,y,v,c',Y,g2.symm,f3,fun k hk=>f4 k ?_,O,rfl,rfl⟩,⟨q,x,u,c,hi,g3.symm,e3,fun k hk=>e4 k ?_,N,?_,?_⟩⟩
 ·rw[X,V];exact hk
 ·rw[pk L,nS J];exact hk
 ·exact FJ p2
 ·exact(DK N O h3).symm
def FN(P:Program)(tb:bT)(an:An)(n:NS)(base:Nat)(ops:Array Oper)(F W:Nat→QV)(Q:(Nat→ag)→(Nat→Qz)→Prop):Nat→Array Bool→(Nat→ag)→(Nat→Qz)→Prop
 | 0,listed,s,h=>Region.ready .any ops listed=[]∧Q s h
 | j+1,listed,s,h=>(Region.ready .any ops listed=[]→Q s h) ∧
  ∀i∈Region.ready .any ops listed,∃p h',oN P tb an n base ops F W i s h p h'∧FN P tb an n base ops F W Q j (listed.setIfInBounds i true) p h'
def td(ops:Array Oper)(F W:Nat→QV)(i j:Nat)(p q:Oper):Bool:=p.apart ops q && zl (W i) (F j) && zl (W j) (F i) && zl (W i) (W j)
def kN(m:QV)(o:Oper):Nat:=o.after.toList.foldl (fun a e=>if Region.binds .any e then a ||| 2 ^ e.on ||| m.getD e.on 0 else a) 0
def ux(m:QV):List Oper→QV
 | []=>m
 | o::r=>ux (m++[kN m o]) r
def pP(ops:Array Oper):QV:=ux [] ops.toList
theorem BP{m:QV}{o:Oper}{i:Nat}(h:(kN m o).testBit i=true):∃e∈o.after.toList,Region.binds .any e=true∧(e.on=i∨(m.getD e.on 0).testBit i=true):=by
 have key:∀(l:List Edge) (a:Nat),(l.foldl (fun a e=>if Region.binds .any e then a ||| 2 ^ e.on ||| m.getD e.on 0 else a) a).testBit i=true →
   a.testBit i=true∨∃e∈l,Region.binds .any e=true∧(e.on=i∨(m.getD e.on 0).testBit i=true):=fun l=>by
  induction l with
  | nil=>intro a h;exact .inl h
  | cons e l j =>
   intro a h;rw[List.foldl_cons]at h;rcases j _ h with h1 | ⟨p,h1,h2⟩
   ·split at h1
    ·rename_i hb;rw[Nat.testBit_or,Nat.testBit_or,Bool.or_eq_true,Bool.or_eq_true]at h1;rcases h1 with(h1 | h1) | h1
     ·exact .inl h1
     ·exact .inr ⟨e,by simp,hb,.inl (by rw[Nat.testBit_two_pow]at h1;simpa using h1)⟩
     ·exact .inr ⟨e,by simp,hb,.inr h1⟩
    ·exact .inl h1
   ·exact .inr ⟨p,by simp[h1],h2⟩
 rcases key _ _ h with h1 | h1
 ·simp at h1
 ·exact h1
theorem yn:∀(r:List Oper) (m:QV),∃l,ux m r=m++l
 | [],m=>⟨[],by simp[ux]⟩
 | o::r,m=>by
  obtain⟨l,h⟩:=yn r (m++[kN m o]);exact⟨kN m o::l,by simp only[ux];rw[h];simp⟩
theorem BA:∀(r:List Oper) (m:QV) (k:Nat) (o:Oper),r[k]? = some o→∃j l,ux m r=j++[kN j o]++l∧j.length=m.length+k
 | [],m,k,o,h=>by simp at h
 | o::r,m,0,p,h=>by
  simp at h;subst h;obtain⟨l,h⟩:=yn r (m++[kN m o]);exact⟨m,l,by simp only[ux];exact h,by simp⟩
 | o::r,m,k+1,p,h=>by
  obtain⟨j,l,h1,h2⟩:=BA r (m++[kN m o]) k p (by simpa using h);exact⟨j,l,by simp only[ux];exact h1,by simp at h2;omega⟩
theorem HY{j i:Nat}{p:Oper}(z:ops[j]? = some p)(h:((pP ops).getD j 0).testBit i=true):∃e∈p.after.toList,Region.binds .any e=true∧(e.on=i∨e.on<j∧((pP ops).getD e.on 0).testBit i=true):=by
 obtain⟨u,l,h1,h2⟩:=BA ops.toList [] j p (by simpa using z);simp only[List.length_nil,Nat.zero_add]at h2;have v:pP ops=u++[kN u p]++l:=h1;have A:(pP ops).getD j 0=kN u p:=by rw[v,List.getD_eq_getElem?_getD,List.append_assoc,List.getElem?_append_right (by omega)];simp[h2]
 rw[A]at h;obtain⟨e,B,C,q⟩:=BP h;refine⟨e,B,C,q.imp (fun h=>h) fun q=>?_⟩;rcases Nat.lt_or_ge e.on j with x | x
 ·refine⟨x,?_⟩;rw[v,List.append_assoc,List.getD_eq_getElem?_getD,List.getElem?_append_left (by omega),←List.getD_eq_getElem?_getD];exact q
 ·rw[List.getD_eq_getElem?_getD,List.getElem?_eq_none (by omega)]at q;simp at q
def oX(ops:Array Oper)(listed:Array Bool):Prop:=∀(k:Nat) (o:Oper),ops[k]? = some o→listed.getD k false=true→∀e∈o.after,Region.binds .any e=true→listed.getD e.on false=true
theorem qm{listed:Array Bool}(hc:oX ops listed){i:Nat}:∀(n j:Nat) (p:Oper),j<n→ops[j]? = some p→(∀e∈p.after,Region.binds .any e=true→listed.getD e.on false=true) →
  ((pP ops).getD j 0).testBit i=true→listed.getD i false=true
 | 0,_,_,h,_,_,_=>absurd h (by omega)
 | n+1,j,p,hn,u,hd,hb=>by
  obtain⟨e,z,A,v⟩:=HY u hb;have hl:=hd e (by simpa using z) A;rcases v with rfl | ⟨v,B⟩
  ·exact hl
  ·have q:e.on<ops.size:=by have:=(Array.getElem?_eq_some_iff.1 u).1;omega
   have x:ops[e.on]? = some ops[e.on]:=Array.getElem?_eq_getElem q;exact qm hc n e.on _ (by omega) x (hc _ _ x hl) B
theorem oX.add{listed:Array Bool}(hc:oX ops listed){j:Nat}(C:j∈Region.ready .any ops listed):oX ops (listed.setIfInBounds j true):=fun k o hk hl e B hb=>by
 obtain⟨_,D,z,u⟩:=mem_ready.1 C;by_cases h:j=k
 ·subst h;rw[z]at hk;cases hk;exact getD_set_true (u e B hb)
 ·rw[getD_set_ne false h]at hl;exact getD_set_true (hc k o hk hl e B hb)
theorem wM{Q:(Nat→ag)→(Nat→Qz)→Prop}{i:Nat}{Y:Oper}(hi:ops[i]? = some Y):∀(q:Nat) (listed:Array Bool) {s D:Nat→ag} {h u:Nat→Qz},
  oX ops listed→(∀j E,ops[j]? = some E→j≠i→listed.getD j true=false→((pP ops).getD j 0).testBit i=false→td ops F W i j Y E=true) →
  i∈Region.ready .any ops listed→oN P tb an n base ops F W i s h D u→FN P tb an n base ops F W Q q (listed.setIfInBounds i true) D u→FN P tb an n base ops F W Q (q+1) listed s h
 | 0,listed,s,D,h,u,_,_,B,z,H=>by
  refine⟨fun e=>(by rw[e]at B;cases B),fun j I=>?_⟩;by_cases p:j=i
  ·subst p;exact⟨D,u,z,H⟩
  ·have:=ready_mono I p;rw[H.1]at this;cases this
 | q+1,listed,s,D,h,u,hcl,v,B,z,H=>by
  refine⟨fun e=>(by rw[e]at B;cases B),fun j I=>?_⟩;by_cases p:j=i
  ·subst p;exact⟨D,u,z,H⟩
  ·obtain⟨a1,a3,a2,H2⟩:=H.2 j (ready_mono I p);obtain⟨A,E,C,J⟩:=mem_ready.1 I;have L:((pP ops).getD j 0).testBit i=false:=by
    cases hb:((pP ops).getD j 0).testBit i with
    | false=>rfl
    | true =>
     have h1:=qm hcl (j+1) j E (by omega) C J hb;have Z:=(mem_ready.1 B).1;rcases Nat.lt_or_ge i listed.size with h' | h'
     ·simp[h']at Z h1;rw[Z]at h1;cases h1
     ·simp[Array.getElem?_eq_none h']at h1
   have x:=v j E C p A L;simp only[td,Bool.and_eq_true]at x;obtain⟨sj,O,b1,b2⟩:=wF hi C x.1.1.1 x.1.1.2 x.1.2 x.2 z a2;refine⟨sj,O,b1,wM hi q (listed.setIfInBounds j true) (hcl.add I) (fun k ok hk V M X=>?_) (ready_mono B (Ne.symm p)) b2 ?_⟩
   ·refine v k ok hk V ?_ X;by_cases N:j=k
    ·subst N;exact A
    ·rw[getD_set_ne true N]at M;exact M
   ·rw[Array.setIfInBounds_comm _ _ p];exact H2
def AD(P:Program)(tb:bT)(an:An)(n:NS)(base:Nat)(ops:Array Oper):List Oper→Nat→(Nat→ag)→(Nat→Qz)→Option ((Nat→ag)×(Nat→Qz)×List Prop×List (QV×QV))
 | [],_,s,h=>some (s,h,[],[])
 | o::r,k,s,h=>match oS P tb an n base ops k o s h with
  | some (x,u,c)=>match AD P tb an n base ops r (k+1) (kh s o.dst x) (apply u h)with
   | some (j,h',p,q)=>some (j,h',c::p,(j5 h o.op (fy s o.op),u.map (·.1))::q)
   | none=>none
  | none=>none
def EM(ops:Array Oper)(F W:Nat→QV)(A:QV)(listed:Array Bool)(i:Nat):Bool :=
 match ops[i]? with
 | none=>false
 | some p=>(List.range ops.size).all fun j=>j == i || listed.getD j true || match ops[j]? with
   | some q=>(A.getD j 0).testBit i || td ops F W i j p q
   | none=>true
def FH(ops:Array Oper)(F W:Nat→QV)(A:QV):Nat→Nat→Array Bool→Bool
 | 0,_,listed=>(Region.ready .any ops listed).isEmpty
 | j+1,k,listed=>(Region.ready .any ops listed).contains k && EM ops F W A listed k && FH ops F W A j (k+1) (listed.setIfInBounds k true)
theorem u6{A:QV}{i:Nat}{v:Oper}{listed:Array Bool}(hi:ops[i]? = some v)(h:EM ops F W A listed i=true)(j:Nat)(x:Oper)
  (z:ops[j]? = some x) (p:j≠i) (q:listed.getD j true=false) (u:(A.getD j 0).testBit i=false):td ops F W i j v x=true:=by
 simp only[EM,hi,List.all_eq_true,List.mem_range]at h;have h1:=h j (Array.getElem?_eq_some_iff.1 z).1;simp only[z,Bool.or_eq_true,beq_iff_eq,p,false_or,q,u,Bool.false_eq_true]at h1;exact h1
theorem CF{Q:(Nat→ag)→(Nat→Qz)→Prop}:∀(l:List Oper) (k:Nat) (listed:Array Bool) {s A:Nat→ag} {h h':Nat→Qz} {B:List Prop} {v:List (QV×QV)},(∀j,l[j]? = ops[k+j]?) →
  (∀j,v[j]?.map (·.1)=(if j<l.length then some (F (k+j))else none))→(∀j,v[j]?.map (·.2)=(if j<l.length then some (W (k+j))else none)) →
  oX ops listed→FH ops F W (pP ops) l.length k listed=true→AD P tb an n base ops l k s h=some (A,h',B,v)→nV B→Q A h'→FN P tb an n base ops F W Q l.length listed s h
 | [],_,listed,s,A,h,h',B,v,_,_,_,_,hB,q,_,C=>by
  cases q;exact⟨by simpa [FH]using hB,C⟩
 | o::l,k,listed,s,A,h,h',B,v,hl,M,N,hcl,hB,q,hc,C=>by
  have D:ops[k]? = some o:=by simpa using(hl 0).symm
  simp only[List.length_cons,FH,Bool.and_eq_true]at hB;obtain⟨⟨E,hf⟩,I⟩:=hB;simp only[AD]at q;split at q
  ·rename_i x u c X;split at q
   ·rename_i s2 h2 Y Z J;cases q;have O:=M 0;have V:=N 0;simp at O V;have L:oN P tb an n base ops F W k s h (kh s o.dst x) (apply u h):=⟨o,x,u,c,D,X,hc.1,fun j hj=>by rw[←O];exact hj,fun p hp=>by rw[←V];exact List.mem_map.2 ⟨p,hp,rfl⟩,rfl,rfl⟩;have z:k∈Region.ready .any ops listed:=by simpa using E
    refine wM D l.length listed hcl (u6 D hf) z L ?_;refine CF l (k+1) _ (fun j=>by have:=hl (j+1);simpa [Nat.add_assoc,Nat.add_comm 1 j]using this) (fun j=>?_) (fun j=>?_) (hcl.add z) I J hc.2 C
    ·have:=M (j+1);simpa [Nat.add_assoc,Nat.add_comm 1 j]using this
    ·have:=N (j+1);simpa [Nat.add_assoc,Nat.add_comm 1 j]using this
   ·cases q
  ·cases q
theorem qf(z:bX P tb){N:(Nat→ag)→(Nat→Qz)→Prop}{Q:Exit→Act→World→Prop}
  (I:∀s h a w,N s h→Fe n base Bw w0 (fun i=>i<ops.size) s h a w→Q .normal a w):∀(p:Nat) (listed:Array Bool) {s:Nat→ag} {h:Nat→Qz} {a:Act} {w:World},listed.size=ops.size →
  Fe n base Bw w0 (fun i=>listed.getD i false=true) s h a w→FN P tb an n base ops F W N p listed s h→wpAny P .any ops Q p listed a w
 | 0,listed,s,h,a,w,q,hm,H=>by
  refine⟨H.1,I s h a w H.2 ?_⟩;obtain⟨ρ,φ,A,B,C⟩:=hm.ex;refine⟨ρ,φ,A,B,fun id u hu=>(C id u hu).imp (fun h=>h) fun⟨i,j,h1,h2⟩=>⟨i,j,?_,h2⟩⟩;rcases Nat.lt_or_ge i listed.size with h' | h'
  ·omega
  ·simp[Array.getElem?_eq_none h']at h1
 | p+1,listed,s,h,a,w,q,hm,H=>by
  refine⟨fun e=>I s h a w (H.1 e) ?_,fun i hi=>?_⟩
  ·obtain⟨ρ,φ,A,B,C⟩:=hm.ex;refine⟨ρ,φ,A,B,fun id u hu=>(C id u hu).imp (fun h=>h) fun⟨i,j,h1,h2⟩=>⟨i,j,?_,h2⟩⟩;rcases Nat.lt_or_ge i listed.size with h' | h'
   ·omega
   ·simp[Array.getElem?_eq_none h']at h1
  ·obtain⟨s',h',J,V⟩:=H.2 i hi;obtain⟨o,x,u,c,O,X,Y,e4,e5,rfl,rfl⟩:=J.ex;obtain⟨D,_⟩:=mem_ready.1 hi;have E:i<listed.size:=by rw[q];exact(Array.getElem?_eq_some_iff.1 O).1
   have L:¬(listed.getD i false=true):=fun e=>by simp[E]at D e;rw[D]at e;cases e
   refine j3 z hm O L X Y fun a' w' M=>qf z I p _ (by simpa using q) ?_ V
   obtain⟨ρ,φ,A,B,C⟩:=M.ex;refine⟨ρ,φ,A,B,fun id v Z=>(C id v Z).imp (fun h=>h) fun⟨j,j',h1,h2⟩=>⟨j,j',?_,h2⟩⟩;rcases h1 with h1 | rfl
   ·exact getD_set_true h1
   ·simp[E]
end
structure R{P:Program}(n:NS)(Bw:Nat→Prop)(w0:cC P)(σ:St)(a:Act)(w:World):Prop where
 ex:∃ρ φ,Mem Bw w0 ρ φ σ.h w∧fb n (Fr (own φ σ.h) Bw w) ρ σ.s a∧∀id u,ρ id=some u→id<σ.nx
 pn:∀i u,w0.pc i=some u→i<σ.pn
def W(P:Program)(n:NS)(Bw:Nat→Prop)(w0:cC P)(c:Code)(σ:St)(Q:Exit→St→Prop):Prop :=
 ∀a w,R n Bw w0 σ a w→c.wp P (fun e j w'=>∃σ',R n Bw w0 σ' j w'∧Q e σ') a w
section
variable{P:Program}{n:NS}{Bw:Nat→Prop}{w0:cC P}{Q Q':Exit→St→Prop}{σ:St}
theorem W.mono{c:Code}(h:W P n Bw w0 c σ Q)(j:∀e σ',Q e σ'→Q' e σ'):W P n Bw w0 c σ Q':=fun a w z =>
 wp_mono (h a w z) fun e _ w' ⟨σ',h1,h2⟩=>⟨σ',h1,j _ _ h2⟩
theorem KP(h:Q .normal σ):W P n Bw w0 .skip σ Q:=fun _ _ j=>wp_skip ⟨σ,j,h⟩
theorem aw(h:Q .ret σ):W P n Bw w0 .ret σ Q:=fun _ _ j=>wp_ret ⟨σ,j,h⟩
theorem KT{id:Nat}(h:Q (.exit id) σ):W P n Bw w0 (.exit id) σ Q:=fun _ _ j=>wp_exit ⟨σ,j,h⟩
def w7(P:Program)(n:NS)(Bw:Nat→Prop)(w0:cC P)(d:Code)(Q:Exit→St→Prop):Exit→St→Prop
 | .normal,σ=>W P n Bw w0 d σ Q
 | e,σ=>Q e σ
theorem af{c d:Code}(h:W P n Bw w0 c σ (w7 P n Bw w0 d Q)):W P n Bw w0 (.seq c d) σ Q:=fun a w j =>
 wp_seq (wp_mono (h a w j) fun e p w' ⟨σ',h1,h2⟩=>by
  cases e with
  | normal=>exact h2 p w' h1
  | _=>exact⟨σ',h1,h2⟩)
theorem Dw{c:Operand}{x y:Code}{β b:Bool}(hc:ev σ.s c = .p β .bool b)(h1:b=true→W P n Bw w0 x σ Q)(h2:b=false→W P n Bw w0 y σ Q):W P n Bw w0 (.cond c x y) σ Q:=fun a w j=>by
 obtain⟨ρ,φ,_,u,_⟩:=j.ex;have q:=aU u c;rw[hc]at q;refine wp_cond (nG q) ?_;cases b with
 | true=>exact h1 rfl a w j
 | false=>exact h2 rfl a w j
def lj(id:Nat)(Q:Exit→St→Prop):Exit→St→Prop
 | .exit j,σ=>if j=id then Q .normal σ else Q (.exit j) σ
 | e,σ=>Q e σ
theorem ak{id:Nat}{c:Code}(h:W P n Bw w0 c σ (lj id Q)):W P n Bw w0 (.block id c) σ Q:=fun a w j =>
 wp_block (wp_mono (h a w j) fun e q u ⟨σ',h1,h2⟩=>by
  cases e with
  | exit p =>
   simp only[lj]at h2;simp only[Exit.inBlock];split at h2
   ·rename_i e;rw[if_pos e];exact⟨σ',h1,h2⟩
   ·rename_i e;rw[if_neg e];exact⟨σ',h1,h2⟩
  | _=>exact⟨σ',h1,h2⟩)
theorem Iy(p:Nat→Prop)(h:∃k,p k):∃k,p k∧∀m,p m→k≤m:=by
 obtain⟨k,hk⟩:=h;induction k using Nat.strongRecOn with
 | _ k j =>
  by_cases hm:∃m,m<k∧p m
  ·obtain⟨m,h1,h2⟩:=hm;exact j m h1 h2
  ·exact⟨k,hk,fun m h2=>Nat.le_of_not_lt fun h1=>hm ⟨m,h1,h2⟩⟩
def Le(n:NS)(σ σ':St):Prop:=∀(P:Program) Bw (w0:cC P) a w,R n Bw w0 σ a w→R n Bw w0 σ' a w
theorem Le.refl(σ:St):Le n σ σ:=fun _ _ _ _ _ h=>h
theorem Le.trans{σ1 j p:St}(h:Le n σ1 j)(k:Le n j p):Le n σ1 p:=fun _ _ _ _ _ q=>k _ _ _ _ _ (h _ _ _ _ _ q)
theorem HM{σ':St}{c:Code}(hl:Le n σ σ')(h:W P n Bw w0 c σ' Q):W P n Bw w0 c σ Q:=fun a w j=>h a w (hl _ _ _ _ _ j)
def Ld{α:Type}(n:NS)(Inv:Nat→α→Prop)(f:α→St)(k:Nat)(Q:Exit→St→Prop):Exit→St→Prop
 | .normal,σ=>∃m y,m<k∧Inv m y∧Le n σ (f y)
 | e,σ=>Q e σ
theorem KE{α:Type}{c:Code}(Inv:Nat→α→Prop)(f:α→St)(h:∀k x,Inv k x→W P n Bw w0 c (f x) (Ld n Inv f k Q)){k:Nat}{x:α}(E:Inv k x)(hl:Le n σ (f x)):
  W P n Bw w0 (.loop c) σ Q:=fun a w I=>by
 let p:Act→World→Nat→Prop:=fun a w k=>∃x,Inv k x∧R n Bw w0 (f x) a w
 have hp:∀a w,(∃k,p a w k)→∃k,p a w k∧∀m,p a w m→k≤m:=fun a w=>Iy (p a w)
 classical
 let u:Act→World→Nat:=fun a w=>if h:∃k,p a w k then(hp a w h).choose else 0
 have q:∀a w (h:∃k,p a w k),p a w (u a w)∧∀m,p a w m→u a w≤m:=fun a w h=>by simp only[u,dif_pos h];exact(hp a w h).choose_spec
 refine Go.wp_loop (fun a w=>∃k,p a w k) u ⟨k,x,E,hl _ _ _ _ _ I⟩ fun a w hi=>?_
 obtain⟨⟨x,h1,h2⟩,_⟩:=q a w hi;refine wp_mono (h _ x h1 a w h2) fun e A B ⟨σ',C,D⟩=>?_
 cases e with
 | normal =>
  obtain⟨m,y,hm,v,z⟩:=D;have j:p A B m:=⟨y,v,z _ _ _ _ _ C⟩;exact⟨⟨m,j⟩,Nat.lt_of_le_of_lt ((q A B ⟨m,j⟩).2 m j) hm⟩
 | _=>exact⟨σ',C,D⟩
theorem vS{tb:bT}(p:bX P tb)(an:An){id:Nat}{ops:Array Oper}{x:Nat→ag}{h':Nat→Qz}{z:List Prop}(E:AX P tb an n σ.nx ops ops.toList 0 σ.s σ.h=some (x,h',z))(hc:nV z)
  (I:Q .normal ⟨x,h',σ.nx+8*ops.size,σ.pn⟩):W P n Bw w0 (.region id ops false) σ Q:=fun a w A=>by
 obtain⟨ρ,φ,J,L,M⟩:=A.ex;refine wp_region ?_;have:=vF (P:=P) (tb:=tb) (an:=an) (n:=n) (base:=σ.nx) (ops:=ops) (Bw:=Bw) (w0:=w0) p (Q:=fun e B C=>∃σ',R n Bw w0 σ' B C∧Q e σ') ops.toList 0 (a:=a) (w:=w)
  ⟨ρ,φ,J,L,fun id u hu=> .inl (M id u hu)⟩ (fun j=>by simp) E hc (fun B C hm=>⟨_,?_,I⟩)
 ·rw[←List.range_eq_range']at this;simpa using this
 ·obtain⟨q,v,N,O,D⟩:=hm.ex;refine⟨⟨q,v,N,O,fun id u hu=>?_⟩,A.pn⟩;simp only[Array.length_toList]at D;rcases D id u hu with h1 | ⟨i,j,h1,h2,V⟩ <;> simp only <;> omega
theorem tI{tb:bT}(p:bX P tb)(an:An)(r:Nat){id:Nat}{ops:Array Oper}{z:Nat→ag}{h':Nat→Qz}{A:List Prop}{y:Value}(I:py P tb an n σ.nx ops r ops.toList 0 σ.s σ.h=some (z,h',A,y))(hc:nV A)
  (J:Q (.panic [{ v:=y,recovered:=false }]) ⟨z,h',σ.nx+8*ops.size,σ.pn⟩):W P n Bw w0 (.region id ops false) σ Q:=fun a w B=>by
 obtain⟨ρ,φ,L,M,N⟩:=B.ex;refine wp_region ?_;have:=rP (P:=P) (tb:=tb) (an:=an) (n:=n) (base:=σ.nx) (ops:=ops) (Bw:=Bw) (w0:=w0) p (Q:=fun e C D=>∃σ',R n Bw w0 σ' C D∧Q e σ') r ops.toList 0 (a:=a) (w:=w)
  ⟨ρ,φ,L,M,fun id u hu=> .inl (N id u hu)⟩ (fun j=>by simp) I hc (fun C D hm=>⟨_,?_,J⟩)
 ·rw[←List.range_eq_range']at this;simpa using this
 ·obtain⟨q,x,O,V,E⟩:=hm.ex;refine⟨⟨q,x,O,V,fun id u hu=>?_⟩,B.pn⟩;simp only[Array.length_toList]at E;rcases E id u hu with h1 | ⟨i,j,h1,h2,X⟩ <;> simp only <;> omega
def qu(j:List (QV×QV))(i:Nat):QV:=match j[i]? with | some p=>p.1 | none=>[]
def qE(j:List (QV×QV))(i:Nat):QV:=match j[i]? with | some p=>p.2 | none=>[]
theorem uc{tb:bT}{an:An}{base:Nat}{ops:Array Oper}:∀(l:List Oper) (k:Nat) {s q:Nat→ag} {h h':Nat→Qz} {u:List Prop} {p:List (QV×QV)},AD P tb an n base ops l k s h=some (q,h',u,p)→p.length=l.length
 | [],_,_,_,_,_,_,_,j=>by cases j;rfl
 | o::l,k,s,q,h,h',u,p,j=>by
  simp only[AD]at j;split at j
  ·split at j
   ·rename_i h2;cases j;simp[uc l (k+1) h2]
   ·cases j
  ·cases j
theorem Ln{tb:bT}(C:bX P tb)(hm:P.follows .mixedOrders=true)(an:An){id:Nat}{ops:Array Oper}{A:Nat→ag}{h':Nat→Qz}{N:List Prop}{q:List (QV×QV)}
  (O:AD P tb an n σ.nx ops ops.toList 0 σ.s σ.h=some (A,h',N,q)) (hx:FH ops (qu q) (qE q) (pP ops) ops.size 0 (Array.replicate ops.size false)=true) (hc:nV N)
  (hq:Q .normal ⟨A,h',σ.nx+8*ops.size,σ.pn⟩):W P n Bw w0 (.region id ops true) σ Q:=fun a w V=>by
 obtain⟨ρ,φ,q1,q2,q3⟩:=V.ex;obtain⟨D,qF⟩:=q1.drew;have X:=uc ops.toList 0 O;refine wp_region_any hm ?_;have hA:=CF (P:=P) (tb:=tb) (an:=an) (n:=n) (base:=σ.nx) (ops:=ops) (F:=qu q) (W:=qE q) (Q:=fun s h=>s=A∧h=h') ops.toList 0 (Array.replicate ops.size false) (fun j=>by simp)
  (fun j=>by
   simp only[Nat.zero_add];split
   ·rename_i E;have p:j<q.length:=by omega
    simp[qu,p]
   ·rename_i E;have p:q.length≤j:=by omega
    simp[List.getElem?_eq_none p])
  (fun j=>by
   simp only[Nat.zero_add];split
   ·rename_i E;have p:j<q.length:=by omega
    simp[qE,p]
   ·rename_i E;have p:q.length≤j:=by omega
    simp[List.getElem?_eq_none p])
  (fun k o hk hl=>by simp[Array.getD]at hl) (by simpa using hx) O hc ⟨rfl,rfl⟩
 have I:FN P tb an n σ.nx ops (qu q) (qE q) (fun s h=>s=A∧h=h') ops.size (Array.replicate ops.size false) σ.s σ.h:=by simpa using hA
 refine qf (P:=P) (tb:=tb) (an:=an) (n:=n) (base:=σ.nx) (ops:=ops) (Bw:=Bw) (w0:=w0) C (fun s h a w J v=>?_) ops.size _ (by simp) ⟨ρ,φ,D,q2.mono qF (fun _ _ h=>h),fun id u hu=> .inl (q3 id u hu)⟩ I;obtain⟨rfl,rfl⟩:=J;obtain⟨L,M,r1,r2,r3⟩:=v.ex;refine⟨⟨s,h,σ.nx+8*ops.size,σ.pn⟩,⟨⟨L,M,r1,r2,fun id u hu=>?_⟩,V.pn⟩,hq⟩;rcases r3 id u hu with h1 | ⟨i,j,h1,h2,h3⟩ <;> simp only <;> omega
/-! ### B Y: Z is dead is dropped,x get new z -/
def aA(l:List (Nat×ag))(m:Qw)(nx:Nat)(pn:Nat:=0):St:=⟨fun t=>(look l t).getD .unk,fun i=>look m i,nx,pn⟩
def qa(f:Nat→Nat)(s:Nat→ag):List (Nat×ag)→Prop
 | []=>True
 | (t,x)::r=>s t=lV f x∧qa f s r
def pV(f:Nat→Nat)(h:Nat→Qz):Qw→Prop
 | []=>True
 | (i,o)::r=>h (f i)=some (ny f o)∧pV f h r
theorem qa.get{f:Nat→Nat}{s:Nat→ag}:∀ {l:List (Nat×ag)},qa f s l→∀ {t x},(t,x)∈l→s t=lV f x
 | (_,_)::_,h,t,x,hm=>by
  rcases List.mem_cons.1 hm with e | hm
  ·cases e;exact h.1
  ·exact qa.get h.2 hm
theorem pV.get{f:Nat→Nat}{h:Nat→Qz}:∀ {l:Qw},pV f h l→∀ {t x},(t,x)∈l→h (f t)=some (ny f x)
 | (_,_)::_,h,t,x,hm=>by
  rcases List.mem_cons.1 hm with e | hm
  ·cases e;exact h.1
  ·exact pV.get h.2 hm
def jg(f:Nat→Nat)(l:List (Nat×ag))(m:Qw)(nx pn:Nat):Bool :=
 (List.range pn).all (fun i=>f i == i && decide (i<nx)) &&
 l.all (fun p=>(ids p.2).all (· < nx)) && m.all (fun p=>decide (p.1<nx) && (ot p.2).all (· < nx)) && m.all (fun p=>m.all fun q=>p.1 == q.1 || !(f p.1 == f q.1))
theorem L2(f:Nat→Nat){l:List (Nat×ag)}{m:Qw}{nx:Nat}(hs:qa f σ.s l)(ho:pV f σ.h m)(M:jg f l m nx σ.pn=true):Le n σ (aA l m nx σ.pn):=fun P Bw w0 a w hr=>by
 obtain⟨ρ,φ,I,q2,q3⟩:=hr.ex;simp only[jg,Bool.and_eq_true,List.all_eq_true,decide_eq_true_eq,Bool.or_eq_true,beq_iff_eq,Bool.not_eq_true',beq_eq_false_iff_ne]at M;obtain⟨⟨⟨k0,k1⟩,k2⟩,k3⟩:=M;let ρ':Nat→QW:=fun i=>if i<nx then ρ (f i)else none
 let J:Nat→Nat→Prop:=fun i=>φ (f i)
 have p:∀i,i<nx→ρ' i=ρ (f i):=fun i hi=>by simp only[ρ',if_pos hi]
 have q:∀i o,look m i=some o→σ.h (f i)=some (ny f o)∧i<nx∧∀j∈ot o,j<nx:=fun i o hi=>by have hm:=nc hi;exact⟨pV.get ho hm,(k2 _ hm).1,(k2 _ hm).2⟩
 have z:∀o,(ny f o).live=o.live:=fun o=>gP
 have E:∀k,own J (fun i=>look m i) k→own φ σ.h k:=by rintro k ⟨id,o,h1,h2,h4⟩;obtain⟨N,p2,_⟩:=q id o h1;exact⟨f id,_,N,by rw[z];exact h2,h4⟩
 have D:∀β a v,Fr (own φ σ.h) Bw w β a v→Fr (own J (fun i=>look m i)) Bw w β a v:=fun β a v h=>⟨fun x=>h.1 (E _ x),h.2⟩
 refine⟨⟨ρ',J,⟨fun id o a1=>?_,fun id o k h1 h2 h3=>I.lt _ _ k (q id o h1).1 (by rw[z];exact h2) h3,fun id B o o' k h1 h2 h3 h4 h5 h6=>?_,I.bw,fun k hk=>I.ow k (E k hk),I.kp,fun i u hi=>?_⟩,⟨q2.tm,q2.df,fun t=>?_⟩,fun id u hu=>?_⟩,hr.pn⟩
 ·obtain⟨N,p2,p3⟩:=q id o a1;obtain⟨u,r1,C⟩:=I.ob _ _ N;refine⟨u,by rw[p id p2];exact r1,?_⟩;cases o with
  | arr e A L=>exact OR.mono (ρ:=ρ) (ρ':=ρ) (w:=w) (o:= .arr e A L) D (fun _ _ h=>h) (fun _ h=>h) (fun _ _ _=>rfl) C
  | fz A L =>
   simp only[ny,OR]at C ⊢;exact qj rfl (V.mono D (fun _ _ h=>h) C)
  | mat e e2 A a3 hole=>exact C1 (fun k B e=>p B (p3 B (by subst e;simp[ot]))) (OR.mono (ρ:=ρ) (ρ':=ρ) (w:=w) D (fun _ _ h=>h) (fun _ h=>h) (fun _ _ _=>rfl) C)
  | mpo K A kv=>exact OR.mono (ρ:=ρ) (ρ':=ρ) (w:=w) (o:= .mpo K A kv) D (fun _ _ h=>h) (fun _ h=>h) (fun _ _ _=>rfl) C
  | mpl K kv=>exact OR.mono (ρ:=ρ) (ρ':=ρ) (w:=w) (o:= .mpl K kv) D (fun _ _ h=>h) (fun _ h=>h) (fun _ _ _=>rfl) C
  | cutz A L =>
   simp only[ny,OR]at C ⊢;exact⟨C.1,qj rfl (V.mono D (fun _ _ h=>h) C.2)⟩
  | bytes e L=>exact OR.mono (ρ:=ρ) (ρ':=ρ) (w:=w) (o:= .bytes e L) D (fun _ _ h=>h) (fun _ h=>h) (fun _ _ _=>rfl) C
  | mpq b kv=>exact C
  | nds e e2 ns hole =>
   have r3:=OR.mono (ρ:=ρ) (ρ':=ρ) (w:=w) D (fun _ _ h=>h) (fun _ h=>h) (fun _ _ _=>rfl) C;match hole with
   | none=>exact tH r3
   | some (k,g,B)=>exact uz (p B (p3 B (by simp[ot]))) r3
  | lmp k n L cs =>
   obtain⟨g,t,cells,e,O,X,Y,Z,s4⟩:=C;refine⟨g,t,cells,e,O,X,by rw[Y,bD],Z,?_⟩;exact mI (fun i hi=>p i (p3 i (by simpa only [ot]using hi))) (VL.mono D (fun _ _ h=>h) (fun _ _ h=>h) s4)
  | vrow n sz cs =>
   obtain⟨g,t,cells,e,O,X,Y,Z,s4⟩:=C;refine⟨g,t,cells,e,O,X,by rw[Y,bD],by rw[←Z,bD],?_⟩;exact mI (fun i hi=>p i (p3 i (by simpa only [ot]using hi))) (VL.mono D (fun _ _ h=>h) (fun _ _ h=>h) s4)
  | box cs =>
   obtain⟨g,t,cells,e,O,X,Y,Z⟩:=C;refine⟨g,t,cells,e,O,X,by rw[Y,bD],?_⟩;exact mI (fun i hi=>p i (p3 i (by simpa only [ot]using hi))) (VL.mono D (fun _ _ h=>h) (fun _ _ h=>h) Z)
 ·obtain⟨N,p2,_⟩:=q id o h1;obtain⟨a2,a4,_⟩:=q B o' h3;have:=I.dj _ _ _ _ k N (by rw[z];exact h2) a2 (by rw[z];exact h4) h5 h6;rcases k3 _ (nc h1) _ (nc h3)with e | e
  ·exact e
  ·exact absurd this e
 ·have:=k0 i (List.mem_range.2 (hr.pn i u hi));rw[p i this.2,this.1];exact I.pc i u hi
 ·simp only[aA];cases hl:look l t with
  | none=>simp only[Option.getD_none,V]
  | some x =>
   have hm:=nc hl;have hv:=q2.sl t;rw[qa.get hs hm]at hv;simp only[Option.getD_some];exact Ki (fun i hi=>p i (k1 _ hm i hi)) (V.mono D (fun _ _ h=>h) hv)
 ·simp only[ρ']at hu;split at hu
  ·assumption
  ·cases hu
end
def bd(β:Bool):List (Σ T:Ty,T.den)→List ag
 | []=>[]
 | ⟨T,x⟩::r=>enc β T x::bd β r
def aK:List ag→ag
 | [x]=>x
 | xs=> .tup xs
def sM(tb:bT)(s:Nat→ag)(h:Nat→Qz):List ResultVar→Option (List ag)
 | []=>some []
 | .tmp t::r=>match sM tb s h r with
  | some xs=>some (s t::xs)
  | none=>none
 | .cell a t::r=>match s a with
  | .adr id i sz off=>match h id with
   | some (.box cs)=>match tb.find t with
    | some ti=>match gq ti cs (i*sz+off)with
     | some x=>match sM tb s h r with
      | some xs=>some (x::xs)
      | none=>none
     | none=>none
    | none=>none
   | _=>none
  | _=>none
def mE(h:Nat→Qz):List ag→List Ty→Option (List (Σ T:Ty,T.den))
 | [],[]=>some []
 | x::xs,T::Ts=>if(cellsOf x).all ag.cell && kL T x then match Gm T h x with
  | some (y,u)=>match mE (apply u h) xs Ts with
   | some ys=>some (⟨T,y⟩::ys)
   | none=>none
  | none=>none
  else none
 | _,_=>none
def LQ(tb:bT)(q:List ResultVar)(j:List (Σ T:Ty,T.den)):Exit→St→Prop
 | .normal,σ=>∃p Ts,sM tb σ.s σ.h q=some p∧mE σ.h p Ts=some j
 | .ret,σ=>∃p Ts,sM tb σ.s σ.h q=some p∧mE σ.h p Ts=some j
 | _,_=>False
def nj(args:List ag):St:=⟨fun t=>(args[t]?).getD .unk,fun _=>none,0,0⟩
section
variable{P:Program}{tb:bT}{n:NS}{Bw:Nat→Prop}{w0:cC P}{w:World}{ρ:Nat→QW}{φ:Nat→Nat→Prop}{s:Nat→ag}{h:Nat→Qz}{a:Act}
theorem jb(p:bX P tb)(m:Mem Bw w0 ρ φ h w)(z:fb n (Fr (own φ h) Bw w) ρ s a):∀ {E:List ResultVar} {u:List ag},sM tb s h E=some u →
  ∃q,(E.mapM (fun r:ResultVar=>(match r with | .tmp t=>pure (a.tmps.getD t undef) | .cell B t=>(do loadVar t (←asAddr (a.tmps.getD B undef)):Sem Value)))).run P w = .ok q w∧iS (Fr (own φ h) Bw w) ρ u q
 | [],u,j=>by cases j;exact⟨[],rfl,trivial⟩
 | .tmp t::r,u,j=>by
  simp only[sM]at j;split at j
  ·rename_i C h1;cases j;obtain⟨q,A,D⟩:=jb p m z h1;refine⟨a.tmps.getD t undef::q,?_,z.sl t,D⟩;rw[List.mapM_cons,Sem.run_bind];simp only[Sem.run_pure,Result.andThen_ok,Sem.run_bind,A]
  ·cases j
 | .cell B t::r,u,j=>by
  simp only[sM]at j;split at j
  ·rename_i id i sz off e;split at j
   ·rename_i cs hi;split at j
    ·rename_i ti ht;split at j
     ·rename_i x J;split at j
      ·rename_i C h1;cases j;obtain⟨q,A,D⟩:=jb p m z h1;have I:=z.sl B;rw[e]at I;obtain⟨b,L,M⟩:=qd m I (cs:=cs) (off:=i*sz+off) (c:=True) (by simp only[mr,hi]) trivial;obtain⟨v,N,O⟩:=iO (P:=P) (p.find ht) M J;refine⟨v::q,?_,O,D⟩;rw[List.mapM_cons,Sem.run_bind];simp only[L,asAddr,Sem.run_bind,Sem.run_pure,Result.andThen_ok,N];simp only[asAddr]at A;rw[A];rfl
      ·cases j
     ·cases j
    ·cases j
   ·cases j
  ·cases j
theorem nE:∀ {L:List ag} {Ts:List Ty} {h:Nat→Qz} {j:List (Σ T:Ty,T.den)} {C:QY},Mem Bw w0 ρ φ h w→mE h L Ts=some j→iS (Fr (own φ h) Bw w) ρ L C →
  iS (fun _=>Fr fK Bw w false) jl (bd false j) C
 | [],[],h,j,C,_,p,D=>by
  cases p;cases C with
  | nil=>trivial
  | cons _ _=>exact D.elim
 | x::L,T::Ts,h,j,C,m,p,D=>by
  simp only[mE]at p;split at p
  ·rename_i hc;split at p
   ·rename_i y u h1;split at p
    ·rename_i ys h2;cases p;cases C with
     | nil=>exact D.elim
     | cons v C =>
      obtain⟨O,X,Y⟩:=m5 m h1;simp only[Bool.and_eq_true]at hc;obtain⟨z,A⟩:=hc;obtain⟨Z,r2,r3⟩:=fV z D.1;obtain⟨s1,s2⟩:=Y _ Z;refine⟨?_,nE O h2 (iS.mono X (fun _ _ h=>h) D.2)⟩;have E:ai (Fr fK Bw w false) T y (fun k u=>v.cells.toList[k]? = some u):=ai.mono (fun a u hh=>⟨fun e=>e,hh.2⟩) (fun _ _ h=>h) s1;by_cases q:∃N,x = .agg N
      ·obtain⟨N,rfl⟩:=q;have J:=D.1;simp only[V]at J;obtain⟨us,rfl,e2,e3⟩:=J;have B:T.scalar=false:=by simpa [kL]using A
       simp only[enc,B];simp only[Bool.false_eq_true,if_false,V];refine⟨us,rfl,?_,jL false T y _ (ai.mono (fun _ _ h=>h) (fun k u hk=>by simpa [Value.cells]using hk) E)⟩;rw[eP,s2,e2];rfl
      ·have I:cellsOf x=[x]:=by cases x <;> first | rfl | exact(q ⟨_,rfl⟩).elim | cases A
       have B:T.scalar=true:=by cases x <;> first | exact A | exact(q ⟨_,rfl⟩).elim | cases A
       rw[I]at z;simp only[List.all_cons,List.all_nil,Bool.and_true]at z;have M:=fO (ra z D.1);simp only[enc,B,if_true,V];refine⟨trivial,?_⟩;rw[M]at E;refine ai.gA (fun k u hk hu=>?_) E;rw[Ty.fG B]at hk;obtain rfl:k=0:=by omega
       simp at hu;exact hu.symm
    ·cases p
   ·cases p
  ·cases p
 | [],_::_,_,_,_,_,p,_=>by cases p
 | _::_,[],_,_,_,_,p,_=>by cases p
theorem jd{F:Bool→Addr→Value→Prop}:∀ {xs:List ag} {j:QY},iS F ρ xs j→xs.length=j.length∧∀t:Nat,V F ρ ((xs[t]?).getD .unk) ((j[t]?).getD undef)
 | [],[],_=>⟨rfl,fun t=>by simp only[List.getElem?_nil,Option.getD_none,V]⟩
 | x::xs,v::j,h=>by
  obtain⟨h1,h2⟩:=jd h.2;refine⟨by simp[h1],fun t=>?_⟩;cases t with
  | zero=>exact h.1
  | succ t=>simpa using h2 t
 | [],_::_,h=>h.elim
 | _::_,[],h=>h.elim
theorem lP{α β:Type}(f:α→Sem β)(l:Array α)(w:World){j:List β}(h:(l.toList.mapM f).run P w = .ok j w):(l.mapM f).run P w = .ok j.toArray w:=by
 rw[Array.mapM_eq_mapM_toList,Sem.run_map,h];rfl
def EN:Nat→Nat→Prop:=fun _ _=>False
theorem Pure.jK{f:FuncId}{fn:Func}{c:Code}(M:bX P tb)(hf:P.funcs[f]? = some fn)(hname:(fn.name == "runtime.NumGoroutine")=false)(hb:fn.body=some c){args:List ag}(a1:args.length≤fn.ntmps)
  {j:List (Σ T:Ty,T.den)} (h:∀Bw w0,W P fn.ntmps Bw w0 c (nj args) (LQ tb fn.results.toList j)) (_:od args=true):Pure P f args (aK (bd false j)):=by
 refine⟨⟨fn,hf,hname,by rw[hb];rfl⟩,fun Bw w p I N z=>calls_of_wp hf hb ?_⟩;have O:∀β a v,Fr fK Bw w β a v→Fr (own EN (nj args).h) Bw w β a v:=fun β a v hh=>⟨fun⟨_,_,_,_,X⟩=>X,hh.2⟩
 obtain⟨hl,hg⟩:=jd z;have hR:R fn.ntmps Bw (jn I) (nj args) { tmps:=p++Array.replicate (fn.ntmps - p.size) undef,defers:=[] } w:=by
  refine⟨⟨jl,EN,⟨fun id o h=>(by cases h),fun id o k h=>(by cases h),fun id a2 o o' k h1=>(by cases h1),N,fun k ⟨_,_,_,_,X⟩=>X.elim,Kept.refl _,fun i u h=>(by cases h)⟩,⟨?_,rfl,fun t=>?_⟩,fun id u hu=>(by cases hu)⟩,fun i u h=>(by cases h)⟩
  ·have:p.size=args.length:=by rw[hl,Array.length_toList]
   simp only[Array.size_append,Array.size_replicate];omega
  ·have hv:=V.mono O (fun _ _ h=>h) (hg t);simp only[nj];rcases Nat.lt_or_ge t p.size with q | q
   ·have e:(p++Array.replicate (fn.ntmps - p.size) undef).getD t undef=(p.toList[t]?).getD undef:=by simp[Array.getD_eq_getD_getElem?,Array.getElem?_append,q]
    rw[e];exact hv
   ·have:args[t]? = none:=List.getElem?_eq_none (by rw[hl,Array.length_toList];exact q);rw[this];simp only[Option.getD_none,V]
 refine wp_mono (h Bw (jn I) _ _ hR) fun e a' w' ⟨σ',Y,E⟩=>?_
 have key:∀xs Ts,sM tb σ'.s σ'.h fn.results.toList=some xs→mE σ'.h xs Ts=some j→a'.defers=[]∧∃v,(results fn a'.tmps).run P w' = .ok v w' ∧
   ∃J,Ending.returned v = .returned J∧Below w.heap.size w w'∧V (fun _=>Fr fK Bw w' false) jl (aK (bd false j)) J:=fun xs Ts h1 h2=>by
  obtain⟨ρ,φ,Z,q2,_⟩:=Y.ex;obtain⟨B,r1,r2⟩:=jb (P:=P) M Z q2 h1;have C:=nE Z h2 r2;have r4:=lP (P:=P) _ fn.results w' r1;refine⟨q2.df,(if h:B.toArray.size=1 then B.toArray[0]else .tuple B.toArray),?_,_,rfl,Z.kp.below,?_⟩
  ·unfold results;rw[Sem.run_bind];exact(congrArg (fun r=>Result.andThen r (fun a w'=>Sem.run P (pure (if h:a.size=1 then a[0]else Value.tuple a)) w')) r4).trans rfl
  ·have D:=(jd C).1;generalize bd false j=ys at C D ⊢;match ys,B,C with
   | [],[],_=>simp only[aK,V];exact⟨#[],rfl,rfl,by simp only[VL]⟩
   | [y],[v],C=>exact C.1
   | y::y'::ys,v::J::B,C =>
    have:¬((v::J::B).toArray.size=1):=by simp
    rw[dif_neg this];simp only[aK,V];refine⟨_,rfl,by simpa using D.symm,VL.mk fun k x hk=>?_⟩;have:=(jd C).2 k;rw[hk]at this;have L:k<(v::J::B).length:=by rw[←D];exact(List.getElem?_eq_some_iff.1 hk).1
    rw[List.getElem?_eq_getElem L]at this;exact⟨_,by simp[L],this⟩
 cases e with
 | normal =>
  obtain⟨xs,Ts,h1,h2⟩:=E;exact key xs Ts h1 h2
 | ret =>
  obtain⟨xs,Ts,h1,h2⟩:=E;exact key xs Ts h1 h2
 | exit _=>exact E.elim
 | goto _=>exact E.elim
 | panic _=>exact E.elim
 | outgrown=>exact E.elim
end
end Go.Tv
