import Derived.Test.YtobbjfkfmdiklaaGreatDoorTvN
namespace Go.Tv
open Go Go.RowKit
def zo(a b:QV):Bool:=a.all fun x=> !b.contains x
theorem pJ{a b:QV}(h:zo a b=true){x:Nat}(ha:x∈a):x ∉ b:=fun hb=>by
 have:=List.all_eq_true.1 h x ha;simp[hb]at this
theorem gG{u:gZ}{k:Nat}(hk:∀p∈u,p.1≠k){h:Nat→Qz}:apply u h k=h k:=by
 induction u generalizing h with
 | nil=>rfl
 | cons p u f =>
  obtain⟨i,o⟩:=p;simp only[apply];rw[f (fun q j=>hk q (by simp[j])),aR _ _ (Ne.symm (hk (i,o) (by simp)))]
theorem HO{u:gZ}{k:Nat}(hk:∃p∈u,p.1=k){h h':Nat→Qz}:apply u h k=apply u h' k:=by
 induction u generalizing h h' with
 | nil=>obtain⟨p,hp,_⟩:=hk;simp at hp
 | cons p u v =>
  obtain⟨i,o⟩:=p;simp only[apply];by_cases j:∃q∈u,q.1=k
  ·exact v j
  ·have f:∀q∈u,q.1≠k:=fun q h1 h2=>j ⟨q,h1,h2⟩
   rw[gG f,gG f];obtain⟨q,h1,h2⟩:=hk;rcases List.mem_cons.1 h1 with rfl | h1
   ·subst h2;rw[aB,aB]
   ·exact absurd h2 (f q h1)
theorem Dw{u v:gZ}{A B:QV}(hu:∀p∈u,p.1∈A)(x:∀p∈v,p.1∈B)(hd:zo A B=true){h:Nat→Qz}:apply u (apply v h)=apply v (apply u h):=by
 funext k;by_cases hk:∃p∈u,p.1=k
 ·have j:∀p∈v,p.1≠k:=fun p hp e=>by obtain⟨q,z,C⟩:=hk;exact pJ hd (hu q z) (by rw[C,←e];exact x p hp)
  rw[gG j (h:=apply u h)];exact HO hk
 ·have f:∀p∈u,p.1≠k:=fun p hp e=>hk ⟨p,hp,e⟩
  rw[gG f];exact(gA (gG f) v).symm
section
variable{P:Program}{tb:bQ}{an:An}{n:NS}{base:Nat}{ops:Array Oper}{Bw:Nat→Prop}{w0:cr P}{F W:Nat→QV}
theorem vQ{s j:Nat→af}{o:Oper}(p:∀t∈o.looksAt ops,s t=j t):∀x∈o.op.operands.toList,ev s x=ev j x:=fun x q=>by
 cases x with
 | tmp t =>
  refine p t (List.mem_append_left _ (List.mem_filterMap.2 ⟨_,q,rfl⟩))
 | const v=>rfl
 | global g=>rfl
 | func f=>rfl
theorem qj{s f:Nat→af}{o:Oper}(j:∀t∈o.looksAt ops,s t=f t){g:Nat×Bool}(p:o.guard=some g):guardOf an n ops g s=guardOf an n ops g f:=by
 unfold guardOf;split
 ·rename_i d hd;rw[j d (List.mem_append_right _ (by simp[p,hd]))]
 ·rfl
theorem uy{s f:Nat→af}{h h':Nat→Qz}{i:Nat}{o:Oper}(j:∀t∈o.looksAt ops,s t=f t)(p:∀i∈j3 h o.op (fp s o.op),h i=h' i):
  pB P tb an n base ops i o s h=pB P tb an n base ops i o f h':=by
 unfold pB;rw[yG (vQ j) p];split
 ·split
  ·rfl
  ·rename_i g q;rw[qj j q]
 ·rfl
theorem nv{s f:Nat→af}{o:Oper}(j:∀t∈o.looksAt ops,s t=f t):fp s o.op=fp f o.op:=List.map_congr_left (vQ j)
theorem CU{h h':Nat→Qz}{f:List af}(j:∀i∈vL h f,h i=h' i):vL h f=vL h' f:=by
 unfold vL;congr 1;have:∀i∈bu f,h i=h' i:=fun i hi=>j i (List.mem_append_left _ hi)
 revert this;generalize bu f=l;intro hl;induction l with
 | nil=>rfl
 | cons a l p=>rw[List.flatMap_cons,List.flatMap_cons,hl a (by simp),p (fun i hi=>hl i (by simp[hi]))]
theorem BK{h h':Nat→Qz}{f:List af}(j:∀i∈vB h f,h i=h' i):vB h f=vB h' f:=by
 unfold vB;congr 1;have:∀i∈bu f,h i=h' i:=fun i hi=>j i (List.mem_append_left _ hi)
 revert this;generalize bu f=l;intro hl;induction l with
 | nil=>rfl
 | cons a l p=>rw[List.flatMap_cons,List.flatMap_cons,hl a (by simp),p (fun i hi=>hl i (by simp[hi]))]
theorem pq{h h':Nat→Qz}{op:Op}{f:List af}(j:∀i∈j3 h op f,h i=h' i):j3 h op f=j3 h' op f:=by
 cases op <;> first | rfl | exact CU j | exact BK j
structure pk(P:Program)(tb:bQ)(an:An)(n:NS)(base:Nat)(ops:Array Oper)(F W:Nat→QV)(i:Nat)(s:Nat→af)(h:Nat→Qz)(s':Nat→af)(h':Nat→Qz):Prop where
 ex:∃o x u c,ops[i]? = some o∧pB P tb an n base ops i o s h=some (x,u,c)∧c∧(∀j∈j3 h o.op (fp s o.op),j∈F i)∧(∀p∈u,p.1∈W i)∧s'=kr s o.dst x∧h'=apply u h
theorem vo{s:Nat→af}{d:QJ}{x:af}{t:Nat}(h:∀k,d=some k→k≠t):kr s d x t=s t:=by
 cases d with
 | none=>rfl
 | some d=>exact aR _ _ (Ne.symm (h d rfl))
theorem Fv{s:Nat→af}{d e:QJ}{x y:af}(h:∀k,d=some k→e≠some k):kr (kr s d x) e y=kr (kr s e y) d x:=by
 cases d with
 | none=>rfl
 | some d =>
  cases e with
  | none=>rfl
  | some e =>
   have f:e≠d:=fun q=>h d rfl (by rw[q])
   funext k;simp only[kr,bG];by_cases h1:k=e <;> by_cases h2:k=d <;> simp_all
theorem vv{i j:Nat}{f q:Oper}(hi:ops[i]? = some f)(X:ops[j]? = some q)(L:f.apart ops q=true)(h1:zo (W i) (F j)=true)(h2:zo (W j) (F i)=true)(h3:zo (W i) (W j)=true)
  {s Y z:Nat→af} {h A B:Nat→Qz} (a1:pk P tb an n base ops F W i s h Y A) (a2:pk P tb an n base ops F W j Y A z B) :
  ∃Z C,pk P tb an n base ops F W j s h Z C∧pk P tb an n base ops F W i Z C z B:=by
 obtain⟨o,x,u,c,e1,e2,e3,e4,M,rfl,rfl⟩:=a1.ex;obtain⟨o',y,v,c',f1,f2,f3,f4,N,rfl,rfl⟩:=a2.ex;rw[hi]at e1;cases e1;rw[X]at f1;cases f1;obtain⟨p1,p2,p3⟩:=Oper.apart_spec L;have D:∀t∈q.looksAt ops,kr s f.dst x t=s t:=fun t ht=>vo fun k hk e=>by subst e;exact p1 k hk ht
 have E:∀k∈j3 (apply u h) q.op (fp (kr s f.dst x) q.op),apply u h k=h k:=fun k hk=>gG fun p hp e=>pJ h1 (M p hp) (by rw[e];exact f4 k hk)
 have g2:=uy (P:=P) (tb:=tb) (an:=an) (n:=n) (base:=base) (i:=j) D E;rw[f2]at g2;have O:=nv D;have V:=pq E;have I:∀t∈f.looksAt ops,s t=kr s q.dst y t:=fun t ht=>(vo fun k hk e=>by subst e;exact p3 k hk ht).symm
 have J:∀k∈j3 h f.op (fp s f.op),h k=apply v h k:=fun k hk=>(gG fun p hp e=>pJ h2 (N p hp) (by rw[e];exact e4 k hk)).symm
 have g3:=uy (P:=P) (tb:=tb) (an:=an) (n:=n) (base:=base) (i:=i) I J;rw[e2]at g3;refine⟨kr s q.dst y,apply v h,⟨q,y,v,c',X,g2.symm,f3,fun k hk=>f4 k ?_,N,rfl,rfl⟩,⟨f,x,u,c,hi,g3.symm,e3,fun k hk=>e4 k ?_,M,?_,?_⟩⟩
 ·rw[V,O];exact hk
 ·rw[pq J,nv I];exact hk
 ·exact Fv p2
 ·exact(Dw M N h3).symm
def E2(P:Program)(tb:bQ)(an:An)(n:NS)(base:Nat)(ops:Array Oper)(F W:Nat→QV)(Q:(Nat→af)→(Nat→Qz)→Prop):Nat→Array Bool→(Nat→af)→(Nat→Qz)→Prop
 | 0,listed,s,h=>Region.ready .any ops listed=[]∧Q s h
 | f+1,listed,s,h=>(Region.ready .any ops listed=[]→Q s h) ∧
  ∀i∈Region.ready .any ops listed,∃j h',pk P tb an n base ops F W i s h j h'∧E2 P tb an n base ops F W Q f (listed.setIfInBounds i true) j h'
def tB(ops:Array Oper)(F W:Nat→QV)(i j:Nat)(f p:Oper):Bool:=f.apart ops p && zo (W i) (F j) && zo (W j) (F i) && zo (W i) (W j)
def kR(m:QV)(o:Oper):Nat:=o.after.toList.foldl (fun a e=>if Region.binds .any e then a ||| 2 ^ e.on ||| m.getD e.on 0 else a) 0
def tP(m:QV):List Oper→QV
 | []=>m
 | o::r=>tP (m++[kR m o]) r
def pV(ops:Array Oper):QV:=tP [] ops.toList
theorem Ce{m:QV}{o:Oper}{i:Nat}(h:(kR m o).testBit i=true):∃e∈o.after.toList,Region.binds .any e=true∧(e.on=i∨(m.getD e.on 0).testBit i=true):=by
 have key:∀(l:List Edge) (a:Nat),(l.foldl (fun a e=>if Region.binds .any e then a ||| 2 ^ e.on ||| m.getD e.on 0 else a) a).testBit i=true →
   a.testBit i=true∨∃e∈l,Region.binds .any e=true∧(e.on=i∨(m.getD e.on 0).testBit i=true):=fun l=>by
  induction l with
  | nil=>intro a h;exact .inl h
  | cons e l f =>
   intro a h;rw[List.foldl_cons]at h;rcases f _ h with h1 | ⟨j,h1,h2⟩
   ·split at h1
    ·rename_i hb;rw[Nat.testBit_or,Nat.testBit_or,Bool.or_eq_true,Bool.or_eq_true]at h1;rcases h1 with(h1 | h1) | h1
     ·exact .inl h1
     ·exact .inr ⟨e,by simp,hb,.inl (by rw[Nat.testBit_two_pow]at h1;simpa using h1)⟩
     ·exact .inr ⟨e,by simp,hb,.inr h1⟩
    ·exact .inl h1
   ·exact .inr ⟨j,by simp[h1],h2⟩
 rcases key _ _ h with h1 | h1
 ·simp at h1
 ·exact h1
theorem yk:∀(r:List Oper) (m:QV),∃l,tP m r=m++l
 | [],m=>⟨[],by simp[tP]⟩
 | o::r,m=>by
  obtain⟨l,h⟩:=yk r (m++[kR m o]);exact⟨kR m o::l,by simp only[tP];rw[h];simp⟩
theorem Bi:∀(r:List Oper) (m:QV) (k:Nat) (o:Oper),r[k]? = some o→∃f l,tP m r=f++[kR f o]++l∧f.length=m.length+k
 | [],m,k,o,h=>by simp at h
 | o::r,m,0,j,h=>by
  simp at h;subst h;obtain⟨l,h⟩:=yk r (m++[kR m o]);exact⟨m,l,by simp only[tP];exact h,by simp⟩
 | o::r,m,k+1,j,h=>by
  obtain⟨f,l,h1,h2⟩:=Bi r (m++[kR m o]) k j (by simpa using h);exact⟨f,l,by simp only[tP];exact h1,by simp at h2;omega⟩
theorem GS{j i:Nat}{f:Oper}(x:ops[j]? = some f)(h:((pV ops).getD j 0).testBit i=true):∃e∈f.after.toList,Region.binds .any e=true∧(e.on=i∨e.on<j∧((pV ops).getD e.on 0).testBit i=true):=by
 obtain⟨q,l,h1,h2⟩:=Bi ops.toList [] j f (by simpa using x);simp only[List.length_nil,Nat.zero_add]at h2;have u:pV ops=q++[kR q f]++l:=h1;have z:(pV ops).getD j 0=kR q f:=by rw[u,List.getD_eq_getElem?_getD,List.append_assoc,List.getElem?_append_right (by omega)];simp[h2]
 rw[z]at h;obtain⟨e,A,B,p⟩:=Ce h;refine⟨e,A,B,p.imp (fun h=>h) fun p=>?_⟩;rcases Nat.lt_or_ge e.on j with v | v
 ·refine⟨v,?_⟩;rw[u,List.append_assoc,List.getD_eq_getElem?_getD,List.getElem?_append_left (by omega),←List.getD_eq_getElem?_getD];exact p
 ·rw[List.getD_eq_getElem?_getD,List.getElem?_eq_none (by omega)]at p;simp at p
def py(ops:Array Oper)(listed:Array Bool):Prop:=∀(k:Nat) (o:Oper),ops[k]? = some o→listed.getD k false=true→∀e∈o.after,Region.binds .any e=true→listed.getD e.on false=true
theorem qT{listed:Array Bool}(hc:py ops listed){i:Nat}:∀(n j:Nat) (f:Oper),j<n→ops[j]? = some f→(∀e∈f.after,Region.binds .any e=true→listed.getD e.on false=true) →
  ((pV ops).getD j 0).testBit i=true→listed.getD i false=true
 | 0,_,_,h,_,_,_=>absurd h (by omega)
 | n+1,j,f,hn,q,hd,hb=>by
  obtain⟨e,v,x,u⟩:=GS q hb;have hl:=hd e (by simpa using v) x;rcases u with rfl | ⟨u,z⟩
  ·exact hl
  ·have p:e.on<ops.size:=by have:=(Array.getElem?_eq_some_iff.1 q).1;omega
   have ho:ops[e.on]? = some ops[e.on]:=Array.getElem?_eq_getElem p;exact qT hc n e.on _ (by omega) ho (hc _ _ ho hl) z
theorem py.add{listed:Array Bool}(hc:py ops listed){j:Nat}(B:j∈Region.ready .any ops listed):py ops (listed.setIfInBounds j true):=fun k o hk hl e z hb=>by
 obtain⟨_,C,u,f⟩:=mem_ready.1 B;by_cases h:j=k
 ·subst h;rw[u]at hk;cases hk;exact getD_set_true (f e z hb)
 ·rw[getD_set_ne false h]at hl;exact getD_set_true (hc k o hk hl e z hb)
theorem vD{Q:(Nat→af)→(Nat→Qz)→Prop}{i:Nat}{Y:Oper}(hi:ops[i]? = some Y):∀(p:Nat) (listed:Array Bool) {s C:Nat→af} {h q:Nat→Qz},
  py ops listed→(∀j D,ops[j]? = some D→j≠i→listed.getD j true=false→((pV ops).getD j 0).testBit i=false→tB ops F W i j Y D=true) →
  i∈Region.ready .any ops listed→pk P tb an n base ops F W i s h C q→E2 P tb an n base ops F W Q p (listed.setIfInBounds i true) C q→E2 P tb an n base ops F W Q (p+1) listed s h
 | 0,listed,s,C,h,q,_,_,A,x,H=>by
  refine⟨fun e=>(by rw[e]at A;cases A),fun j E=>?_⟩;by_cases f:j=i
  ·subst f;exact⟨C,q,x,H⟩
  ·have:=ready_mono E f;rw[H.1]at this;cases this
 | p+1,listed,s,C,h,q,I,u,A,x,H=>by
  refine⟨fun e=>(by rw[e]at A;cases A),fun j E=>?_⟩;by_cases f:j=i
  ·subst f;exact⟨C,q,x,H⟩
  ·obtain⟨a1,a3,a2,H2⟩:=H.2 j (ready_mono E f);obtain⟨z,D,B,J⟩:=mem_ready.1 E;have L:((pV ops).getD j 0).testBit i=false:=by
    cases hb:((pV ops).getD j 0).testBit i with
    | false=>rfl
    | true =>
     have h1:=qT I (j+1) j D (by omega) B J hb;have Z:=(mem_ready.1 A).1;rcases Nat.lt_or_ge i listed.size with h' | h'
     ·simp[h']at Z h1;rw[Z]at h1;cases h1
     ·simp[Array.getElem?_eq_none h']at h1
   have v:=u j D B f z L;simp only[tB,Bool.and_eq_true]at v;obtain⟨sj,O,b1,b2⟩:=vv hi B v.1.1.1 v.1.1.2 v.1.2 v.2 x a2;refine⟨sj,O,b1,vD hi p (listed.setIfInBounds j true) (I.add E) (fun k ok hk V M X=>?_) (ready_mono A (Ne.symm f)) b2 ?_⟩
   ·refine u k ok hk V ?_ X;by_cases N:j=k
    ·subst N;exact z
    ·rw[getD_set_ne true N]at M;exact M
   ·rw[Array.setIfInBounds_comm _ _ f];exact H2
def AM(P:Program)(tb:bQ)(an:An)(n:NS)(base:Nat)(ops:Array Oper):List Oper→Nat→(Nat→af)→(Nat→Qz)→Option ((Nat→af)×(Nat→Qz)×List Prop×List (QV×QV))
 | [],_,s,h=>some (s,h,[],[])
 | o::r,k,s,h=>match pB P tb an n base ops k o s h with
  | some (x,u,c)=>match AM P tb an n base ops r (k+1) (kr s o.dst x) (apply u h)with
   | some (f,h',j,p)=>some (f,h',c::j,(j3 h o.op (fp s o.op),u.map (·.1))::p)
   | none=>none
  | none=>none
def D5(ops:Array Oper)(F W:Nat→QV)(A:QV)(listed:Array Bool)(i:Nat):Bool :=
 match ops[i]? with
 | none=>false
 | some f=>(List.range ops.size).all fun j=>j == i || listed.getD j true || match ops[j]? with
   | some p=>(A.getD j 0).testBit i || tB ops F W i j f p
   | none=>true
def FH(ops:Array Oper)(F W:Nat→QV)(A:QV):Nat→Nat→Array Bool→Bool
 | 0,_,listed=>(Region.ready .any ops listed).isEmpty
 | f+1,k,listed=>(Region.ready .any ops listed).contains k && D5 ops F W A listed k && FH ops F W A f (k+1) (listed.setIfInBounds k true)
theorem vI{A:QV}{i:Nat}{u:Oper}{listed:Array Bool}(hi:ops[i]? = some u)(h:D5 ops F W A listed i=true)(j:Nat)(v:Oper)
  (x:ops[j]? = some v) (f:j≠i) (p:listed.getD j true=false) (q:(A.getD j 0).testBit i=false):tB ops F W i j u v=true:=by
 simp only[D5,hi,List.all_eq_true,List.mem_range]at h;have h1:=h j (Array.getElem?_eq_some_iff.1 x).1;simp only[x,Bool.or_eq_true,beq_iff_eq,f,false_or,p,q,Bool.false_eq_true]at h1;exact h1
theorem BL{Q:(Nat→af)→(Nat→Qz)→Prop}:∀(l:List Oper) (k:Nat) (listed:Array Bool) {s A:Nat→af} {h h':Nat→Qz} {B:List Prop} {q:List (QV×QV)},(∀j,l[j]? = ops[k+j]?) →
  (∀j,q[j]?.map (·.1)=(if j<l.length then some (F (k+j))else none))→(∀j,q[j]?.map (·.2)=(if j<l.length then some (W (k+j))else none)) →
  py ops listed→FH ops F W (pV ops) l.length k listed=true→AM P tb an n base ops l k s h=some (A,h',B,q)→pj B→Q A h'→E2 P tb an n base ops F W Q l.length listed s h
 | [],_,listed,s,A,h,h',B,q,_,_,_,_,hB,f,_,C=>by
  cases f;exact⟨by simpa [FH]using hB,C⟩
 | o::l,k,listed,s,A,h,h',B,q,hl,M,N,v,hB,f,hc,C=>by
  have D:ops[k]? = some o:=by simpa using(hl 0).symm
  simp only[List.length_cons,FH,Bool.and_eq_true]at hB;obtain⟨⟨E,X⟩,I⟩:=hB;simp only[AM]at f;split at f
  ·rename_i x u c Y;split at f
   ·rename_i s2 h2 Z a1 J;cases f;have O:=M 0;have V:=N 0;simp at O V;have L:pk P tb an n base ops F W k s h (kr s o.dst x) (apply u h):=⟨o,x,u,c,D,Y,hc.1,fun j hj=>by rw[←O];exact hj,fun p hp=>by rw[←V];exact List.mem_map.2 ⟨p,hp,rfl⟩,rfl,rfl⟩;have z:k∈Region.ready .any ops listed:=by simpa using E
    refine vD D l.length listed v (vI D X) z L ?_;refine BL l (k+1) _ (fun j=>by have:=hl (j+1);simpa [Nat.add_assoc,Nat.add_comm 1 j]using this) (fun j=>?_) (fun j=>?_) (v.add z) I J hc.2 C
    ·have:=M (j+1);simpa [Nat.add_assoc,Nat.add_comm 1 j]using this
    ·have:=N (j+1);simpa [Nat.add_assoc,Nat.add_comm 1 j]using this
   ·cases f
  ·cases f
theorem qs(q:cb P tb){M:(Nat→af)→(Nat→Qz)→Prop}{Q:Exit→Act→World→Prop}
  (E:∀s h a w,M s h→Fx n base Bw w0 (fun i=>i<ops.size) s h a w→Q .normal a w):∀(f:Nat) (listed:Array Bool) {s:Nat→af} {h:Nat→Qz} {a:Act} {w:World},listed.size=ops.size →
  Fx n base Bw w0 (fun i=>listed.getD i false=true) s h a w→E2 P tb an n base ops F W M f listed s h→wpAny P .any ops Q f listed a w
 | 0,listed,s,h,a,w,p,hm,H=>by
  refine⟨H.1,E s h a w H.2 ?_⟩;obtain⟨ρ,φ,z,A,B⟩:=hm.ex;refine⟨ρ,φ,z,A,fun id u hu=>(B id u hu).imp (fun h=>h) fun⟨i,j,h1,h2⟩=>⟨i,j,?_,h2⟩⟩;rcases Nat.lt_or_ge i listed.size with h' | h'
  ·omega
  ·simp[Array.getElem?_eq_none h']at h1
 | f+1,listed,s,h,a,w,p,hm,H=>by
  refine⟨fun e=>E s h a w (H.1 e) ?_,fun i hi=>?_⟩
  ·obtain⟨ρ,φ,z,A,B⟩:=hm.ex;refine⟨ρ,φ,z,A,fun id u hu=>(B id u hu).imp (fun h=>h) fun⟨i,j,h1,h2⟩=>⟨i,j,?_,h2⟩⟩;rcases Nat.lt_or_ge i listed.size with h' | h'
   ·omega
   ·simp[Array.getElem?_eq_none h']at h1
  ·obtain⟨s',h',I,O⟩:=H.2 i hi;obtain⟨o,x,u,c,N,V,X,e4,e5,rfl,rfl⟩:=I.ex;obtain⟨C,_⟩:=mem_ready.1 hi;have D:i<listed.size:=by rw[p];exact(Array.getElem?_eq_some_iff.1 N).1
   have J:¬(listed.getD i false=true):=fun e=>by simp[D]at C e;rw[C]at e;cases e
   refine ke q hm N J V X fun a' w' L=>qs q E f _ (by simpa using p) ?_ O
   obtain⟨ρ,φ,z,A,B⟩:=L.ex;refine⟨ρ,φ,z,A,fun id v Y=>(B id v Y).imp (fun h=>h) fun⟨j,Z,h1,h2⟩=>⟨j,Z,?_,h2⟩⟩;rcases h1 with h1 | rfl
   ·exact getD_set_true h1
   ·simp[D]
end
structure R{P:Program}(n:NS)(Bw:Nat→Prop)(w0:cr P)(σ:St)(a:Act)(w:World):Prop where
 ex:∃ρ φ,Mem Bw w0 ρ φ σ.h w∧eP n (Fr (own φ σ.h) Bw w) ρ σ.s a∧∀id u,ρ id=some u→id<σ.nx
 pn:∀i u,w0.oX i=some u→i<σ.pn
def W(P:Program)(n:NS)(Bw:Nat→Prop)(w0:cr P)(c:Code)(σ:St)(Q:Exit→St→Prop):Prop :=
 ∀a w,R n Bw w0 σ a w→c.wp P (fun e j w'=>∃σ',R n Bw w0 σ' j w'∧Q e σ') a w
section
variable{P:Program}{n:NS}{Bw:Nat→Prop}{w0:cr P}{Q Q':Exit→St→Prop}{σ:St}
theorem W.mono{c:Code}(h:W P n Bw w0 c σ Q)(j:∀e σ',Q e σ'→Q' e σ'):W P n Bw w0 c σ Q':=fun a w z =>
 wp_mono (h a w z) fun e _ w' ⟨σ',h1,h2⟩=>⟨σ',h1,j _ _ h2⟩
theorem Kt(h:Q .normal σ):W P n Bw w0 .skip σ Q:=fun _ _ f=>wp_skip ⟨σ,f,h⟩
theorem av(h:Q .ret σ):W P n Bw w0 .ret σ Q:=fun _ _ f=>wp_ret ⟨σ,f,h⟩
theorem K6{id:Nat}(h:Q (.exit id) σ):W P n Bw w0 (.exit id) σ Q:=fun _ _ f=>wp_exit ⟨σ,f,h⟩
def yI(P:Program)(n:NS)(Bw:Nat→Prop)(w0:cr P)(d:Code)(Q:Exit→St→Prop):Exit→St→Prop
 | .normal,σ=>W P n Bw w0 d σ Q
 | e,σ=>Q e σ
theorem ag{c d:Code}(h:W P n Bw w0 c σ (yI P n Bw w0 d Q)):W P n Bw w0 (.seq c d) σ Q:=fun a w f =>
 wp_seq (wp_mono (h a w f) fun e j w' ⟨σ',h1,h2⟩=>by
  cases e with
  | normal=>exact h2 j w' h1
  | _=>exact⟨σ',h1,h2⟩)
theorem CP{c:Operand}{x y:Code}{β b:Bool}(hc:ev σ.s c = .p β .bool b)(h1:b=true→W P n Bw w0 x σ Q)(h2:b=false→W P n Bw w0 y σ Q):W P n Bw w0 (.cond c x y) σ Q:=fun a w f=>by
 obtain⟨ρ,φ,_,q,_⟩:=f.ex;have j:=aV q c;rw[hc]at j;refine wp_cond (n9 j) ?_;cases b with
 | true=>exact h1 rfl a w f
 | false=>exact h2 rfl a w f
def lP(id:Nat)(Q:Exit→St→Prop):Exit→St→Prop
 | .exit f,σ=>if f=id then Q .normal σ else Q (.exit f) σ
 | e,σ=>Q e σ
theorem ak{id:Nat}{c:Code}(h:W P n Bw w0 c σ (lP id Q)):W P n Bw w0 (.block id c) σ Q:=fun a w f =>
 wp_block (wp_mono (h a w f) fun e p q ⟨σ',h1,h2⟩=>by
  cases e with
  | exit j =>
   simp only[lP]at h2;simp only[Exit.inBlock];split at h2
   ·rename_i e;rw[if_pos e];exact⟨σ',h1,h2⟩
   ·rename_i e;rw[if_neg e];exact⟨σ',h1,h2⟩
  | _=>exact⟨σ',h1,h2⟩)
theorem F4(p:Nat→Prop)(h:∃k,p k):∃k,p k∧∀m,p m→k≤m:=by
 obtain⟨k,hk⟩:=h;induction k using Nat.strongRecOn with
 | _ k f =>
  by_cases hm:∃m,m<k∧p m
  ·obtain⟨m,h1,h2⟩:=hm;exact f m h1 h2
  ·exact⟨k,hk,fun m h2=>Nat.le_of_not_lt fun h1=>hm ⟨m,h1,h2⟩⟩
def Le(n:NS)(σ σ':St):Prop:=∀(P:Program) Bw (w0:cr P) a w,R n Bw w0 σ a w→R n Bw w0 σ' a w
theorem Le.refl(σ:St):Le n σ σ:=fun _ _ _ _ _ h=>h
theorem Le.trans{σ1 j p:St}(h:Le n σ1 j)(k:Le n j p):Le n σ1 p:=fun _ _ _ _ _ q=>k _ _ _ _ _ (h _ _ _ _ _ q)
theorem IE{σ':St}{c:Code}(hl:Le n σ σ')(h:W P n Bw w0 c σ' Q):W P n Bw w0 c σ Q:=fun a w f=>h a w (hl _ _ _ _ _ f)
def Kk{α:Type}(n:NS)(Inv:Nat→α→Prop)(f:α→St)(k:Nat)(Q:Exit→St→Prop):Exit→St→Prop
 | .normal,σ=>∃m y,m<k∧Inv m y∧Le n σ (f y)
 | e,σ=>Q e σ
theorem Ld{α:Type}{c:Code}(Inv:Nat→α→Prop)(f:α→St)(h:∀k x,Inv k x→W P n Bw w0 c (f x) (Kk n Inv f k Q)){k:Nat}{x:α}(E:Inv k x)(hl:Le n σ (f x)):
  W P n Bw w0 (.loop c) σ Q:=fun a w I=>by
 let p:Act→World→Nat→Prop:=fun a w k=>∃x,Inv k x∧R n Bw w0 (f x) a w
 have hp:∀a w,(∃k,p a w k)→∃k,p a w k∧∀m,p a w m→k≤m:=fun a w=>F4 (p a w)
 classical
 let u:Act→World→Nat:=fun a w=>if h:∃k,p a w k then(hp a w h).choose else 0
 have q:∀a w (h:∃k,p a w k),p a w (u a w)∧∀m,p a w m→u a w≤m:=fun a w h=>by simp only[u,dif_pos h];exact(hp a w h).choose_spec
 refine Go.wp_loop (fun a w=>∃k,p a w k) u ⟨k,x,E,hl _ _ _ _ _ I⟩ fun a w hi=>?_
 obtain⟨⟨x,h1,h2⟩,_⟩:=q a w hi;refine wp_mono (h _ x h1 a w h2) fun e A B ⟨σ',C,D⟩=>?_
 cases e with
 | normal =>
  obtain⟨m,y,hm,v,z⟩:=D;have j:p A B m:=⟨y,v,z _ _ _ _ _ C⟩;exact⟨⟨m,j⟩,Nat.lt_of_le_of_lt ((q A B ⟨m,j⟩).2 m j) hm⟩
 | _=>exact⟨σ',C,D⟩
theorem BH{tb:bQ}(f:cb P tb)(an:An){id:Nat}{ops:Array Oper}{v:Nat→af}{h':Nat→Qz}{x:List Prop}(D:EU P tb an n σ.nx ops ops.toList 0 σ.s σ.h=some (v,h',x))(hc:pj x)
  (E:Q .normal ⟨v,h',σ.nx+8*ops.size,σ.pn⟩):W P n Bw w0 (.region id ops false) σ Q:=fun a w z=>by
 obtain⟨ρ,φ,I,J,L⟩:=z.ex;refine wp_region ?_;have:=wq (P:=P) (tb:=tb) (an:=an) (n:=n) (base:=σ.nx) (ops:=ops) (Bw:=Bw) (w0:=w0) f (Q:=fun e A B=>∃σ',R n Bw w0 σ' A B∧Q e σ') ops.toList 0 (a:=a) (w:=w)
  ⟨ρ,φ,I,J,fun id u hu=> .inl (L id u hu)⟩ (fun j=>by simp) D hc (fun A B hm=>⟨_,?_,E⟩)
 ·rw[←List.range_eq_range']at this;simpa using this
 ·obtain⟨p,q,M,N,C⟩:=hm.ex;refine⟨⟨p,q,M,N,fun id u hu=>?_⟩,z.pn⟩;simp only[Array.length_toList]at C;rcases C id u hu with h1 | ⟨i,j,h1,h2,O⟩ <;> simp only <;> omega
theorem tZ{tb:bQ}(f:cb P tb)(an:An)(r:Nat){id:Nat}{ops:Array Oper}{x:Nat→af}{h':Nat→Qz}{z:List Prop}{y:Value}(E:o9 P tb an n σ.nx ops r ops.toList 0 σ.s σ.h=some (x,h',z,y))(hc:pj z)
  (I:Q (.panic [{ v:=y,recovered:=false }]) ⟨x,h',σ.nx+8*ops.size,σ.pn⟩):W P n Bw w0 (.region id ops false) σ Q:=fun a w A=>by
 obtain⟨ρ,φ,J,L,M⟩:=A.ex;refine wp_region ?_;have:=rG (P:=P) (tb:=tb) (an:=an) (n:=n) (base:=σ.nx) (ops:=ops) (Bw:=Bw) (w0:=w0) f (Q:=fun e B C=>∃σ',R n Bw w0 σ' B C∧Q e σ') r ops.toList 0 (a:=a) (w:=w)
  ⟨ρ,φ,J,L,fun id u hu=> .inl (M id u hu)⟩ (fun j=>by simp) E hc (fun B C hm=>⟨_,?_,I⟩)
 ·rw[←List.range_eq_range']at this;simpa using this
 ·obtain⟨p,q,N,O,D⟩:=hm.ex;refine⟨⟨p,q,N,O,fun id u hu=>?_⟩,A.pn⟩;simp only[Array.length_toList]at D;rcases D id u hu with h1 | ⟨i,j,h1,h2,V⟩ <;> simp only <;> omega
def qG(f:List (QV×QV))(i:Nat):QV:=match f[i]? with | some p=>p.1 | none=>[]
def qy(f:List (QV×QV))(i:Nat):QV:=match f[i]? with | some p=>p.2 | none=>[]
theorem tX{tb:bQ}{an:An}{base:Nat}{ops:Array Oper}:∀(l:List Oper) (k:Nat) {s p:Nat→af} {h h':Nat→Qz} {q:List Prop} {j:List (QV×QV)},AM P tb an n base ops l k s h=some (p,h',q,j)→j.length=l.length
 | [],_,_,_,_,_,_,_,f=>by cases f;rfl
 | o::l,k,s,p,h,h',q,j,f=>by
  simp only[AM]at f;split at f
  ·split at f
   ·rename_i h2;cases f;simp[tX l (k+1) h2]
   ·cases f
  ·cases f
theorem KY{tb:bQ}(B:cb P tb)(hm:P.follows .mixedOrders=true)(an:An){id:Nat}{ops:Array Oper}{z:Nat→af}{h':Nat→Qz}{M:List Prop}{p:List (QV×QV)}
  (N:AM P tb an n σ.nx ops ops.toList 0 σ.s σ.h=some (z,h',M,p)) (Z:FH ops (qG p) (qy p) (pV ops) ops.size 0 (Array.replicate ops.size false)=true) (hc:pj M)
  (hq:Q .normal ⟨z,h',σ.nx+8*ops.size,σ.pn⟩):W P n Bw w0 (.region id ops true) σ Q:=fun a w O=>by
 obtain⟨ρ,φ,q1,q2,q3⟩:=O.ex;obtain⟨C,qF⟩:=q1.drew;have V:=tX ops.toList 0 N;refine wp_region_any hm ?_;have hA:=BL (P:=P) (tb:=tb) (an:=an) (n:=n) (base:=σ.nx) (ops:=ops) (F:=qG p) (W:=qy p) (Q:=fun s h=>s=z∧h=h') ops.toList 0 (Array.replicate ops.size false) (fun j=>by simp)
  (fun j=>by
   simp only[Nat.zero_add];split
   ·rename_i D;have f:j<p.length:=by omega
    simp[qG,f]
   ·rename_i D;have f:p.length≤j:=by omega
    simp[List.getElem?_eq_none f])
  (fun j=>by
   simp only[Nat.zero_add];split
   ·rename_i D;have f:j<p.length:=by omega
    simp[qy,f]
   ·rename_i D;have f:p.length≤j:=by omega
    simp[List.getElem?_eq_none f])
  (fun k o hk hl=>by simp[Array.getD]at hl) (by simpa using Z) N hc ⟨rfl,rfl⟩
 have E:E2 P tb an n σ.nx ops (qG p) (qy p) (fun s h=>s=z∧h=h') ops.size (Array.replicate ops.size false) σ.s σ.h:=by simpa using hA
 refine qs (P:=P) (tb:=tb) (an:=an) (n:=n) (base:=σ.nx) (ops:=ops) (Bw:=Bw) (w0:=w0) B (fun s h a w I q=>?_) ops.size _ (by simp) ⟨ρ,φ,C,q2.mono qF (fun _ _ h=>h),fun id u hu=> .inl (q3 id u hu)⟩ E;obtain⟨rfl,rfl⟩:=I;obtain⟨J,L,r1,r2,r3⟩:=q.ex;refine⟨⟨s,h,σ.nx+8*ops.size,σ.pn⟩,⟨⟨J,L,r1,r2,fun id u hu=>?_⟩,O.pn⟩,hq⟩;rcases r3 id u hu with h1 | ⟨i,j,h1,h2,h3⟩ <;> simp only <;> omega
/-! ### A X: Y is dead is dropped,v get new x -/
def az(l:List (Nat×af))(m:Qk)(nx:Nat)(pn:Nat:=0):St:=⟨fun t=>(look l t).getD .unk,fun i=>look m i,nx,pn⟩
def qk(f:Nat→Nat)(s:Nat→af):List (Nat×af)→Prop
 | []=>True
 | (t,x)::r=>s t=mq f x∧qk f s r
def qp(f:Nat→Nat)(h:Nat→Qz):Qk→Prop
 | []=>True
 | (i,o)::r=>h (f i)=some (nT f o)∧qp f h r
theorem qk.get{f:Nat→Nat}{s:Nat→af}:∀ {l:List (Nat×af)},qk f s l→∀ {t x},(t,x)∈l→s t=mq f x
 | (_,_)::_,h,t,x,hm=>by
  rcases List.mem_cons.1 hm with e | hm
  ·cases e;exact h.1
  ·exact qk.get h.2 hm
theorem qp.get{f:Nat→Nat}{h:Nat→Qz}:∀ {l:Qk},qp f h l→∀ {t x},(t,x)∈l→h (f t)=some (nT f x)
 | (_,_)::_,h,t,x,hm=>by
  rcases List.mem_cons.1 hm with e | hm
  ·cases e;exact h.1
  ·exact qp.get h.2 hm
def kU(f:Nat→Nat)(l:List (Nat×af))(m:Qk)(nx pn:Nat):Bool :=
 (List.range pn).all (fun i=>f i == i && decide (i<nx)) &&
 l.all (fun p=>(ids p.2).all (· < nx)) && m.all (fun p=>decide (p.1<nx) && (ov p.2).all (· < nx)) && m.all (fun p=>m.all fun q=>p.1 == q.1 || !(f p.1 == f q.1))
theorem LA(f:Nat→Nat){l:List (Nat×af)}{m:Qk}{nx:Nat}(hs:qk f σ.s l)(ho:qp f σ.h m)(M:kU f l m nx σ.pn=true):Le n σ (az l m nx σ.pn):=fun P Bw w0 a w hr=>by
 obtain⟨ρ,φ,I,q2,q3⟩:=hr.ex;simp only[kU,Bool.and_eq_true,List.all_eq_true,decide_eq_true_eq,Bool.or_eq_true,beq_iff_eq,Bool.not_eq_true',beq_eq_false_iff_ne]at M;obtain⟨⟨⟨k0,k1⟩,k2⟩,k3⟩:=M;let ρ':Nat→QW:=fun i=>if i<nx then ρ (f i)else none
 let J:Nat→Nat→Prop:=fun i=>φ (f i)
 have p:∀i,i<nx→ρ' i=ρ (f i):=fun i hi=>by simp only[ρ',if_pos hi]
 have q:∀i o,look m i=some o→σ.h (f i)=some (nT f o)∧i<nx∧∀j∈ov o,j<nx:=fun i o hi=>by have hm:=mQ hi;exact⟨qp.get ho hm,(k2 _ hm).1,(k2 _ hm).2⟩
 have z:∀o,(nT f o).live=o.live:=fun o=>gH
 have E:∀k,own J (fun i=>look m i) k→own φ σ.h k:=by rintro k ⟨id,o,h1,h2,h4⟩;obtain⟨N,p2,_⟩:=q id o h1;exact⟨f id,_,N,by rw[z];exact h2,h4⟩
 have D:∀β a v,Fr (own φ σ.h) Bw w β a v→Fr (own J (fun i=>look m i)) Bw w β a v:=fun β a v h=>⟨fun x=>h.1 (E _ x),h.2⟩
 refine⟨⟨ρ',J,⟨fun id o a1=>?_,fun id o k h1 h2 h3=>I.lt _ _ k (q id o h1).1 (by rw[z];exact h2) h3,fun id B o o' k h1 h2 h3 h4 h5 h6=>?_,I.bw,fun k hk=>I.ow k (E k hk),I.kp,fun i u hi=>?_⟩,⟨q2.tm,q2.df,fun t=>?_⟩,fun id u hu=>?_⟩,hr.pn⟩
 ·obtain⟨N,p2,p3⟩:=q id o a1;obtain⟨u,r1,C⟩:=I.ob _ _ N;refine⟨u,by rw[p id p2];exact r1,?_⟩;cases o with
  | arr e A L=>exact OR.mono (ρ:=ρ) (ρ':=ρ) (w:=w) (o:= .arr e A L) D (fun _ _ h=>h) (fun _ h=>h) (fun _ _ _=>rfl) C
  | fz A L =>
   simp only[nT,OR]at C ⊢;exact qP rfl (V.mono D (fun _ _ h=>h) C)
  | mat e e2 A a3 hole=>exact De (fun k B e=>p B (p3 B (by subst e;simp[ov]))) (OR.mono (ρ:=ρ) (ρ':=ρ) (w:=w) D (fun _ _ h=>h) (fun _ h=>h) (fun _ _ _=>rfl) C)
  | mpo K A kv=>exact OR.mono (ρ:=ρ) (ρ':=ρ) (w:=w) (o:= .mpo K A kv) D (fun _ _ h=>h) (fun _ h=>h) (fun _ _ _=>rfl) C
  | mpl K kv=>exact OR.mono (ρ:=ρ) (ρ':=ρ) (w:=w) (o:= .mpl K kv) D (fun _ _ h=>h) (fun _ h=>h) (fun _ _ _=>rfl) C
  | cutz A L =>
   simp only[nT,OR]at C ⊢;exact⟨C.1,qP rfl (V.mono D (fun _ _ h=>h) C.2)⟩
  | bytes e L=>exact OR.mono (ρ:=ρ) (ρ':=ρ) (w:=w) (o:= .bytes e L) D (fun _ _ h=>h) (fun _ h=>h) (fun _ _ _=>rfl) C
  | mpq b kv=>exact C
  | nds e e2 ns hole =>
   have r3:=OR.mono (ρ:=ρ) (ρ':=ρ) (w:=w) D (fun _ _ h=>h) (fun _ h=>h) (fun _ _ _=>rfl) C;match hole with
   | none=>exact uc r3
   | some (k,g,B)=>exact uv (p B (p3 B (by simp[ov]))) r3
  | lmp k n L cs =>
   obtain⟨g,t,cells,e,O,X,Y,Z,s4⟩:=C;refine⟨g,t,cells,e,O,X,by rw[Y,bE],Z,?_⟩;exact mD (fun i hi=>p i (p3 i (by simpa only [ov]using hi))) (VL.mono D (fun _ _ h=>h) (fun _ _ h=>h) s4)
  | vrow n sz cs =>
   obtain⟨g,t,cells,e,O,X,Y,Z,s4⟩:=C;refine⟨g,t,cells,e,O,X,by rw[Y,bE],by rw[←Z,bE],?_⟩;exact mD (fun i hi=>p i (p3 i (by simpa only [ov]using hi))) (VL.mono D (fun _ _ h=>h) (fun _ _ h=>h) s4)
  | box cs =>
   obtain⟨g,t,cells,e,O,X,Y,Z⟩:=C;refine⟨g,t,cells,e,O,X,by rw[Y,bE],?_⟩;exact mD (fun i hi=>p i (p3 i (by simpa only [ov]using hi))) (VL.mono D (fun _ _ h=>h) (fun _ _ h=>h) Z)
 ·obtain⟨N,p2,_⟩:=q id o h1;obtain⟨a2,a4,_⟩:=q B o' h3;have:=I.dj _ _ _ _ k N (by rw[z];exact h2) a2 (by rw[z];exact h4) h5 h6;rcases k3 _ (mQ h1) _ (mQ h3)with e | e
  ·exact e
  ·exact absurd this e
 ·have:=k0 i (List.mem_range.2 (hr.pn i u hi));rw[p i this.2,this.1];exact I.oX i u hi
 ·simp only[az];cases hl:look l t with
  | none=>simp only[Option.getD_none,V]
  | some x =>
   have hm:=mQ hl;have hv:=q2.sl t;rw[qk.get hs hm]at hv;simp only[Option.getD_some];exact JV (fun i hi=>p i (k1 _ hm i hi)) (V.mono D (fun _ _ h=>h) hv)
 ·simp only[ρ']at hu;split at hu
  ·assumption
  ·cases hu
end
def bd(β:Bool):List (Σ T:Ty,T.den)→List af
 | []=>[]
 | ⟨T,x⟩::r=>enc β T x::bd β r
def aL:List af→af
 | [x]=>x
 | xs=> .tup xs
def tp(tb:bQ)(s:Nat→af)(h:Nat→Qz):List ResultVar→Option (List af)
 | []=>some []
 | .tmp t::r=>match tp tb s h r with
  | some xs=>some (s t::xs)
  | none=>none
 | .cell a t::r=>match s a with
  | .adr id i sz off=>match h id with
   | some (.box cs)=>match tb.find t with
    | some ti=>match gn ti cs (i*sz+off)with
     | some x=>match tp tb s h r with
      | some xs=>some (x::xs)
      | none=>none
     | none=>none
    | none=>none
   | _=>none
  | _=>none
def mE(h:Nat→Qz):List af→List Ty→Option (List (Σ T:Ty,T.den))
 | [],[]=>some []
 | x::xs,T::Ts=>if(cellsOf x).all af.cell && kH T x then match F1 T h x with
  | some (y,u)=>match mE (apply u h) xs Ts with
   | some ys=>some (⟨T,y⟩::ys)
   | none=>none
  | none=>none
  else none
 | _,_=>none
def Ln(tb:bQ)(p:List ResultVar)(f:List (Σ T:Ty,T.den)):Exit→St→Prop
 | .normal,σ=>∃j Ts,tp tb σ.s σ.h p=some j∧mE σ.h j Ts=some f
 | .ret,σ=>∃j Ts,tp tb σ.s σ.h p=some j∧mE σ.h j Ts=some f
 | _,_=>False
def nu(args:List af):St:=⟨fun t=>(args[t]?).getD .unk,fun _=>none,0,0⟩
section
variable{P:Program}{tb:bQ}{n:NS}{Bw:Nat→Prop}{w0:cr P}{w:World}{ρ:Nat→QW}{φ:Nat→Nat→Prop}{s:Nat→af}{h:Nat→Qz}{a:Act}
theorem iV(p:cb P tb)(m:Mem Bw w0 ρ φ h w)(z:eP n (Fr (own φ h) Bw w) ρ s a):∀ {E:List ResultVar} {u:List af},tp tb s h E=some u →
  ∃q,(E.mapM (fun r:ResultVar=>(match r with | .tmp t=>pure (a.tmps.getD t undef) | .cell B t=>(do loadVar t (←asAddr (a.tmps.getD B undef)):Sem Value)))).run P w = .ok q w∧iS (Fr (own φ h) Bw w) ρ u q
 | [],u,j=>by cases j;exact⟨[],rfl,trivial⟩
 | .tmp t::r,u,j=>by
  simp only[tp]at j;split at j
  ·rename_i C h1;cases j;obtain⟨q,A,D⟩:=iV p m z h1;refine⟨a.tmps.getD t undef::q,?_,z.sl t,D⟩;rw[List.mapM_cons,Sem.run_bind];simp only[Sem.run_pure,Result.andThen_ok,Sem.run_bind,A]
  ·cases j
 | .cell B t::r,u,j=>by
  simp only[tp]at j;split at j
  ·rename_i id i sz off e;split at j
   ·rename_i cs hi;split at j
    ·rename_i ti ht;split at j
     ·rename_i x J;split at j
      ·rename_i C h1;cases j;obtain⟨q,A,D⟩:=iV p m z h1;have I:=z.sl B;rw[e]at I;obtain⟨b,L,M⟩:=qh m I (cs:=cs) (off:=i*sz+off) (c:=True) (by simp only[me,hi]) trivial;obtain⟨v,N,O⟩:=iO (P:=P) (p.find ht) M J;refine⟨v::q,?_,O,D⟩;rw[List.mapM_cons,Sem.run_bind];simp only[L,asAddr,Sem.run_bind,Sem.run_pure,Result.andThen_ok,N];simp only[asAddr]at A;rw[A];rfl
      ·cases j
     ·cases j
    ·cases j
   ·cases j
  ·cases j
theorem nX:∀ {J:List af} {Ts:List Ty} {h:Nat→Qz} {f:List (Σ T:Ty,T.den)} {B:QY},Mem Bw w0 ρ φ h w→mE h J Ts=some f→iS (Fr (own φ h) Bw w) ρ J B →
  iS (fun _=>Fr fK Bw w false) iW (bd false f) B
 | [],[],h,f,B,_,j,C=>by
  cases j;cases B with
  | nil=>trivial
  | cons _ _=>exact C.elim
 | x::J,T::Ts,h,f,B,m,j,C=>by
  simp only[mE]at j;split at j
  ·rename_i hc;split at j
   ·rename_i y u h1;split at j
    ·rename_i ys h2;cases j;cases B with
     | nil=>exact C.elim
     | cons v B =>
      obtain⟨N,O,X⟩:=m6 m h1;simp only[Bool.and_eq_true]at hc;obtain⟨q,z⟩:=hc;obtain⟨Y,r2,r3⟩:=fV q C.1;obtain⟨Z,s2⟩:=X _ Y;refine⟨?_,nX N h2 (iS.mono O (fun _ _ h=>h) C.2)⟩;have D:ah (Fr fK Bw w false) T y (fun k u=>v.cells.toList[k]? = some u):=ah.mono (fun a u hh=>⟨fun e=>e,hh.2⟩) (fun _ _ h=>h) Z;by_cases p:∃M,x = .agg M
      ·obtain⟨M,rfl⟩:=p;have I:=C.1;simp only[V]at I;obtain⟨us,rfl,e2,e3⟩:=I;have A:T.scalar=false:=by simpa [kH]using z
       simp only[enc,A];simp only[Bool.false_eq_true,if_false,V];refine⟨us,rfl,?_,jN false T y _ (ah.mono (fun _ _ h=>h) (fun k u hk=>by simpa [Value.cells]using hk) D)⟩;rw[eQ,s2,e2];rfl
      ·have E:cellsOf x=[x]:=by cases x <;> first | rfl | exact(p ⟨_,rfl⟩).elim | cases z
       have A:T.scalar=true:=by cases x <;> first | exact z | exact(p ⟨_,rfl⟩).elim | cases z
       rw[E]at q;simp only[List.all_cons,List.all_nil,Bool.and_true]at q;have L:=fM (sJ q C.1);simp only[enc,A,if_true,V];refine⟨trivial,?_⟩;rw[L]at D;refine ah.gw (fun k u hk hu=>?_) D;rw[Ty.fF A]at hk;obtain rfl:k=0:=by omega
       simp at hu;exact hu.symm
    ·cases j
   ·cases j
  ·cases j
 | [],_::_,_,_,_,_,j,_=>by cases j
 | _::_,[],_,_,_,_,j,_=>by cases j
theorem iY{F:Bool→Addr→Value→Prop}:∀ {xs:List af} {j:QY},iS F ρ xs j→xs.length=j.length∧∀t:Nat,V F ρ ((xs[t]?).getD .unk) ((j[t]?).getD undef)
 | [],[],_=>⟨rfl,fun t=>by simp only[List.getElem?_nil,Option.getD_none,V]⟩
 | x::xs,v::j,h=>by
  obtain⟨h1,h2⟩:=iY h.2;refine⟨by simp[h1],fun t=>?_⟩;cases t with
  | zero=>exact h.1
  | succ t=>simpa using h2 t
 | [],_::_,h=>h.elim
 | _::_,[],h=>h.elim
theorem lz{α β:Type}(f:α→Sem β)(l:Array α)(w:World){j:List β}(h:(l.toList.mapM f).run P w = .ok j w):(l.mapM f).run P w = .ok j.toArray w:=by
 rw[Array.mapM_eq_mapM_toList,Sem.run_map,h];rfl
def EN:Nat→Nat→Prop:=fun _ _=>False
theorem Pure.jO{f:FuncId}{fn:Func}{c:Code}(N:cb P tb)(hf:P.funcs[f]? = some fn)(p:(fn.name == "runtime.NumGoroutine")=false)(hb:fn.body=some c){args:List af}(a1:args.length≤fn.ntmps)
  {j:List (Σ T:Ty,T.den)} (h:∀Bw w0,W P fn.ntmps Bw w0 c (nu args) (Ln tb fn.results.toList j)) (_:od args=true):Pure P f args (aL (bd false j)):=by
 refine⟨⟨fn,hf,p,by rw[hb];rfl⟩,fun Bw w z J O B=>calls_of_wp hf hb ?_⟩;have X:∀β a v,Fr fK Bw w β a v→Fr (own EN (nu args).h) Bw w β a v:=fun β a v hh=>⟨fun⟨_,_,_,_,Y⟩=>Y,hh.2⟩
 obtain⟨hl,hg⟩:=iY B;have hR:R fn.ntmps Bw (lT J) (nu args) { tmps:=z++Array.replicate (fn.ntmps - z.size) undef,defers:=[] } w:=by
  refine⟨⟨iW,EN,⟨fun id o h=>(by cases h),fun id o k h=>(by cases h),fun id a2 o o' k h1=>(by cases h1),O,fun k ⟨_,_,_,_,Y⟩=>Y.elim,Kept.refl _,fun i u h=>(by cases h)⟩,⟨?_,rfl,fun t=>?_⟩,fun id u hu=>(by cases hu)⟩,fun i u h=>(by cases h)⟩
  ·have:z.size=args.length:=by rw[hl,Array.length_toList]
   simp only[Array.size_append,Array.size_replicate];omega
  ·have hv:=V.mono X (fun _ _ h=>h) (hg t);simp only[nu];rcases Nat.lt_or_ge t z.size with q | q
   ·have e:(z++Array.replicate (fn.ntmps - z.size) undef).getD t undef=(z.toList[t]?).getD undef:=by simp[Array.getD_eq_getD_getElem?,Array.getElem?_append,q]
    rw[e];exact hv
   ·have:args[t]? = none:=List.getElem?_eq_none (by rw[hl,Array.length_toList];exact q);rw[this];simp only[Option.getD_none,V]
 refine wp_mono (h Bw (lT J) _ _ hR) fun e a' w' ⟨σ',Z,I⟩=>?_
 have key:∀xs Ts,tp tb σ'.s σ'.h fn.results.toList=some xs→mE σ'.h xs Ts=some j→a'.defers=[]∧∃v,(results fn a'.tmps).run P w' = .ok v w' ∧
   ∃L,Ending.returned v = .returned L∧Below w.heap.size w w'∧V (fun _=>Fr fK Bw w' false) iW (aL (bd false j)) L:=fun xs Ts h1 h2=>by
  obtain⟨ρ,φ,q1,q2,_⟩:=Z.ex;obtain⟨C,r1,r2⟩:=iV (P:=P) N q1 q2 h1;have D:=nX q1 h2 r2;have r4:=lz (P:=P) _ fn.results w' r1;refine⟨q2.df,(if h:C.toArray.size=1 then C.toArray[0]else .tuple C.toArray),?_,_,rfl,q1.kp.below,?_⟩
  ·unfold results;rw[Sem.run_bind];exact(congrArg (fun r=>Result.andThen r (fun a w'=>Sem.run P (pure (if h:a.size=1 then a[0]else Value.tuple a)) w')) r4).trans rfl
  ·have E:=(iY D).1;generalize bd false j=ys at D E ⊢;match ys,C,D with
   | [],[],_=>simp only[aL,V];exact⟨#[],rfl,rfl,by simp only[VL]⟩
   | [y],[v],D=>exact D.1
   | y::y'::ys,v::L::C,D =>
    have:¬((v::L::C).toArray.size=1):=by simp
    rw[dif_neg this];simp only[aL,V];refine⟨_,rfl,by simpa using E.symm,VL.mk fun k x hk=>?_⟩;have:=(iY D).2 k;rw[hk]at this;have M:k<(v::L::C).length:=by rw[←E];exact(List.getElem?_eq_some_iff.1 hk).1
    rw[List.getElem?_eq_getElem M]at this;exact⟨_,by simp[M],this⟩
 cases e with
 | normal =>
  obtain⟨xs,Ts,h1,h2⟩:=I;exact key xs Ts h1 h2
 | ret =>
  obtain⟨xs,Ts,h1,h2⟩:=I;exact key xs Ts h1 h2
 | exit _=>exact I.elim
 | goto _=>exact I.elim
 | panic _=>exact I.elim
 | outgrown=>exact I.elim
end
end Go.Tv
