import Derived.Test.YtobbjfkfmdiklaaGreatDoorTvN
namespace Go.Tv
open Go Go.RowKit
def zi(a b:QV):Bool:=a.all fun x=> !b.contains x
theorem pA{a b:QV}(h:zi a b=true){x:Nat}(ha:x∈a):x ∉ b:=fun hb=>by
 have:=List.all_eq_true.1 h x ha;simp[hb]at this
theorem gB{u:gP}{k:Nat}(hk:∀p∈u,p.1≠k){h:Nat→Qz}:apply u h k=h k:=by
 induction u generalizing h with
 | nil=>rfl
 | cons p u f =>
  obtain⟨i,o⟩:=p;simp only[apply];rw[f (fun q j=>hk q (by simp[j])),aR _ _ (Ne.symm (hk (i,o) (by simp)))]
theorem GK{u:gP}{k:Nat}(hk:∃p∈u,p.1=k){h h':Nat→Qz}:apply u h k=apply u h' k:=by
 induction u generalizing h h' with
 | nil=>obtain⟨p,hp,_⟩:=hk;simp at hp
 | cons p u v =>
  obtain⟨i,o⟩:=p;simp only[apply];by_cases j:∃q∈u,q.1=k
  ·exact v j
  ·have f:∀q∈u,q.1≠k:=fun q h1 h2=>j ⟨q,h1,h2⟩
   rw[gB f,gB f];obtain⟨q,h1,h2⟩:=hk;rcases List.mem_cons.1 h1 with rfl | h1
   ·subst h2;rw[aB,aB]
   ·exact absurd h2 (f q h1)
theorem Cf{u v:gP}{A B:QV}(hu:∀p∈u,p.1∈A)(x:∀p∈v,p.1∈B)(hd:zi A B=true){h:Nat→Qz}:apply u (apply v h)=apply v (apply u h):=by
 funext k;by_cases hk:∃p∈u,p.1=k
 ·have j:∀p∈v,p.1≠k:=fun p hp e=>by obtain⟨q,z,C⟩:=hk;exact pA hd (hu q z) (by rw[C,←e];exact x p hp)
  rw[gB j (h:=apply u h)];exact GK hk
 ·have f:∀p∈u,p.1≠k:=fun p hp e=>hk ⟨p,hp,e⟩
  rw[gB f];exact(gq (gB f) v).symm
section
variable{P:Program}{tb:bQ}{an:An}{n:NS}{base:Nat}{ops:Array Oper}{Bw:Nat→Prop}{w0:cv P}{F W:Nat→QV}
theorem vV{s j:Nat→af}{o:Oper}(p:∀t∈o.looksAt ops,s t=j t):∀x∈o.op.operands.toList,ev s x=ev j x:=fun x q=>by
 cases x with
 | tmp t =>
  refine p t (List.mem_append_left _ (List.mem_filterMap.2 ⟨_,q,rfl⟩))
 | const v=>rfl
 | global g=>rfl
 | func f=>rfl
theorem p7{s f:Nat→af}{o:Oper}(j:∀t∈o.looksAt ops,s t=f t){g:Nat×Bool}(p:o.guard=some g):guardOf an n ops g s=guardOf an n ops g f:=by
 unfold guardOf;split
 ·rename_i d hd;rw[j d (List.mem_append_right _ (by simp[p,hd]))]
 ·rfl
theorem td{s f:Nat→af}{h h':Nat→Qz}{i:Nat}{o:Oper}(j:∀t∈o.looksAt ops,s t=f t)(p:∀i∈jD h o.op (fk s o.op),h i=h' i):
  oL P tb an n base ops i o s h=oL P tb an n base ops i o f h':=by
 unfold oL;rw[yr (vV j) p];split
 ·split
  ·rfl
  ·rename_i g q;rw[p7 j q]
 ·rfl
theorem nN{s f:Nat→af}{o:Oper}(j:∀t∈o.looksAt ops,s t=f t):fk s o.op=fk f o.op:=List.map_congr_left (vV j)
theorem Ck{h h':Nat→Qz}{f:List af}(j:∀i∈vD h f,h i=h' i):vD h f=vD h' f:=by
 unfold vD;congr 1;have:∀i∈bu f,h i=h' i:=fun i hi=>j i (List.mem_append_left _ hi)
 revert this;generalize bu f=l;intro hl;induction l with
 | nil=>rfl
 | cons a l p=>rw[List.flatMap_cons,List.flatMap_cons,hl a (by simp),p (fun i hi=>hl i (by simp[hi]))]
theorem Bh{h h':Nat→Qz}{f:List af}(j:∀i∈uZ h f,h i=h' i):uZ h f=uZ h' f:=by
 unfold uZ;congr 1;have:∀i∈bu f,h i=h' i:=fun i hi=>j i (List.mem_append_left _ hi)
 revert this;generalize bu f=l;intro hl;induction l with
 | nil=>rfl
 | cons a l p=>rw[List.flatMap_cons,List.flatMap_cons,hl a (by simp),p (fun i hi=>hl i (by simp[hi]))]
theorem oR{h h':Nat→Qz}{op:Op}{f:List af}(j:∀i∈jD h op f,h i=h' i):jD h op f=jD h' op f:=by
 cases op <;> first | rfl | exact Ck j | exact Bh j
structure oh(P:Program)(tb:bQ)(an:An)(n:NS)(base:Nat)(ops:Array Oper)(F W:Nat→QV)(i:Nat)(s:Nat→af)(h:Nat→Qz)(s':Nat→af)(h':Nat→Qz):Prop where
 ex:∃o x u c,ops[i]? = some o∧oL P tb an n base ops i o s h=some (x,u,c)∧c∧(∀j∈jD h o.op (fk s o.op),j∈F i)∧(∀p∈u,p.1∈W i)∧s'=jY s o.dst x∧h'=apply u h
theorem vW{s:Nat→af}{d:QJ}{x:af}{t:Nat}(h:∀k,d=some k→k≠t):jY s d x t=s t:=by
 cases d with
 | none=>rfl
 | some d=>exact aR _ _ (Ne.symm (h d rfl))
theorem E5{s:Nat→af}{d e:QJ}{x y:af}(h:∀k,d=some k→e≠some k):jY (jY s d x) e y=jY (jY s e y) d x:=by
 cases d with
 | none=>rfl
 | some d =>
  cases e with
  | none=>rfl
  | some e =>
   have f:e≠d:=fun q=>h d rfl (by rw[q])
   funext k;simp only[jY,bG];by_cases h1:k=e <;> by_cases h2:k=d <;> simp_all
theorem wB{i j:Nat}{f q:Oper}(hi:ops[i]? = some f)(X:ops[j]? = some q)(L:f.apart ops q=true)(h1:zi (W i) (F j)=true)(h2:zi (W j) (F i)=true)(h3:zi (W i) (W j)=true)
  {s Y z:Nat→af} {h A B:Nat→Qz} (a1:oh P tb an n base ops F W i s h Y A) (a2:oh P tb an n base ops F W j Y A z B) :
  ∃Z C,oh P tb an n base ops F W j s h Z C∧oh P tb an n base ops F W i Z C z B:=by
 obtain⟨o,x,u,c,e1,e2,e3,e4,M,rfl,rfl⟩:=a1.ex;obtain⟨o',y,v,c',f1,f2,f3,f4,N,rfl,rfl⟩:=a2.ex;rw[hi]at e1;cases e1;rw[X]at f1;cases f1;obtain⟨p1,p2,p3⟩:=Oper.apart_spec L;have D:∀t∈q.looksAt ops,jY s f.dst x t=s t:=fun t ht=>vW fun k hk e=>by subst e;exact p1 k hk ht
 have E:∀k∈jD (apply u h) q.op (fk (jY s f.dst x) q.op),apply u h k=h k:=fun k hk=>gB fun p hp e=>pA h1 (M p hp) (by rw[e];exact f4 k hk)
 have g2:=td (P:=P) (tb:=tb) (an:=an) (n:=n) (base:=base) (i:=j) D E;rw[f2]at g2;have O:=nN D;have V:=oR E;have I:∀t∈f.looksAt ops,s t=jY s q.dst y t:=fun t ht=>(vW fun k hk e=>by subst e;exact p3 k hk ht).symm
 have J:∀k∈jD h f.op (fk s f.op),h k=apply v h k:=fun k hk=>(gB fun p hp e=>pA h2 (N p hp) (by rw[e];exact e4 k hk)).symm
 have g3:=td (P:=P) (tb:=tb) (an:=an) (n:=n) (base:=base) (i:=i) I J;rw[e2]at g3;refine⟨jY s q.dst y,apply v h,⟨q,y,v,c',X,g2.symm,f3,fun k hk=>f4 k ?_,N,rfl,rfl⟩,⟨f,x,u,c,hi,g3.symm,e3,fun k hk=>e4 k ?_,M,?_,?_⟩⟩
 ·rw[V,O];exact hk
 ·rw[oR J,nN I];exact hk
 ·exact E5 p2
 ·exact(Cf M N h3).symm
def Ep(P:Program)(tb:bQ)(an:An)(n:NS)(base:Nat)(ops:Array Oper)(F W:Nat→QV)(Q:(Nat→af)→(Nat→Qz)→Prop):Nat→Array Bool→(Nat→af)→(Nat→Qz)→Prop
 | 0,listed,s,h=>Region.ready .any ops listed=[]∧Q s h
 | f+1,listed,s,h=>(Region.ready .any ops listed=[]→Q s h) ∧
  ∀i∈Region.ready .any ops listed,∃j h',oh P tb an n base ops F W i s h j h'∧Ep P tb an n base ops F W Q f (listed.setIfInBounds i true) j h'
def sY(ops:Array Oper)(F W:Nat→QV)(i j:Nat)(f p:Oper):Bool:=f.apart ops p && zi (W i) (F j) && zi (W j) (F i) && zi (W i) (W j)
def ku(m:QV)(o:Oper):Nat:=o.after.toList.foldl (fun a e=>if Region.binds .any e then a ||| 2 ^ e.on ||| m.getD e.on 0 else a) 0
def tB(m:QV):List Oper→QV
 | []=>m
 | o::r=>tB (m++[ku m o]) r
def pI(ops:Array Oper):QV:=tB [] ops.toList
theorem AQ{m:QV}{o:Oper}{i:Nat}(h:(ku m o).testBit i=true):∃e∈o.after.toList,Region.binds .any e=true∧(e.on=i∨(m.getD e.on 0).testBit i=true):=by
 have key:∀(l:List Edge) (a:Nat),(l.foldl (fun a e=>if Region.binds .any e then a ||| 2 ^ e.on ||| m.getD e.on 0 else a) a).testBit i=true →
   a.testBit i=true∨∃e∈l,Region.binds .any e=true∧(e.on=i∨(m.getD e.on 0).testBit i=true):=fun l=>by
  induction l with
  | nil=>intro a h;exact .inl h
  | cons e l f =>
   intro a h;rw[List.foldl_cons]at h;rcases f _ h with h1 | ⟨j,h1,h2⟩
   ·split at h1
    ·rename_i hb;rw[Nat.testBit_or,Nat.testBit_or,Bool.or_eq_true,Bool.or_eq_true]at h1;rcases h1 with(h1 | h1) | h1
     ·exact .inl h1
     ·exact .inr ⟨e,by simp,hb,.inl (by rw[Nat.testBit_two_pow]at h1;simpa using h1)⟩
     ·exact .inr ⟨e,by simp,hb,.inr h1⟩
    ·exact .inl h1
   ·exact .inr ⟨j,by simp[h1],h2⟩
 rcases key _ _ h with h1 | h1
 ·simp at h1
 ·exact h1
theorem yf:∀(r:List Oper) (m:QV),∃l,tB m r=m++l
 | [],m=>⟨[],by simp[tB]⟩
 | o::r,m=>by
  obtain⟨l,h⟩:=yf r (m++[ku m o]);exact⟨ku m o::l,by simp only[tB];rw[h];simp⟩
theorem AE:∀(r:List Oper) (m:QV) (k:Nat) (o:Oper),r[k]? = some o→∃f l,tB m r=f++[ku f o]++l∧f.length=m.length+k
 | [],m,k,o,h=>by simp at h
 | o::r,m,0,j,h=>by
  simp at h;subst h;obtain⟨l,h⟩:=yf r (m++[ku m o]);exact⟨m,l,by simp only[tB];exact h,by simp⟩
 | o::r,m,k+1,j,h=>by
  obtain⟨f,l,h1,h2⟩:=AE r (m++[ku m o]) k j (by simpa using h);exact⟨f,l,by simp only[tB];exact h1,by simp at h2;omega⟩
theorem FA{j i:Nat}{f:Oper}(x:ops[j]? = some f)(h:((pI ops).getD j 0).testBit i=true):∃e∈f.after.toList,Region.binds .any e=true∧(e.on=i∨e.on<j∧((pI ops).getD e.on 0).testBit i=true):=by
 obtain⟨q,l,h1,h2⟩:=AE ops.toList [] j f (by simpa using x);simp only[List.length_nil,Nat.zero_add]at h2;have u:pI ops=q++[ku q f]++l:=h1;have z:(pI ops).getD j 0=ku q f:=by rw[u,List.getD_eq_getElem?_getD,List.append_assoc,List.getElem?_append_right (by omega)];simp[h2]
 rw[z]at h;obtain⟨e,A,B,p⟩:=AQ h;refine⟨e,A,B,p.imp (fun h=>h) fun p=>?_⟩;rcases Nat.lt_or_ge e.on j with v | v
 ·refine⟨v,?_⟩;rw[u,List.append_assoc,List.getD_eq_getElem?_getD,List.getElem?_append_left (by omega),←List.getD_eq_getElem?_getD];exact p
 ·rw[List.getD_eq_getElem?_getD,List.getElem?_eq_none (by omega)]at p;simp at p
def oS(ops:Array Oper)(listed:Array Bool):Prop:=∀(k:Nat) (o:Oper),ops[k]? = some o→listed.getD k false=true→∀e∈o.after,Region.binds .any e=true→listed.getD e.on false=true
theorem qh{listed:Array Bool}(hc:oS ops listed){i:Nat}:∀(n j:Nat) (f:Oper),j<n→ops[j]? = some f→(∀e∈f.after,Region.binds .any e=true→listed.getD e.on false=true) →
  ((pI ops).getD j 0).testBit i=true→listed.getD i false=true
 | 0,_,_,h,_,_,_=>absurd h (by omega)
 | n+1,j,f,hn,q,hd,hb=>by
  obtain⟨e,x,z,u⟩:=FA q hb;have hl:=hd e (by simpa using x) z;rcases u with rfl | ⟨u,A⟩
  ·exact hl
  ·have p:e.on<ops.size:=by have:=(Array.getElem?_eq_some_iff.1 q).1;omega
   have v:ops[e.on]? = some ops[e.on]:=Array.getElem?_eq_getElem p;exact qh hc n e.on _ (by omega) v (hc _ _ v hl) A
theorem oS.add{listed:Array Bool}(hc:oS ops listed){j:Nat}(B:j∈Region.ready .any ops listed):oS ops (listed.setIfInBounds j true):=fun k o hk hl e z hb=>by
 obtain⟨_,C,u,f⟩:=mem_ready.1 B;by_cases h:j=k
 ·subst h;rw[u]at hk;cases hk;exact getD_set_true (f e z hb)
 ·rw[getD_set_ne false h]at hl;exact getD_set_true (hc k o hk hl e z hb)
theorem vG{Q:(Nat→af)→(Nat→Qz)→Prop}{i:Nat}{Y:Oper}(hi:ops[i]? = some Y):∀(p:Nat) (listed:Array Bool) {s C:Nat→af} {h q:Nat→Qz},
  oS ops listed→(∀j D,ops[j]? = some D→j≠i→listed.getD j true=false→((pI ops).getD j 0).testBit i=false→sY ops F W i j Y D=true) →
  i∈Region.ready .any ops listed→oh P tb an n base ops F W i s h C q→Ep P tb an n base ops F W Q p (listed.setIfInBounds i true) C q→Ep P tb an n base ops F W Q (p+1) listed s h
 | 0,listed,s,C,h,q,_,_,A,x,H=>by
  refine⟨fun e=>(by rw[e]at A;cases A),fun j E=>?_⟩;by_cases f:j=i
  ·subst f;exact⟨C,q,x,H⟩
  ·have:=ready_mono E f;rw[H.1]at this;cases this
 | p+1,listed,s,C,h,q,I,u,A,x,H=>by
  refine⟨fun e=>(by rw[e]at A;cases A),fun j E=>?_⟩;by_cases f:j=i
  ·subst f;exact⟨C,q,x,H⟩
  ·obtain⟨a1,a3,a2,H2⟩:=H.2 j (ready_mono E f);obtain⟨z,D,B,J⟩:=mem_ready.1 E;have L:((pI ops).getD j 0).testBit i=false:=by
    cases hb:((pI ops).getD j 0).testBit i with
    | false=>rfl
    | true =>
     have h1:=qh I (j+1) j D (by omega) B J hb;have Z:=(mem_ready.1 A).1;rcases Nat.lt_or_ge i listed.size with h' | h'
     ·simp[h']at Z h1;rw[Z]at h1;cases h1
     ·simp[Array.getElem?_eq_none h']at h1
   have v:=u j D B f z L;simp only[sY,Bool.and_eq_true]at v;obtain⟨sj,O,b1,b2⟩:=wB hi B v.1.1.1 v.1.1.2 v.1.2 v.2 x a2;refine⟨sj,O,b1,vG hi p (listed.setIfInBounds j true) (I.add E) (fun k ok hk V M X=>?_) (ready_mono A (Ne.symm f)) b2 ?_⟩
   ·refine u k ok hk V ?_ X;by_cases N:j=k
    ·subst N;exact z
    ·rw[getD_set_ne true N]at M;exact M
   ·rw[Array.setIfInBounds_comm _ _ f];exact H2
def Ap(P:Program)(tb:bQ)(an:An)(n:NS)(base:Nat)(ops:Array Oper):List Oper→Nat→(Nat→af)→(Nat→Qz)→Option ((Nat→af)×(Nat→Qz)×List Prop×List (QV×QV))
 | [],_,s,h=>some (s,h,[],[])
 | o::r,k,s,h=>match oL P tb an n base ops k o s h with
  | some (x,u,c)=>match Ap P tb an n base ops r (k+1) (jY s o.dst x) (apply u h)with
   | some (f,h',j,p)=>some (f,h',c::j,(jD h o.op (fk s o.op),u.map (·.1))::p)
   | none=>none
  | none=>none
def DV(ops:Array Oper)(F W:Nat→QV)(A:QV)(listed:Array Bool)(i:Nat):Bool :=
 match ops[i]? with
 | none=>false
 | some f=>(List.range ops.size).all fun j=>j == i || listed.getD j true || match ops[j]? with
   | some p=>(A.getD j 0).testBit i || sY ops F W i j f p
   | none=>true
def Em(ops:Array Oper)(F W:Nat→QV)(A:QV):Nat→Nat→Array Bool→Bool
 | 0,_,listed=>(Region.ready .any ops listed).isEmpty
 | f+1,k,listed=>(Region.ready .any ops listed).contains k && DV ops F W A listed k && Em ops F W A f (k+1) (listed.setIfInBounds k true)
theorem uR{A:QV}{i:Nat}{u:Oper}{listed:Array Bool}(hi:ops[i]? = some u)(h:DV ops F W A listed i=true)(j:Nat)(v:Oper)
  (x:ops[j]? = some v) (f:j≠i) (p:listed.getD j true=false) (q:(A.getD j 0).testBit i=false):sY ops F W i j u v=true:=by
 simp only[DV,hi,List.all_eq_true,List.mem_range]at h;have h1:=h j (Array.getElem?_eq_some_iff.1 x).1;simp only[x,Bool.or_eq_true,beq_iff_eq,f,false_or,p,q,Bool.false_eq_true]at h1;exact h1
theorem AO{Q:(Nat→af)→(Nat→Qz)→Prop}:∀(l:List Oper) (k:Nat) (listed:Array Bool) {s A:Nat→af} {h h':Nat→Qz} {B:List Prop} {q:List (QV×QV)},(∀j,l[j]? = ops[k+j]?) →
  (∀j,q[j]?.map (·.1)=(if j<l.length then some (F (k+j))else none))→(∀j,q[j]?.map (·.2)=(if j<l.length then some (W (k+j))else none)) →
  oS ops listed→Em ops F W (pI ops) l.length k listed=true→Ap P tb an n base ops l k s h=some (A,h',B,q)→oe B→Q A h'→Ep P tb an n base ops F W Q l.length listed s h
 | [],_,listed,s,A,h,h',B,q,_,_,_,_,hB,f,_,C=>by
  cases f;exact⟨by simpa [Em]using hB,C⟩
 | o::l,k,listed,s,A,h,h',B,q,hl,M,N,v,hB,f,hc,C=>by
  have D:ops[k]? = some o:=by simpa using(hl 0).symm
  simp only[List.length_cons,Em,Bool.and_eq_true]at hB;obtain⟨⟨E,X⟩,I⟩:=hB;simp only[Ap]at f;split at f
  ·rename_i x u c Y;split at f
   ·rename_i s2 h2 Z a1 J;cases f;have O:=M 0;have V:=N 0;simp at O V;have L:oh P tb an n base ops F W k s h (jY s o.dst x) (apply u h):=⟨o,x,u,c,D,Y,hc.1,fun j hj=>by rw[←O];exact hj,fun p hp=>by rw[←V];exact List.mem_map.2 ⟨p,hp,rfl⟩,rfl,rfl⟩;have z:k∈Region.ready .any ops listed:=by simpa using E
    refine vG D l.length listed v (uR D X) z L ?_;refine AO l (k+1) _ (fun j=>by have:=hl (j+1);simpa [Nat.add_assoc,Nat.add_comm 1 j]using this) (fun j=>?_) (fun j=>?_) (v.add z) I J hc.2 C
    ·have:=M (j+1);simpa [Nat.add_assoc,Nat.add_comm 1 j]using this
    ·have:=N (j+1);simpa [Nat.add_assoc,Nat.add_comm 1 j]using this
   ·cases f
  ·cases f
theorem pZ(q:cb P tb){M:(Nat→af)→(Nat→Qz)→Prop}{Q:Exit→Act→World→Prop}
  (E:∀s h a w,M s h→EG n base Bw w0 (fun i=>i<ops.size) s h a w→Q .normal a w):∀(f:Nat) (listed:Array Bool) {s:Nat→af} {h:Nat→Qz} {a:Act} {w:World},listed.size=ops.size →
  EG n base Bw w0 (fun i=>listed.getD i false=true) s h a w→Ep P tb an n base ops F W M f listed s h→wpAny P .any ops Q f listed a w
 | 0,listed,s,h,a,w,p,hm,H=>by
  refine⟨H.1,E s h a w H.2 ?_⟩;obtain⟨ρ,φ,z,A,B⟩:=hm.ex;refine⟨ρ,φ,z,A,fun id u hu=>(B id u hu).imp (fun h=>h) fun⟨i,j,h1,h2⟩=>⟨i,j,?_,h2⟩⟩;rcases Nat.lt_or_ge i listed.size with h' | h'
  ·omega
  ·simp[Array.getElem?_eq_none h']at h1
 | f+1,listed,s,h,a,w,p,hm,H=>by
  refine⟨fun e=>E s h a w (H.1 e) ?_,fun i hi=>?_⟩
  ·obtain⟨ρ,φ,z,A,B⟩:=hm.ex;refine⟨ρ,φ,z,A,fun id u hu=>(B id u hu).imp (fun h=>h) fun⟨i,j,h1,h2⟩=>⟨i,j,?_,h2⟩⟩;rcases Nat.lt_or_ge i listed.size with h' | h'
   ·omega
   ·simp[Array.getElem?_eq_none h']at h1
  ·obtain⟨s',h',I,O⟩:=H.2 i hi;obtain⟨o,x,u,c,N,V,X,e4,e5,rfl,rfl⟩:=I.ex;obtain⟨C,_⟩:=mem_ready.1 hi;have D:i<listed.size:=by rw[p];exact(Array.getElem?_eq_some_iff.1 N).1
   have J:¬(listed.getD i false=true):=fun e=>by simp[D]at C e;rw[C]at e;cases e
   refine jN q hm N J V X fun a' w' L=>pZ q E f _ (by simpa using p) ?_ O
   obtain⟨ρ,φ,z,A,B⟩:=L.ex;refine⟨ρ,φ,z,A,fun id v Y=>(B id v Y).imp (fun h=>h) fun⟨j,Z,h1,h2⟩=>⟨j,Z,?_,h2⟩⟩;rcases h1 with h1 | rfl
   ·exact getD_set_true h1
   ·simp[D]
end
structure R{P:Program}(n:NS)(Bw:Nat→Prop)(w0:cv P)(σ:St)(a:Act)(w:World):Prop where
 ex:∃ρ φ,Mem Bw w0 ρ φ σ.h w∧eH n (Fr (own φ σ.h) Bw w) ρ σ.s a∧∀id u,ρ id=some u→id<σ.nx
 pn:∀i u,w0.oM i=some u→i<σ.pn
def W(P:Program)(n:NS)(Bw:Nat→Prop)(w0:cv P)(c:Code)(σ:St)(Q:Exit→St→Prop):Prop :=
 ∀a w,R n Bw w0 σ a w→c.wp P (fun e j w'=>∃σ',R n Bw w0 σ' j w'∧Q e σ') a w
section
variable{P:Program}{n:NS}{Bw:Nat→Prop}{w0:cv P}{Q Q':Exit→St→Prop}{σ:St}
theorem W.mono{c:Code}(h:W P n Bw w0 c σ Q)(j:∀e σ',Q e σ'→Q' e σ'):W P n Bw w0 c σ Q':=fun a w z =>
 wp_mono (h a w z) fun e _ w' ⟨σ',h1,h2⟩=>⟨σ',h1,j _ _ h2⟩
theorem Jt(h:Q .normal σ):W P n Bw w0 .skip σ Q:=fun _ _ f=>wp_skip ⟨σ,f,h⟩
theorem av(h:Q .ret σ):W P n Bw w0 .ret σ Q:=fun _ _ f=>wp_ret ⟨σ,f,h⟩
theorem J7{id:Nat}(h:Q (.exit id) σ):W P n Bw w0 (.exit id) σ Q:=fun _ _ f=>wp_exit ⟨σ,f,h⟩
def yc(P:Program)(n:NS)(Bw:Nat→Prop)(w0:cv P)(d:Code)(Q:Exit→St→Prop):Exit→St→Prop
 | .normal,σ=>W P n Bw w0 d σ Q
 | e,σ=>Q e σ
theorem ag{c d:Code}(h:W P n Bw w0 c σ (yc P n Bw w0 d Q)):W P n Bw w0 (.seq c d) σ Q:=fun a w f =>
 wp_seq (wp_mono (h a w f) fun e j w' ⟨σ',h1,h2⟩=>by
  cases e with
  | normal=>exact h2 j w' h1
  | _=>exact⟨σ',h1,h2⟩)
theorem Dg{c:Operand}{x y:Code}{β b:Bool}(hc:ev σ.s c = .p β .bool b)(h1:b=true→W P n Bw w0 x σ Q)(h2:b=false→W P n Bw w0 y σ Q):W P n Bw w0 (.cond c x y) σ Q:=fun a w f=>by
 obtain⟨ρ,φ,_,q,_⟩:=f.ex;have j:=aV q c;rw[hc]at j;refine wp_cond (nF j) ?_;cases b with
 | true=>exact h1 rfl a w f
 | false=>exact h2 rfl a w f
def kV(id:Nat)(Q:Exit→St→Prop):Exit→St→Prop
 | .exit f,σ=>if f=id then Q .normal σ else Q (.exit f) σ
 | e,σ=>Q e σ
theorem ak{id:Nat}{c:Code}(h:W P n Bw w0 c σ (kV id Q)):W P n Bw w0 (.block id c) σ Q:=fun a w f =>
 wp_block (wp_mono (h a w f) fun e p q ⟨σ',h1,h2⟩=>by
  cases e with
  | exit j =>
   simp only[kV]at h2;simp only[Exit.inBlock];split at h2
   ·rename_i e;rw[if_pos e];exact⟨σ',h1,h2⟩
   ·rename_i e;rw[if_neg e];exact⟨σ',h1,h2⟩
  | _=>exact⟨σ',h1,h2⟩)
theorem G7(p:Nat→Prop)(h:∃k,p k):∃k,p k∧∀m,p m→k≤m:=by
 obtain⟨k,hk⟩:=h;induction k using Nat.strongRecOn with
 | _ k f =>
  by_cases hm:∃m,m<k∧p m
  ·obtain⟨m,h1,h2⟩:=hm;exact f m h1 h2
  ·exact⟨k,hk,fun m h2=>Nat.le_of_not_lt fun h1=>hm ⟨m,h1,h2⟩⟩
def Le(n:NS)(σ σ':St):Prop:=∀(P:Program) Bw (w0:cv P) a w,R n Bw w0 σ a w→R n Bw w0 σ' a w
theorem Le.refl(σ:St):Le n σ σ:=fun _ _ _ _ _ h=>h
theorem Le.trans{σ1 p q:St}(h:Le n σ1 p)(k:Le n p q):Le n σ1 q:=fun _ _ _ _ _ u=>k _ _ _ _ _ (h _ _ _ _ _ u)
theorem IT{σ':St}{c:Code}(hl:Le n σ σ')(h:W P n Bw w0 c σ' Q):W P n Bw w0 c σ Q:=fun a w f=>h a w (hl _ _ _ _ _ f)
def JQ{α:Type}(n:NS)(Inv:Nat→α→Prop)(f:α→St)(k:Nat)(Q:Exit→St→Prop):Exit→St→Prop
 | .normal,σ=>∃m y,m<k∧Inv m y∧Le n σ (f y)
 | e,σ=>Q e σ
theorem Jo{α:Type}{c:Code}(Inv:Nat→α→Prop)(f:α→St)(h:∀k x,Inv k x→W P n Bw w0 c (f x) (JQ n Inv f k Q)){k:Nat}{x:α}(E:Inv k x)(hl:Le n σ (f x)):
  W P n Bw w0 (.loop c) σ Q:=fun a w I=>by
 let p:Act→World→Nat→Prop:=fun a w k=>∃x,Inv k x∧R n Bw w0 (f x) a w
 have hp:∀a w,(∃k,p a w k)→∃k,p a w k∧∀m,p a w m→k≤m:=fun a w=>G7 (p a w)
 classical
 let u:Act→World→Nat:=fun a w=>if h:∃k,p a w k then(hp a w h).choose else 0
 have q:∀a w (h:∃k,p a w k),p a w (u a w)∧∀m,p a w m→u a w≤m:=fun a w h=>by simp only[u,dif_pos h];exact(hp a w h).choose_spec
 refine Go.wp_loop (fun a w=>∃k,p a w k) u ⟨k,x,E,hl _ _ _ _ _ I⟩ fun a w hi=>?_
 obtain⟨⟨x,h1,h2⟩,_⟩:=q a w hi;refine wp_mono (h _ x h1 a w h2) fun e A B ⟨σ',C,D⟩=>?_
 cases e with
 | normal =>
  obtain⟨m,y,hm,v,z⟩:=D;have j:p A B m:=⟨y,v,z _ _ _ _ _ C⟩;exact⟨⟨m,j⟩,Nat.lt_of_le_of_lt ((q A B ⟨m,j⟩).2 m j) hm⟩
 | _=>exact⟨σ',C,D⟩
theorem zQ{tb:bQ}(f:cb P tb)(an:An){id:Nat}{ops:Array Oper}{v:Nat→af}{h':Nat→Qz}{x:List Prop}(D:Fb P tb an n σ.nx ops ops.toList 0 σ.s σ.h=some (v,h',x))(hc:oe x)
  (E:Q .normal ⟨v,h',σ.nx+8*ops.size,σ.pn⟩):W P n Bw w0 (.region id ops false) σ Q:=fun a w z=>by
 obtain⟨ρ,φ,I,J,L⟩:=z.ex;refine wp_region ?_;have:=uO (P:=P) (tb:=tb) (an:=an) (n:=n) (base:=σ.nx) (ops:=ops) (Bw:=Bw) (w0:=w0) f (Q:=fun e A B=>∃σ',R n Bw w0 σ' A B∧Q e σ') ops.toList 0 (a:=a) (w:=w)
  ⟨ρ,φ,I,J,fun id u hu=> .inl (L id u hu)⟩ (fun j=>by simp) D hc (fun A B hm=>⟨_,?_,E⟩)
 ·rw[←List.range_eq_range']at this;simpa using this
 ·obtain⟨p,q,M,N,C⟩:=hm.ex;refine⟨⟨p,q,M,N,fun id u hu=>?_⟩,z.pn⟩;simp only[Array.length_toList]at C;rcases C id u hu with h1 | ⟨i,j,h1,h2,O⟩ <;> simp only <;> omega
theorem tI{tb:bQ}(f:cb P tb)(an:An)(r:Nat){id:Nat}{ops:Array Oper}{x:Nat→af}{h':Nat→Qz}{z:List Prop}{y:Value}(E:oz P tb an n σ.nx ops r ops.toList 0 σ.s σ.h=some (x,h',z,y))(hc:oe z)
  (I:Q (.panic [{ v:=y,recovered:=false }]) ⟨x,h',σ.nx+8*ops.size,σ.pn⟩):W P n Bw w0 (.region id ops false) σ Q:=fun a w A=>by
 obtain⟨ρ,φ,J,L,M⟩:=A.ex;refine wp_region ?_;have:=qZ (P:=P) (tb:=tb) (an:=an) (n:=n) (base:=σ.nx) (ops:=ops) (Bw:=Bw) (w0:=w0) f (Q:=fun e B C=>∃σ',R n Bw w0 σ' B C∧Q e σ') r ops.toList 0 (a:=a) (w:=w)
  ⟨ρ,φ,J,L,fun id u hu=> .inl (M id u hu)⟩ (fun j=>by simp) E hc (fun B C hm=>⟨_,?_,I⟩)
 ·rw[←List.range_eq_range']at this;simpa using this
 ·obtain⟨p,q,N,O,D⟩:=hm.ex;refine⟨⟨p,q,N,O,fun id u hu=>?_⟩,A.pn⟩;simp only[Array.length_toList]at D;rcases D id u hu with h1 | ⟨i,j,h1,h2,V⟩ <;> simp only <;> omega
def qf(f:List (QV×QV))(i:Nat):QV:=match f[i]? with | some p=>p.1 | none=>[]
def qk(f:List (QV×QV))(i:Nat):QV:=match f[i]? with | some p=>p.2 | none=>[]
theorem tP{tb:bQ}{an:An}{base:Nat}{ops:Array Oper}:∀(l:List Oper) (k:Nat) {s p:Nat→af} {h h':Nat→Qz} {q:List Prop} {j:List (QV×QV)},Ap P tb an n base ops l k s h=some (p,h',q,j)→j.length=l.length
 | [],_,_,_,_,_,_,_,f=>by cases f;rfl
 | o::l,k,s,p,h,h',q,j,f=>by
  simp only[Ap]at f;split at f
  ·split at f
   ·rename_i h2;cases f;simp[tP l (k+1) h2]
   ·cases f
  ·cases f
theorem Ke{tb:bQ}(B:cb P tb)(hm:P.follows .mixedOrders=true)(an:An){id:Nat}{ops:Array Oper}{z:Nat→af}{h':Nat→Qz}{M:List Prop}{p:List (QV×QV)}
  (N:Ap P tb an n σ.nx ops ops.toList 0 σ.s σ.h=some (z,h',M,p)) (Z:Em ops (qf p) (qk p) (pI ops) ops.size 0 (Array.replicate ops.size false)=true) (hc:oe M)
  (hq:Q .normal ⟨z,h',σ.nx+8*ops.size,σ.pn⟩):W P n Bw w0 (.region id ops true) σ Q:=fun a w O=>by
 obtain⟨ρ,φ,q1,q2,q3⟩:=O.ex;obtain⟨C,qF⟩:=q1.drew;have V:=tP ops.toList 0 N;refine wp_region_any hm ?_;have hA:=AO (P:=P) (tb:=tb) (an:=an) (n:=n) (base:=σ.nx) (ops:=ops) (F:=qf p) (W:=qk p) (Q:=fun s h=>s=z∧h=h') ops.toList 0 (Array.replicate ops.size false) (fun j=>by simp)
  (fun j=>by
   simp only[Nat.zero_add];split
   ·rename_i D;have f:j<p.length:=by omega
    simp[qf,f]
   ·rename_i D;have f:p.length≤j:=by omega
    simp[List.getElem?_eq_none f])
  (fun j=>by
   simp only[Nat.zero_add];split
   ·rename_i D;have f:j<p.length:=by omega
    simp[qk,f]
   ·rename_i D;have f:p.length≤j:=by omega
    simp[List.getElem?_eq_none f])
  (fun k o hk hl=>by simp[Array.getD]at hl) (by simpa using Z) N hc ⟨rfl,rfl⟩
 have E:Ep P tb an n σ.nx ops (qf p) (qk p) (fun s h=>s=z∧h=h') ops.size (Array.replicate ops.size false) σ.s σ.h:=by simpa using hA
 refine pZ (P:=P) (tb:=tb) (an:=an) (n:=n) (base:=σ.nx) (ops:=ops) (Bw:=Bw) (w0:=w0) B (fun s h a w I q=>?_) ops.size _ (by simp) ⟨ρ,φ,C,q2.mono qF (fun _ _ h=>h),fun id u hu=> .inl (q3 id u hu)⟩ E;obtain⟨rfl,rfl⟩:=I;obtain⟨J,L,r1,r2,r3⟩:=q.ex;refine⟨⟨s,h,σ.nx+8*ops.size,σ.pn⟩,⟨⟨J,L,r1,r2,fun id u hu=>?_⟩,O.pn⟩,hq⟩;rcases r3 id u hu with h1 | ⟨i,j,h1,h2,h3⟩ <;> simp only <;> omega
/-! ### A X: Y is dead is dropped,v get new x -/
def aA(l:List (Nat×af))(m:Qw)(nx:Nat)(pn:Nat:=0):St:=⟨fun t=>(look l t).getD .unk,fun i=>look m i,nx,pn⟩
def pS(f:Nat→Nat)(s:Nat→af):List (Nat×af)→Prop
 | []=>True
 | (t,x)::r=>s t=l4 f x∧pS f s r
def pT(f:Nat→Nat)(h:Nat→Qz):Qw→Prop
 | []=>True
 | (i,o)::r=>h (f i)=some (nr f o)∧pT f h r
theorem pS.get{f:Nat→Nat}{s:Nat→af}:∀ {l:List (Nat×af)},pS f s l→∀ {t x},(t,x)∈l→s t=l4 f x
 | (_,_)::_,h,t,x,hm=>by
  rcases List.mem_cons.1 hm with e | hm
  ·cases e;exact h.1
  ·exact pS.get h.2 hm
theorem pT.get{f:Nat→Nat}{h:Nat→Qz}:∀ {l:Qw},pT f h l→∀ {t x},(t,x)∈l→h (f t)=some (nr f x)
 | (_,_)::_,h,t,x,hm=>by
  rcases List.mem_cons.1 hm with e | hm
  ·cases e;exact h.1
  ·exact pT.get h.2 hm
def km(f:Nat→Nat)(l:List (Nat×af))(m:Qw)(nx pn:Nat):Bool :=
 (List.range pn).all (fun i=>f i == i && decide (i<nx)) &&
 l.all (fun p=>(ids p.2).all (· < nx)) && m.all (fun p=>decide (p.1<nx) && (nZ p.2).all (· < nx)) && m.all (fun p=>m.all fun q=>p.1 == q.1 || !(f p.1 == f q.1))
theorem KY(f:Nat→Nat){l:List (Nat×af)}{m:Qw}{nx:Nat}(hs:pS f σ.s l)(ho:pT f σ.h m)(M:km f l m nx σ.pn=true):Le n σ (aA l m nx σ.pn):=fun P Bw w0 a w hr=>by
 obtain⟨ρ,φ,I,q2,q3⟩:=hr.ex;simp only[km,Bool.and_eq_true,List.all_eq_true,decide_eq_true_eq,Bool.or_eq_true,beq_iff_eq,Bool.not_eq_true',beq_eq_false_iff_ne]at M;obtain⟨⟨⟨k0,k1⟩,k2⟩,k3⟩:=M;let ρ':Nat→QW:=fun i=>if i<nx then ρ (f i)else none
 let J:Nat→Nat→Prop:=fun i=>φ (f i)
 have p:∀i,i<nx→ρ' i=ρ (f i):=fun i hi=>by simp only[ρ',if_pos hi]
 have q:∀i o,look m i=some o→σ.h (f i)=some (nr f o)∧i<nx∧∀j∈nZ o,j<nx:=fun i o hi=>by have hm:=mL hi;exact⟨pT.get ho hm,(k2 _ hm).1,(k2 _ hm).2⟩
 have z:∀o,(nr f o).live=o.live:=fun o=>gE
 have E:∀k,own J (fun i=>look m i) k→own φ σ.h k:=by rintro k ⟨id,o,h1,h2,h4⟩;obtain⟨N,p2,_⟩:=q id o h1;exact⟨f id,_,N,by rw[z];exact h2,h4⟩
 have D:∀β a v,Fr (own φ σ.h) Bw w β a v→Fr (own J (fun i=>look m i)) Bw w β a v:=fun β a v h=>⟨fun x=>h.1 (E _ x),h.2⟩
 refine⟨⟨ρ',J,⟨fun id o a1=>?_,fun id o k h1 h2 h3=>I.lt _ _ k (q id o h1).1 (by rw[z];exact h2) h3,fun id B o o' k h1 h2 h3 h4 h5 h6=>?_,I.bw,fun k hk=>I.ow k (E k hk),I.kp,fun i u hi=>?_⟩,⟨q2.tm,q2.df,fun t=>?_⟩,fun id u hu=>?_⟩,hr.pn⟩
 ·obtain⟨N,p2,p3⟩:=q id o a1;obtain⟨u,r1,C⟩:=I.ob _ _ N;refine⟨u,by rw[p id p2];exact r1,?_⟩;cases o with
  | arr e A L=>exact OR.mono (ρ:=ρ) (ρ':=ρ) (w:=w) (o:= .arr e A L) D (fun _ _ h=>h) (fun _ h=>h) (fun _ _ _=>rfl) C
  | fz A L =>
   simp only[nr,OR]at C ⊢;exact qs rfl (V.mono D (fun _ _ h=>h) C)
  | mat e e2 A a3 hole=>exact Cc (fun k B e=>p B (p3 B (by subst e;simp[nZ]))) (OR.mono (ρ:=ρ) (ρ':=ρ) (w:=w) D (fun _ _ h=>h) (fun _ h=>h) (fun _ _ _=>rfl) C)
  | mpo K A kv=>exact OR.mono (ρ:=ρ) (ρ':=ρ) (w:=w) (o:= .mpo K A kv) D (fun _ _ h=>h) (fun _ h=>h) (fun _ _ _=>rfl) C
  | mpl K kv=>exact OR.mono (ρ:=ρ) (ρ':=ρ) (w:=w) (o:= .mpl K kv) D (fun _ _ h=>h) (fun _ h=>h) (fun _ _ _=>rfl) C
  | cutz A L =>
   simp only[nr,OR]at C ⊢;exact⟨C.1,qs rfl (V.mono D (fun _ _ h=>h) C.2)⟩
  | bytes e L=>exact OR.mono (ρ:=ρ) (ρ':=ρ) (w:=w) (o:= .bytes e L) D (fun _ _ h=>h) (fun _ h=>h) (fun _ _ _=>rfl) C
  | mpq b kv=>exact C
  | nds e e2 ns hole =>
   have r3:=OR.mono (ρ:=ρ) (ρ':=ρ) (w:=w) D (fun _ _ h=>h) (fun _ h=>h) (fun _ _ _=>rfl) C;match hole with
   | none=>exact tO r3
   | some (k,g,B)=>exact tY (p B (p3 B (by simp[nZ]))) r3
  | lmp k n L cs =>
   obtain⟨g,t,cells,e,O,X,Y,Z,s4⟩:=C;refine⟨g,t,cells,e,O,X,by rw[Y,bD],Z,?_⟩;exact me (fun i hi=>p i (p3 i (by simpa only [nZ]using hi))) (VL.mono D (fun _ _ h=>h) (fun _ _ h=>h) s4)
  | vrow n sz cs =>
   obtain⟨g,t,cells,e,O,X,Y,Z,s4⟩:=C;refine⟨g,t,cells,e,O,X,by rw[Y,bD],by rw[←Z,bD],?_⟩;exact me (fun i hi=>p i (p3 i (by simpa only [nZ]using hi))) (VL.mono D (fun _ _ h=>h) (fun _ _ h=>h) s4)
  | box cs =>
   obtain⟨g,t,cells,e,O,X,Y,Z⟩:=C;refine⟨g,t,cells,e,O,X,by rw[Y,bD],?_⟩;exact me (fun i hi=>p i (p3 i (by simpa only [nZ]using hi))) (VL.mono D (fun _ _ h=>h) (fun _ _ h=>h) Z)
 ·obtain⟨N,p2,_⟩:=q id o h1;obtain⟨a2,a4,_⟩:=q B o' h3;have:=I.dj _ _ _ _ k N (by rw[z];exact h2) a2 (by rw[z];exact h4) h5 h6;rcases k3 _ (mL h1) _ (mL h3)with e | e
  ·exact e
  ·exact absurd this e
 ·have:=k0 i (List.mem_range.2 (hr.pn i u hi));rw[p i this.2,this.1];exact I.oM i u hi
 ·simp only[aA];cases hl:look l t with
  | none=>simp only[Option.getD_none,V]
  | some x =>
   have hm:=mL hl;have hv:=q2.sl t;rw[pS.get hs hm]at hv;simp only[Option.getD_some];exact Jf (fun i hi=>p i (k1 _ hm i hi)) (V.mono D (fun _ _ h=>h) hv)
 ·simp only[ρ']at hu;split at hu
  ·assumption
  ·cases hu
end
def bf(β:Bool):List (Σ T:Ty,T.den)→List af
 | []=>[]
 | ⟨T,x⟩::r=>enc β T x::bf β r
def aL:List af→af
 | [x]=>x
 | xs=> .tup xs
def ta(tb:bQ)(s:Nat→af)(h:Nat→Qz):List ResultVar→Option (List af)
 | []=>some []
 | .tmp t::r=>match ta tb s h r with
  | some xs=>some (s t::xs)
  | none=>none
 | .cell a t::r=>match s a with
  | .adr id i sz off=>match h id with
   | some (.box cs)=>match tb.find t with
    | some ti=>match fY ti cs (i*sz+off)with
     | some x=>match ta tb s h r with
      | some xs=>some (x::xs)
      | none=>none
     | none=>none
    | none=>none
   | _=>none
  | _=>none
def ml(h:Nat→Qz):List af→List Ty→Option (List (Σ T:Ty,T.den))
 | [],[]=>some []
 | x::xs,T::Ts=>if(cellsOf x).all af.cell && kG T x then match Fk T h x with
  | some (y,u)=>match ml (apply u h) xs Ts with
   | some ys=>some (⟨T,y⟩::ys)
   | none=>none
  | none=>none
  else none
 | _,_=>none
def KA(tb:bQ)(p:List ResultVar)(f:List (Σ T:Ty,T.den)):Exit→St→Prop
 | .normal,σ=>∃j Ts,ta tb σ.s σ.h p=some j∧ml σ.h j Ts=some f
 | .ret,σ=>∃j Ts,ta tb σ.s σ.h p=some j∧ml σ.h j Ts=some f
 | _,_=>False
def nC(args:List af):St:=⟨fun t=>(args[t]?).getD .unk,fun _=>none,0,0⟩
section
variable{P:Program}{tb:bQ}{n:NS}{Bw:Nat→Prop}{w0:cv P}{w:World}{ρ:Nat→QW}{φ:Nat→Nat→Prop}{s:Nat→af}{h:Nat→Qz}{a:Act}
theorem iT(p:cb P tb)(m:Mem Bw w0 ρ φ h w)(z:eH n (Fr (own φ h) Bw w) ρ s a):∀ {E:List ResultVar} {u:List af},ta tb s h E=some u →
  ∃q,(E.mapM (fun r:ResultVar=>(match r with | .tmp t=>pure (a.tmps.getD t undef) | .cell B t=>(do loadVar t (←asAddr (a.tmps.getD B undef)):Sem Value)))).run P w = .ok q w∧iD (Fr (own φ h) Bw w) ρ u q
 | [],u,j=>by cases j;exact⟨[],rfl,trivial⟩
 | .tmp t::r,u,j=>by
  simp only[ta]at j;split at j
  ·rename_i C h1;cases j;obtain⟨q,A,D⟩:=iT p m z h1;refine⟨a.tmps.getD t undef::q,?_,z.sl t,D⟩;rw[List.mapM_cons,Sem.run_bind];simp only[Sem.run_pure,Result.andThen_ok,Sem.run_bind,A]
  ·cases j
 | .cell B t::r,u,j=>by
  simp only[ta]at j;split at j
  ·rename_i id i sz off e;split at j
   ·rename_i cs hi;split at j
    ·rename_i ti ht;split at j
     ·rename_i x J;split at j
      ·rename_i C h1;cases j;obtain⟨q,A,D⟩:=iT p m z h1;have I:=z.sl B;rw[e]at I;obtain⟨b,L,M⟩:=pN m I (cs:=cs) (off:=i*sz+off) (c:=True) (by simp only[lU,hi]) trivial;obtain⟨v,N,O⟩:=iz (P:=P) (p.find ht) M J;refine⟨v::q,?_,O,D⟩;rw[List.mapM_cons,Sem.run_bind];simp only[L,asAddr,Sem.run_bind,Sem.run_pure,Result.andThen_ok,N];simp only[asAddr]at A;rw[A];rfl
      ·cases j
     ·cases j
    ·cases j
   ·cases j
  ·cases j
theorem m5:∀ {J:List af} {Ts:List Ty} {h:Nat→Qz} {f:List (Σ T:Ty,T.den)} {B:QY},Mem Bw w0 ρ φ h w→ml h J Ts=some f→iD (Fr (own φ h) Bw w) ρ J B →
  iD (fun _=>Fr fW Bw w false) jh (bf false f) B
 | [],[],h,f,B,_,j,C=>by
  cases j;cases B with
  | nil=>trivial
  | cons _ _=>exact C.elim
 | x::J,T::Ts,h,f,B,m,j,C=>by
  simp only[ml]at j;split at j
  ·rename_i hc;split at j
   ·rename_i y u h1;split at j
    ·rename_i ys h2;cases j;cases B with
     | nil=>exact C.elim
     | cons v B =>
      obtain⟨N,O,X⟩:=mP m h1;simp only[Bool.and_eq_true]at hc;obtain⟨q,z⟩:=hc;obtain⟨Y,r2,r3⟩:=fN q C.1;obtain⟨Z,s2⟩:=X _ Y;refine⟨?_,m5 N h2 (iD.mono O (fun _ _ h=>h) C.2)⟩;have D:ah (Fr fW Bw w false) T y (fun k u=>v.cells.toList[k]? = some u):=ah.mono (fun a u hh=>⟨fun e=>e,hh.2⟩) (fun _ _ h=>h) Z;by_cases p:∃M,x = .agg M
      ·obtain⟨M,rfl⟩:=p;have I:=C.1;simp only[V]at I;obtain⟨us,rfl,e2,e3⟩:=I;have A:T.scalar=false:=by simpa [kG]using z
       simp only[enc,A];simp only[Bool.false_eq_true,if_false,V];refine⟨us,rfl,?_,jy false T y _ (ah.mono (fun _ _ h=>h) (fun k u hk=>by simpa [Value.cells]using hk) D)⟩;rw[eP,s2,e2];rfl
      ·have E:cellsOf x=[x]:=by cases x <;> first | rfl | exact(p ⟨_,rfl⟩).elim | cases z
       have A:T.scalar=true:=by cases x <;> first | exact z | exact(p ⟨_,rfl⟩).elim | cases z
       rw[E]at q;simp only[List.all_cons,List.all_nil,Bool.and_true]at q;have L:=fK (qJ q C.1);simp only[enc,A,if_true,V];refine⟨trivial,?_⟩;rw[L]at D;refine ah.gu (fun k u hk hu=>?_) D;rw[Ty.fA A]at hk;obtain rfl:k=0:=by omega
       simp at hu;exact hu.symm
    ·cases j
   ·cases j
  ·cases j
 | [],_::_,_,_,_,_,j,_=>by cases j
 | _::_,[],_,_,_,_,j,_=>by cases j
theorem iR{F:Bool→Addr→Value→Prop}:∀ {xs:List af} {j:QY},iD F ρ xs j→xs.length=j.length∧∀t:Nat,V F ρ ((xs[t]?).getD .unk) ((j[t]?).getD undef)
 | [],[],_=>⟨rfl,fun t=>by simp only[List.getElem?_nil,Option.getD_none,V]⟩
 | x::xs,v::j,h=>by
  obtain⟨h1,h2⟩:=iR h.2;refine⟨by simp[h1],fun t=>?_⟩;cases t with
  | zero=>exact h.1
  | succ t=>simpa using h2 t
 | [],_::_,h=>h.elim
 | _::_,[],h=>h.elim
theorem lj{α β:Type}(f:α→Sem β)(l:Array α)(w:World){j:List β}(h:(l.toList.mapM f).run P w = .ok j w):(l.mapM f).run P w = .ok j.toArray w:=by
 rw[Array.mapM_eq_mapM_toList,Sem.run_map,h];rfl
def Dv:Nat→Nat→Prop:=fun _ _=>False
theorem Pure.jz{f:FuncId}{fn:Func}{c:Code}(N:cb P tb)(hf:P.funcs[f]? = some fn)(p:(fn.name == "runtime.NumGoroutine")=false)(hb:fn.body=some c){args:List af}(a1:args.length≤fn.ntmps)
  {j:List (Σ T:Ty,T.den)} (h:∀Bw w0,W P fn.ntmps Bw w0 c (nC args) (KA tb fn.results.toList j)) (_:nW args=true):Pure P f args (aL (bf false j)):=by
 refine⟨⟨fn,hf,p,by rw[hb];rfl⟩,fun Bw w z J O B=>calls_of_wp hf hb ?_⟩;have X:∀β a v,Fr fW Bw w β a v→Fr (own Dv (nC args).h) Bw w β a v:=fun β a v hh=>⟨fun⟨_,_,_,_,Y⟩=>Y,hh.2⟩
 obtain⟨hl,hg⟩:=iR B;have hR:R fn.ntmps Bw (lF J) (nC args) { tmps:=z++Array.replicate (fn.ntmps - z.size) undef,defers:=[] } w:=by
  refine⟨⟨jh,Dv,⟨fun id o h=>(by cases h),fun id o k h=>(by cases h),fun id a2 o o' k h1=>(by cases h1),O,fun k ⟨_,_,_,_,Y⟩=>Y.elim,Kept.refl _,fun i u h=>(by cases h)⟩,⟨?_,rfl,fun t=>?_⟩,fun id u hu=>(by cases hu)⟩,fun i u h=>(by cases h)⟩
  ·have:z.size=args.length:=by rw[hl,Array.length_toList]
   simp only[Array.size_append,Array.size_replicate];omega
  ·have hv:=V.mono X (fun _ _ h=>h) (hg t);simp only[nC];rcases Nat.lt_or_ge t z.size with q | q
   ·have e:(z++Array.replicate (fn.ntmps - z.size) undef).getD t undef=(z.toList[t]?).getD undef:=by simp[Array.getD_eq_getD_getElem?,Array.getElem?_append,q]
    rw[e];exact hv
   ·have:args[t]? = none:=List.getElem?_eq_none (by rw[hl,Array.length_toList];exact q);rw[this];simp only[Option.getD_none,V]
 refine wp_mono (h Bw (lF J) _ _ hR) fun e a' w' ⟨σ',Z,I⟩=>?_
 have key:∀xs Ts,ta tb σ'.s σ'.h fn.results.toList=some xs→ml σ'.h xs Ts=some j→a'.defers=[]∧∃v,(results fn a'.tmps).run P w' = .ok v w' ∧
   ∃L,Ending.returned v = .returned L∧Below w.heap.size w w'∧V (fun _=>Fr fW Bw w' false) jh (aL (bf false j)) L:=fun xs Ts h1 h2=>by
  obtain⟨ρ,φ,q1,q2,_⟩:=Z.ex;obtain⟨C,r1,r2⟩:=iT (P:=P) N q1 q2 h1;have D:=m5 q1 h2 r2;have r4:=lj (P:=P) _ fn.results w' r1;refine⟨q2.df,(if h:C.toArray.size=1 then C.toArray[0]else .tuple C.toArray),?_,_,rfl,q1.kp.below,?_⟩
  ·unfold results;rw[Sem.run_bind];exact(congrArg (fun r=>Result.andThen r (fun a w'=>Sem.run P (pure (if h:a.size=1 then a[0]else Value.tuple a)) w')) r4).trans rfl
  ·have E:=(iR D).1;generalize bf false j=ys at D E ⊢;match ys,C,D with
   | [],[],_=>simp only[aL,V];exact⟨#[],rfl,rfl,by simp only[VL]⟩
   | [y],[v],D=>exact D.1
   | y::y'::ys,v::L::C,D =>
    have:¬((v::L::C).toArray.size=1):=by simp
    rw[dif_neg this];simp only[aL,V];refine⟨_,rfl,by simpa using E.symm,VL.mk fun k x hk=>?_⟩;have:=(iR D).2 k;rw[hk]at this;have M:k<(v::L::C).length:=by rw[←E];exact(List.getElem?_eq_some_iff.1 hk).1
    rw[List.getElem?_eq_getElem M]at this;exact⟨_,by simp[M],this⟩
 cases e with
 | normal =>
  obtain⟨xs,Ts,h1,h2⟩:=I;exact key xs Ts h1 h2
 | ret =>
  obtain⟨xs,Ts,h1,h2⟩:=I;exact key xs Ts h1 h2
 | exit _=>exact I.elim
 | goto _=>exact I.elim
 | panic _=>exact I.elim
 | outgrown=>exact I.elim
end
end Go.Tv
