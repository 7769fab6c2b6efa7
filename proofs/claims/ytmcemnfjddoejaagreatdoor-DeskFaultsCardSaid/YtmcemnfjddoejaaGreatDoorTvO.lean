import Derived.Test.YtmcemnfjddoejaaGreatDoorTvN
namespace Go.Tv
open Go Go.RowKit
def Aw(a b:QV):Bool:=a.all fun x=> !b.contains x
theorem qq{a b:QV}(h:Aw a b=true){x:Nat}(ha:x∈a):x ∉ b:=fun hb=>by
 have:=List.all_eq_true.1 h x ha;simp[hb]at this
theorem gS{u:hD}{k:Nat}(hk:∀p∈u,p.1≠k){h:Nat→Qz}:apply u h k=h k:=by
 induction u generalizing h with
 | nil=>rfl
 | cons p u c =>
  obtain⟨i,o⟩:=p;simp only[apply];rw[c (fun q e=>hk q (by simp[e])),aD _ _ (Ne.symm (hk (i,o) (by simp)))]
theorem HO{u:hD}{k:Nat}(hk:∃p∈u,p.1=k){h h':Nat→Qz}:apply u h k=apply u h' k:=by
 induction u generalizing h h' with
 | nil=>obtain⟨p,v,_⟩:=hk;simp at v
 | cons p u x =>
  obtain⟨i,o⟩:=p;simp only[apply];by_cases j:∃q∈u,q.1=k
  ·exact x j
  ·have c:∀q∈u,q.1≠k:=fun q e f=>j ⟨q,e,f⟩
   rw[gS c,gS c];obtain⟨q,e,f⟩:=hk;rcases List.mem_cons.1 e with rfl | e
   ·subst f;rw[ao,ao]
   ·exact absurd f (c q e)
theorem E7{u v:hD}{A B:QV}(hu:∀p∈u,p.1∈A)(x:∀p∈v,p.1∈B)(hd:Aw A B=true){h:Nat→Qz}:apply u (apply v h)=apply v (apply u h):=by
 funext k;by_cases hk:∃p∈u,p.1=k
 ·have f:∀p∈v,p.1≠k:=fun p j e=>by obtain⟨q,z,C⟩:=hk;exact qq hd (hu q z) (by rw[C,←e];exact x p j)
  rw[gS f (h:=apply u h)];exact HO hk
 ·have c:∀p∈u,p.1≠k:=fun p j e=>hk ⟨p,j,e⟩
  rw[gS c];exact(gE (gS c) v).symm
section
variable{P:Program}{tb:bP}{an:An}{n:NS}{base:Nat}{ops:Array Oper}{Bw:Nat→Prop}{w0:cu P}{F W:Nat→QV}
theorem wS{s c:Nat→ag}{o:Oper}(e:∀t∈o.looksAt ops,s t=c t):∀x∈o.op.operands.toList,ev s x=ev c x:=fun x j=>by
 cases x with
 | tmp t =>
  refine e t (List.mem_append_left _ (List.mem_filterMap.2 ⟨_,j,rfl⟩))
 | const v=>rfl
 | global g=>rfl
 | func f=>rfl
theorem qJ{s c:Nat→ag}{o:Oper}(e:∀t∈o.looksAt ops,s t=c t){g:Nat×Bool}(f:o.guard=some g):guardOf an n ops g s=guardOf an n ops g c:=by
 unfold guardOf;split
 ·rename_i d hd;rw[e d (List.mem_append_right _ (by simp[f,hd]))]
 ·rfl
theorem uX{s c:Nat→ag}{h h':Nat→Qz}{i:Nat}{o:Oper}(e:∀t∈o.looksAt ops,s t=c t)(f:∀i∈j9 h o.op (fp s o.op),h i=h' i):
  pw P tb an n base ops i o s h=pw P tb an n base ops i o c h':=by
 unfold pw;rw[zD (wS e) f];split
 ·split
  ·rfl
  ·rename_i g j;rw[qJ e j]
 ·rfl
theorem nT{s c:Nat→ag}{o:Oper}(e:∀t∈o.looksAt ops,s t=c t):fp s o.op=fp c o.op:=List.map_congr_left (wS e)
theorem EJ{h h':Nat→Qz}{c:List ag}(e:∀i∈wP h c,h i=h' i):wP h c=wP h' c:=by
 unfold wP;congr 1;have:∀i∈bA c,h i=h' i:=fun i hi=>e i (List.mem_append_left _ hi)
 revert this;generalize bA c=l;intro hl;induction l with
 | nil=>rfl
 | cons a l f=>rw[List.flatMap_cons,List.flatMap_cons,hl a (by simp),f (fun i hi=>hl i (by simp[hi]))]
theorem Db{h h':Nat→Qz}{c:List ag}(e:∀i∈xh h c,h i=h' i):xh h c=xh h' c:=by
 unfold xh;congr 1;have:∀i∈bA c,h i=h' i:=fun i hi=>e i (List.mem_append_left _ hi)
 revert this;generalize bA c=l;intro hl;induction l with
 | nil=>rfl
 | cons a l f=>rw[List.flatMap_cons,List.flatMap_cons,hl a (by simp),f (fun i hi=>hl i (by simp[hi]))]
theorem pV{h h':Nat→Qz}{op:Op}{c:List ag}(e:∀i∈j9 h op c,h i=h' i):j9 h op c=j9 h' op c:=by
 cases op <;> first | rfl | exact EJ e | exact Db e
structure qc(P:Program)(tb:bP)(an:An)(n:NS)(base:Nat)(ops:Array Oper)(F W:Nat→QV)(i:Nat)(s:Nat→ag)(h:Nat→Qz)(s':Nat→ag)(h':Nat→Qz):Prop where
 ex:∃o x u c,ops[i]? = some o∧pw P tb an n base ops i o s h=some (x,u,c)∧c∧(∀j∈j9 h o.op (fp s o.op),j∈F i)∧(∀p∈u,p.1∈W i)∧s'=dE s o.dst x∧h'=apply u h
theorem yD{s:Nat→ag}{d:QJ}{x:ag}{t:Nat}(h:∀k,d=some k→k≠t):dE s d x t=s t:=by
 cases d with
 | none=>rfl
 | some d=>exact aD _ _ (Ne.symm (h d rfl))
theorem Gx{s:Nat→ag}{d e:QJ}{x y:ag}(h:∀k,d=some k→e≠some k):dE (dE s d x) e y=dE (dE s e y) d x:=by
 cases d with
 | none=>rfl
 | some d =>
  cases e with
  | none=>rfl
  | some e =>
   have c:e≠d:=fun q=>h d rfl (by rw[q])
   funext k;simp only[dE,bq];by_cases f:k=e <;> by_cases j:k=d <;> simp_all
theorem yl{i j:Nat}{f q:Oper}(hi:ops[i]? = some f)(Y:ops[j]? = some q)(L:f.apart ops q=true)(h1:Aw (W i) (F j)=true)(h2:Aw (W j) (F i)=true)(h3:Aw (W i) (W j)=true)
  {s Z z:Nat→ag} {h A B:Nat→Qz} (a1:qc P tb an n base ops F W i s h Z A) (a2:qc P tb an n base ops F W j Z A z B) :
  ∃sj C,qc P tb an n base ops F W j s h sj C∧qc P tb an n base ops F W i sj C z B:=by
 obtain⟨o,x,u,c,e1,e2,e3,e4,M,rfl,rfl⟩:=a1.ex;obtain⟨o',y,v,c',f1,f2,f3,f4,N,rfl,rfl⟩:=a2.ex;rw[hi]at e1;cases e1;rw[Y]at f1;cases f1;obtain⟨p1,p2,p3⟩:=Oper.apart_spec L;have D:∀t∈q.looksAt ops,dE s f.dst x t=s t:=fun t ht=>yD fun k hk e=>by subst e;exact p1 k hk ht
 have E:∀k∈j9 (apply u h) q.op (fp (dE s f.dst x) q.op),apply u h k=h k:=fun k hk=>gS fun p O e=>qq h1 (M p O) (by rw[e];exact f4 k hk)
 have g2:=uX (P:=P) (tb:=tb) (an:=an) (n:=n) (base:=base) (i:=j) D E;rw[f2]at g2;have V:=nT D;have X:=pV E;have I:∀t∈f.looksAt ops,s t=dE s q.dst y t:=fun t ht=>(yD fun k hk e=>by subst e;exact p3 k hk ht).symm
 have J:∀k∈j9 h f.op (fp s f.op),h k=apply v h k:=fun k hk=>(gS fun p O e=>qq h2 (N p O) (by rw[e];exact e4 k hk)).symm
 have g3:=uX (P:=P) (tb:=tb) (an:=an) (n:=n) (base:=base) (i:=i) I J;rw[e2]at g3;refine⟨dE s q.dst y,apply v h,⟨q,y,v,c',Y,g2.symm,f3,fun k hk=>f4 k ?_,N,rfl,rfl⟩,⟨f,x,u,c,hi,g3.symm,e3,fun k hk=>e4 k ?_,M,?_,?_⟩⟩
 ·rw[X,V];exact hk
 ·rw[pV J,nT I];exact hk
 ·exact Gx p2
 ·exact(E7 M N h3).symm
def Ht(P:Program)(tb:bP)(an:An)(n:NS)(base:Nat)(ops:Array Oper)(F W:Nat→QV)(Q:(Nat→ag)→(Nat→Qz)→Prop):Nat→Array Bool→(Nat→ag)→(Nat→Qz)→Prop
 | 0,listed,s,h=>Region.ready .any ops listed=[]∧Q s h
 | c+1,listed,s,h=>(Region.ready .any ops listed=[]→Q s h) ∧
  ∀i∈Region.ready .any ops listed,∃e h',qc P tb an n base ops F W i s h e h'∧Ht P tb an n base ops F W Q c (listed.setIfInBounds i true) e h'
def uh(ops:Array Oper)(F W:Nat→QV)(i j:Nat)(c e:Oper):Bool:=c.apart ops e && Aw (W i) (F j) && Aw (W j) (F i) && Aw (W i) (W j)
def kM(m:QV)(o:Oper):Nat:=o.after.toList.foldl (fun a e=>if Region.binds .any e then a ||| 2 ^ e.on ||| m.getD e.on 0 else a) 0
def u3(m:QV):List Oper→QV
 | []=>m
 | o::r=>u3 (m++[kM m o]) r
def qv(ops:Array Oper):QV:=u3 [] ops.toList
theorem Di{m:QV}{o:Oper}{i:Nat}(h:(kM m o).testBit i=true):∃e∈o.after.toList,Region.binds .any e=true∧(e.on=i∨(m.getD e.on 0).testBit i=true):=by
 have key:∀(l:List Edge) (a:Nat),(l.foldl (fun a e=>if Region.binds .any e then a ||| 2 ^ e.on ||| m.getD e.on 0 else a) a).testBit i=true →
   a.testBit i=true∨∃e∈l,Region.binds .any e=true∧(e.on=i∨(m.getD e.on 0).testBit i=true):=fun l=>by
  induction l with
  | nil=>intro a h;exact .inl h
  | cons e l f =>
   intro a h;rw[List.foldl_cons]at h;rcases f _ h with c | ⟨j,c,p⟩
   ·split at c
    ·rename_i hb;rw[Nat.testBit_or,Nat.testBit_or,Bool.or_eq_true,Bool.or_eq_true]at c;rcases c with(c | c) | c
     ·exact .inl c
     ·exact .inr ⟨e,by simp,hb,.inl (by rw[Nat.testBit_two_pow]at c;simpa using c)⟩
     ·exact .inr ⟨e,by simp,hb,.inr c⟩
    ·exact .inl c
   ·exact .inr ⟨j,by simp[c],p⟩
 rcases key _ _ h with c | c
 ·simp at c
 ·exact c
theorem Ab:∀(r:List Oper) (m:QV),∃l,u3 m r=m++l
 | [],m=>⟨[],by simp[u3]⟩
 | o::r,m=>by
  obtain⟨l,h⟩:=Ab r (m++[kM m o]);exact⟨kM m o::l,by simp only[u3];rw[h];simp⟩
theorem Cs:∀(r:List Oper) (m:QV) (k:Nat) (o:Oper),r[k]? = some o→∃c l,u3 m r=c++[kM c o]++l∧c.length=m.length+k
 | [],m,k,o,h=>by simp at h
 | o::r,m,0,e,h=>by
  simp at h;subst h;obtain⟨l,h⟩:=Ab r (m++[kM m o]);exact⟨m,l,by simp only[u3];exact h,by simp⟩
 | o::r,m,k+1,e,h=>by
  obtain⟨c,l,f,j⟩:=Cs r (m++[kM m o]) k e (by simpa using h);exact⟨c,l,by simp only[u3];exact f,by simp at j;omega⟩
theorem Jp{j i:Nat}{c:Oper}(x:ops[j]? = some c)(h:((qv ops).getD j 0).testBit i=true):∃e∈c.after.toList,Region.binds .any e=true∧(e.on=i∨e.on<j∧((qv ops).getD e.on 0).testBit i=true):=by
 obtain⟨p,l,z,q⟩:=Cs ops.toList [] j c (by simpa using x);simp only[List.length_nil,Nat.zero_add]at q;have u:qv ops=p++[kM p c]++l:=z;have A:(qv ops).getD j 0=kM p c:=by rw[u,List.getD_eq_getElem?_getD,List.append_assoc,List.getElem?_append_right (by omega)];simp[q]
 rw[A]at h;obtain⟨e,B,C,f⟩:=Di h;refine⟨e,B,C,f.imp (fun h=>h) fun f=>?_⟩;rcases Nat.lt_or_ge e.on j with v | v
 ·refine⟨v,?_⟩;rw[u,List.append_assoc,List.getD_eq_getElem?_getD,List.getElem?_append_left (by omega),←List.getD_eq_getElem?_getD];exact f
 ·rw[List.getD_eq_getElem?_getD,List.getElem?_eq_none (by omega)]at f;simp at f
def py(ops:Array Oper)(listed:Array Bool):Prop:=∀(k:Nat) (o:Oper),ops[k]? = some o→listed.getD k false=true→∀e∈o.after,Region.binds .any e=true→listed.getD e.on false=true
theorem rE{listed:Array Bool}(p:py ops listed){i:Nat}:∀(n j:Nat) (c:Oper),j<n→ops[j]? = some c→(∀e∈c.after,Region.binds .any e=true→listed.getD e.on false=true) →
  ((qv ops).getD j 0).testBit i=true→listed.getD i false=true
 | 0,_,_,h,_,_,_=>absurd h (by omega)
 | n+1,j,c,hn,q,hd,hb=>by
  obtain⟨e,x,z,u⟩:=Jp q hb;have hl:=hd e (by simpa using x) z;rcases u with rfl | ⟨u,A⟩
  ·exact hl
  ·have f:e.on<ops.size:=by have:=(Array.getElem?_eq_some_iff.1 q).1;omega
   have v:ops[e.on]? = some ops[e.on]:=Array.getElem?_eq_getElem f;exact rE p n e.on _ (by omega) v (p _ _ v hl) A
theorem py.add{listed:Array Bool}(B:py ops listed){j:Nat}(C:j∈Region.ready .any ops listed):py ops (listed.setIfInBounds j true):=fun k o hk hl e z hb=>by
 obtain⟨_,D,u,f⟩:=mem_ready.1 C;by_cases h:j=k
 ·subst h;rw[u]at hk;cases hk;exact getD_set_true (f e z hb)
 ·rw[getD_set_ne false h]at hl;exact getD_set_true (B k o hk hl e z hb)
theorem xk{Q:(Nat→ag)→(Nat→Qz)→Prop}{i:Nat}{Y:Oper}(hi:ops[i]? = some Y):∀(f:Nat) (listed:Array Bool) {s B:Nat→ag} {h p:Nat→Qz},
  py ops listed→(∀j C,ops[j]? = some C→j≠i→listed.getD j true=false→((qv ops).getD j 0).testBit i=false→uh ops F W i j Y C=true) →
  i∈Region.ready .any ops listed→qc P tb an n base ops F W i s h B p→Ht P tb an n base ops F W Q f (listed.setIfInBounds i true) B p→Ht P tb an n base ops F W Q (f+1) listed s h
 | 0,listed,s,B,h,p,_,_,z,v,H=>by
  refine⟨fun e=>(by rw[e]at z;cases z),fun j D=>?_⟩;by_cases c:j=i
  ·subst c;exact⟨B,p,v,H⟩
  ·have:=ready_mono D c;rw[H.1]at this;cases this
 | f+1,listed,s,B,h,p,E,q,z,v,H=>by
  refine⟨fun e=>(by rw[e]at z;cases z),fun j D=>?_⟩;by_cases c:j=i
  ·subst c;exact⟨B,p,v,H⟩
  ·obtain⟨a1,a3,a2,H2⟩:=H.2 j (ready_mono D c);obtain⟨x,C,A,I⟩:=mem_ready.1 D;have J:((qv ops).getD j 0).testBit i=false:=by
    cases hb:((qv ops).getD j 0).testBit i with
    | false=>rfl
    | true =>
     have N:=rE E (j+1) j C (by omega) A I hb;have Z:=(mem_ready.1 z).1;rcases Nat.lt_or_ge i listed.size with h' | h'
     ·simp[h']at Z N;rw[Z]at N;cases N
     ·simp[Array.getElem?_eq_none h']at N
   have u:=q j C A c x J;simp only[uh,Bool.and_eq_true]at u;obtain⟨sj,O,b1,b2⟩:=yl hi A u.1.1.1 u.1.1.2 u.1.2 u.2 v a2;refine⟨sj,O,b1,xk hi f (listed.setIfInBounds j true) (E.add D) (fun k ok hk V L X=>?_) (ready_mono z (Ne.symm c)) b2 ?_⟩
   ·refine q k ok hk V ?_ X;by_cases M:j=k
    ·subst M;exact x
    ·rw[getD_set_ne true M]at L;exact L
   ·rw[Array.setIfInBounds_comm _ _ c];exact H2
def Dz(P:Program)(tb:bP)(an:An)(n:NS)(base:Nat)(ops:Array Oper):List Oper→Nat→(Nat→ag)→(Nat→Qz)→Option ((Nat→ag)×(Nat→Qz)×List Prop×List (QV×QV))
 | [],_,s,h=>some (s,h,[],[])
 | o::r,k,s,h=>match pw P tb an n base ops k o s h with
  | some (x,u,c)=>match Dz P tb an n base ops r (k+1) (dE s o.dst x) (apply u h)with
   | some (e,h',f,j)=>some (e,h',c::f,(j9 h o.op (fp s o.op),u.map (·.1))::j)
   | none=>none
  | none=>none
def F6(ops:Array Oper)(F W:Nat→QV)(A:QV)(listed:Array Bool)(i:Nat):Bool :=
 match ops[i]? with
 | none=>false
 | some c=>(List.range ops.size).all fun j=>j == i || listed.getD j true || match ops[j]? with
   | some e=>(A.getD j 0).testBit i || uh ops F W i j c e
   | none=>true
def Hm(ops:Array Oper)(F W:Nat→QV)(A:QV):Nat→Nat→Array Bool→Bool
 | 0,_,listed=>(Region.ready .any ops listed).isEmpty
 | c+1,k,listed=>(Region.ready .any ops listed).contains k && F6 ops F W A listed k && Hm ops F W A c (k+1) (listed.setIfInBounds k true)
theorem xO{A:QV}{i:Nat}{p:Oper}{listed:Array Bool}(hi:ops[i]? = some p)(h:F6 ops F W A listed i=true)(j:Nat)(q:Oper)
  (u:ops[j]? = some q) (c:j≠i) (e:listed.getD j true=false) (f:(A.getD j 0).testBit i=false):uh ops F W i j p q=true:=by
 simp only[F6,hi,List.all_eq_true,List.mem_range]at h;have v:=h j (Array.getElem?_eq_some_iff.1 u).1;simp only[u,Bool.or_eq_true,beq_iff_eq,c,false_or,e,f,Bool.false_eq_true]at v;exact v
theorem DD{Q:(Nat→ag)→(Nat→Qz)→Prop}:∀(l:List Oper) (k:Nat) (listed:Array Bool) {s z:Nat→ag} {h h':Nat→Qz} {A:List Prop} {f:List (QV×QV)},(∀j,l[j]? = ops[k+j]?) →
  (∀j,f[j]?.map (·.1)=(if j<l.length then some (F (k+j))else none))→(∀j,f[j]?.map (·.2)=(if j<l.length then some (W (k+j))else none)) →
  py ops listed→Hm ops F W (qv ops) l.length k listed=true→Dz P tb an n base ops l k s h=some (z,h',A,f)→pz A→Q z h'→Ht P tb an n base ops F W Q l.length listed s h
 | [],_,listed,s,z,h,h',A,f,_,_,_,_,hB,e,_,B=>by
  cases e;exact⟨by simpa [Hm]using hB,B⟩
 | o::l,k,listed,s,z,h,h',A,f,hl,L,M,q,hB,e,N,B=>by
  have C:ops[k]? = some o:=by simpa using(hl 0).symm
  simp only[List.length_cons,Hm,Bool.and_eq_true]at hB;obtain⟨⟨D,X⟩,E⟩:=hB;simp only[Dz]at e;split at e
  ·rename_i x u c Y;split at e
   ·rename_i s2 h2 Z a1 I;cases e;have O:=L 0;have V:=M 0;simp at O V;have J:qc P tb an n base ops F W k s h (dE s o.dst x) (apply u h):=⟨o,x,u,c,C,Y,N.1,fun j hj=>by rw[←O];exact hj,fun p hp=>by rw[←V];exact List.mem_map.2 ⟨p,hp,rfl⟩,rfl,rfl⟩;have v:k∈Region.ready .any ops listed:=by simpa using D
    refine xk C l.length listed q (xO C X) v J ?_;refine DD l (k+1) _ (fun j=>by have:=hl (j+1);simpa [Nat.add_assoc,Nat.add_comm 1 j]using this) (fun j=>?_) (fun j=>?_) (q.add v) E I N.2 B
    ·have:=L (j+1);simpa [Nat.add_assoc,Nat.add_comm 1 j]using this
    ·have:=M (j+1);simpa [Nat.add_assoc,Nat.add_comm 1 j]using this
   ·cases e
  ·cases e
theorem qL(z:bV P tb){V:(Nat→ag)→(Nat→Qz)→Prop}{Q:Exit→Act→World→Prop}
  (L:∀s h a w,V s h→G0 n base Bw w0 (fun i=>i<ops.size) s h a w→Q .normal a w):∀(f:Nat) (listed:Array Bool) {s:Nat→ag} {h:Nat→Qz} {a:Act} {w:World},listed.size=ops.size →
  G0 n base Bw w0 (fun i=>listed.getD i false=true) s h a w→Ht P tb an n base ops F W V f listed s h→wpAny P .any ops Q f listed a w
 | 0,listed,s,h,a,w,p,J,H=>by
  refine⟨H.1,L s h a w H.2 ?_⟩;obtain⟨ρ,φ,A,B,C⟩:=J.ex;refine⟨ρ,φ,A,B,fun id u hu=>(C id u hu).imp (fun h=>h) fun⟨i,j,q,D⟩=>⟨i,j,?_,D⟩⟩;rcases Nat.lt_or_ge i listed.size with h' | h'
  ·omega
  ·simp[Array.getElem?_eq_none h']at q
 | f+1,listed,s,h,a,w,p,J,H=>by
  refine⟨fun e=>L s h a w (H.1 e) ?_,fun i hi=>?_⟩
  ·obtain⟨ρ,φ,A,B,C⟩:=J.ex;refine⟨ρ,φ,A,B,fun id u hu=>(C id u hu).imp (fun h=>h) fun⟨i,j,q,D⟩=>⟨i,j,?_,D⟩⟩;rcases Nat.lt_or_ge i listed.size with h' | h'
   ·omega
   ·simp[Array.getElem?_eq_none h']at q
  ·obtain⟨s',h',M,Y⟩:=H.2 i hi;obtain⟨o,x,u,c,X,Z,e3,e4,e5,rfl,rfl⟩:=M.ex;obtain⟨E,_⟩:=mem_ready.1 hi;have I:i<listed.size:=by rw[p];exact(Array.getElem?_eq_some_iff.1 X).1
   have N:¬(listed.getD i false=true):=fun e=>by simp[I]at E e;rw[E]at e;cases e
   refine jY z J X N Z e3 fun a' w' O=>qL z L f _ (by simpa using p) ?_ Y
   obtain⟨ρ,φ,A,B,C⟩:=O.ex;refine⟨ρ,φ,A,B,fun id v hv=>(C id v hv).imp (fun h=>h) fun⟨j,j',q,D⟩=>⟨j,j',?_,D⟩⟩;rcases q with q | rfl
   ·exact getD_set_true q
   ·simp[I]
end
end Go.Tv
