import Derived.Test.YtbedjpdfkmfplaaGreatDoorTvN
namespace Go.Tv
open Go Go.RowKit
def A0(a b:QV):Bool:=a.all fun x=> !b.contains x
theorem qv{a b:QV}(h:A0 a b=true){x:Nat}(ha:x∈a):x ∉ b:=fun hb=>by
 have:=List.all_eq_true.1 h x ha;simp[hb]at this
theorem lu{u:iu}{k:Nat}(hk:∀p∈u,p.1≠k){h:Nat→Qz}:apply u h k=h k:=by
 induction u generalizing h with
 | nil=>rfl
 | cons p u e =>
  obtain⟨i,o⟩:=p;simp only[apply];rw[e (fun q f=>hk q (by simp[f])),aD _ _ (Ne.symm (hk (i,o) (by simp)))]
theorem Ia{u:iu}{k:Nat}(hk:∃p∈u,p.1=k){h h':Nat→Qz}:apply u h k=apply u h' k:=by
 induction u generalizing h h' with
 | nil=>obtain⟨p,e,_⟩:=hk;simp at e
 | cons p u f =>
  obtain⟨i,o⟩:=p;simp only[apply];by_cases j:∃q∈u,q.1=k
  ·exact f j
  ·grind (splits:=6) (ematch:=4) [lu,av]
theorem DY{u v:iu}{A B:QV}(hu:∀p∈u,p.1∈A)(e:∀p∈v,p.1∈B)(hd:A0 A B=true){h:Nat→Qz}:apply u (apply v h)=apply v (apply u h):=by
 grind (splits:=6) (ematch:=4) [qv,lu,apply,Ia,gO]
section
variable{P:Program}{tb:bQ}{an:An}{n:NS}{base:Nat}{ops:Array Oper}{Bw:Nat→Prop}{w0:cE P}{F W:Nat→QV}
theorem wM{s e:Nat→ag}{o:Oper}(j:∀t∈o.looksAt ops,s t=e t):∀x∈o.op.operands.toList,ev s x=ev e x:=fun x q=>by
 cases x with
 | tmp t =>
  refine j t (List.mem_append_left _ (List.mem_filterMap.2 ⟨_,q,rfl⟩))
 | const v=>rfl
 | global g=>rfl
 | func f=>rfl
theorem qZ{s e:Nat→ag}{o:Oper}(f:∀t∈o.looksAt ops,s t=e t){g:Nat×Bool}(j:o.guard=some g):guardOf an n ops g s=guardOf an n ops g e:=by
 unfold guardOf;split
 ·rename_i d hd;rw[f d (List.mem_append_right _ (by simp[j,hd]))]
 ·rfl
theorem vf{s e:Nat→ag}{h h':Nat→Qz}{i:Nat}{o:Oper}(f:∀t∈o.looksAt ops,s t=e t)(j:∀i∈kA h o.op (fP s o.op),h i=h' i):
  qc P tb an n base ops i o s h=qc P tb an n base ops i o e h':=by
 unfold qc;rw[zu (wM f) j];split
 ·split
  ·rfl
  ·rename_i g q;rw[qZ f q]
 ·rfl
theorem oV{s e:Nat→ag}{o:Oper}(f:∀t∈o.looksAt ops,s t=e t):fP s o.op=fP e o.op:=List.map_congr_left (wM f)
theorem EG{h h':Nat→Qz}{e:List ag}(f:∀i∈ym h e,h i=h' i):ym h e=ym h' e:=by
 unfold ym;congr 1;have:∀i∈bA e,h i=h' i:=fun i hi=>f i (List.mem_append_left _ hi)
 revert this;generalize bA e=l;intro hl;induction l with
 | nil=>rfl
 | cons a l j=>rw[List.flatMap_cons,List.flatMap_cons,hl a (by simp),j (fun i hi=>hl i (by simp[hi]))]
theorem DM{h h':Nat→Qz}{e:List ag}(f:∀i∈yi h e,h i=h' i):yi h e=yi h' e:=by
 unfold yi;congr 1;have:∀i∈bA e,h i=h' i:=fun i hi=>f i (List.mem_append_left _ hi)
 revert this;generalize bA e=l;intro hl;induction l with
 | nil=>rfl
 | cons a l j=>rw[List.flatMap_cons,List.flatMap_cons,hl a (by simp),j (fun i hi=>hl i (by simp[hi]))]
theorem qd{h h':Nat→Qz}{op:Op}{e:List ag}(f:∀i∈kA h op e,h i=h' i):kA h op e=kA h' op e:=by
 cases op <;> first | rfl | exact EG f | exact DM f
structure pY(P:Program)(tb:bQ)(an:An)(n:NS)(base:Nat)(ops:Array Oper)(F W:Nat→QV)(i:Nat)(s:Nat→ag)(h:Nat→Qz)(s':Nat→ag)(h':Nat→Qz):Prop where
 ex:∃o x u c,ops[i]? = some o∧qc P tb an n base ops i o s h=some (x,u,c)∧c∧(∀j∈kA h o.op (fP s o.op),j∈F i)∧(∀p∈u,p.1∈W i)∧s'=dN s o.dst x∧h'=apply u h
theorem yx{s:Nat→ag}{d:QJ}{x:ag}{t:Nat}(h:∀k,d=some k→k≠t):dN s d x t=s t:=by
 cases d with
 | none=>rfl
 | some d=>exact aD _ _ (Ne.symm (h d rfl))
theorem GS{s:Nat→ag}{d e:QJ}{x y:ag}(h:∀k,d=some k→e≠some k):dN (dN s d x) e y=dN (dN s e y) d x:=by
 cases d with
 | none=>rfl
 | some d =>
  cases e with
  | none=>rfl
  | some e =>
   have f:e≠d:=fun q=>h d rfl (by rw[q])
   funext k;simp only[dN,bu];by_cases j:k=e <;> by_cases u:k=d <;> simp_all
theorem xf{i j:Nat}{f q:Oper}(hi:ops[i]? = some f)(Y:ops[j]? = some q)(L:f.apart ops q=true)(h1:A0 (W i) (F j)=true)(h2:A0 (W j) (F i)=true)(h3:A0 (W i) (W j)=true)
  {s Z z:Nat→ag} {h A B:Nat→Qz} (a1:pY P tb an n base ops F W i s h Z A) (a2:pY P tb an n base ops F W j Z A z B) :
  ∃sj C,pY P tb an n base ops F W j s h sj C∧pY P tb an n base ops F W i sj C z B:=by
 obtain⟨o,x,u,c,e1,e2,e3,e4,M,rfl,rfl⟩:=a1.ex;obtain⟨o',y,v,c',f1,f2,f3,f4,N,rfl,rfl⟩:=a2.ex;rw[hi]at e1;cases e1;rw[Y]at f1;cases f1;obtain⟨p1,p2,p3⟩:=Oper.apart_spec L;have D:∀t∈q.looksAt ops,dN s f.dst x t=s t:=fun t ht=>yx fun k hk e=>by subst e;exact p1 k hk ht
 have E:∀k∈kA (apply u h) q.op (fP (dN s f.dst x) q.op),apply u h k=h k:=fun k hk=>lu fun p O e=>qv h1 (M p O) (by rw[e];exact f4 k hk)
 have g2:=vf (P:=P) (tb:=tb) (an:=an) (n:=n) (base:=base) (i:=j) D E;rw[f2]at g2;have V:=oV D;have X:=qd E;have I:∀t∈f.looksAt ops,s t=dN s q.dst y t:=fun t ht=>(yx fun k hk e=>by subst e;exact p3 k hk ht).symm
 have J:∀k∈kA h f.op (fP s f.op),h k=apply v h k:=fun k hk=>(lu fun p O e=>qv h2 (N p O) (by rw[e];exact e4 k hk)).symm
 have g3:=vf (P:=P) (tb:=tb) (an:=an) (n:=n) (base:=base) (i:=i) I J;rw[e2]at g3;refine⟨dN s q.dst y,apply v h,⟨q,y,v,c',Y,g2.symm,f3,fun k hk=>f4 k ?_,N,rfl,rfl⟩,⟨f,x,u,c,hi,g3.symm,e3,fun k hk=>e4 k ?_,M,?_,?_⟩⟩
 ·rw[X,V];exact hk
 ·rw[qd J,oV I];exact hk
 ·exact GS p2
 ·exact(DY M N h3).symm
def Hl(P:Program)(tb:bQ)(an:An)(n:NS)(base:Nat)(ops:Array Oper)(F W:Nat→QV)(Q:(Nat→ag)→(Nat→Qz)→Prop):Nat→Array Bool→(Nat→ag)→(Nat→Qz)→Prop
 | 0,listed,s,h=>Region.ready .any ops listed=[]∧Q s h
 | e+1,listed,s,h=>(Region.ready .any ops listed=[]→Q s h) ∧
  ∀i∈Region.ready .any ops listed,∃f h',pY P tb an n base ops F W i s h f h'∧Hl P tb an n base ops F W Q e (listed.setIfInBounds i true) f h'
def uo(ops:Array Oper)(F W:Nat→QV)(i j:Nat)(e f:Oper):Bool:=e.apart ops f && A0 (W i) (F j) && A0 (W j) (F i) && A0 (W i) (W j)
def kW(m:QV)(o:Oper):Nat:=o.after.toList.foldl (fun a e=>if Region.binds .any e then a ||| 2 ^ e.on ||| m.getD e.on 0 else a) 0
def vl(m:QV):List Oper→QV
 | []=>m
 | o::r=>vl (m++[kW m o]) r
def qI(ops:Array Oper):QV:=vl [] ops.toList
theorem C9{m:QV}{o:Oper}{i:Nat}(h:(kW m o).testBit i=true):∃e∈o.after.toList,Region.binds .any e=true∧(e.on=i∨(m.getD e.on 0).testBit i=true):=by
 have key:∀(l:List Edge) (a:Nat),(l.foldl (fun a e=>if Region.binds .any e then a ||| 2 ^ e.on ||| m.getD e.on 0 else a) a).testBit i=true →
   a.testBit i=true∨∃e∈l,Region.binds .any e=true∧(e.on=i∨(m.getD e.on 0).testBit i=true):=fun l=>by
  induction l with
  | nil=>intro a h;exact .inl h
  | cons e l j =>
   intro a h;rw[List.foldl_cons]at h;rcases j _ h with f | ⟨q,f,u⟩
   ·grind
   ·exact .inr ⟨q,by simp[f],u⟩
 rcases key _ _ h with f | f
 ·simp at f
 ·exact f
theorem Ae:∀(r:List Oper) (m:QV),∃l,vl m r=m++l
 | [],m=>⟨[],by simp[vl]⟩
 | o::r,m=>by
  obtain⟨l,h⟩:=Ae r (m++[kW m o]);exact⟨kW m o::l,by simp only[vl];rw[h];simp⟩
theorem C7:∀(r:List Oper) (m:QV) (k:Nat) (o:Oper),r[k]? = some o→∃e l,vl m r=e++[kW e o]++l∧e.length=m.length+k
 | [],m,k,o,h=>by simp at h
 | o::r,m,0,f,h=>by
  simp at h;subst h;obtain⟨l,h⟩:=Ae r (m++[kW m o]);exact⟨m,l,by simp only[vl];exact h,by simp⟩
 | o::r,m,k+1,f,h=>by
  obtain⟨e,l,j,q⟩:=C7 r (m++[kW m o]) k f (by simpa using h);exact⟨e,l,by simp only[vl];exact j,by simp at q;omega⟩
theorem Ir{j i:Nat}{f:Oper}(v:ops[j]? = some f)(h:((qI ops).getD j 0).testBit i=true):∃e∈f.after.toList,Region.binds .any e=true∧(e.on=i∨e.on<j∧((qI ops).getD e.on 0).testBit i=true):=by
 obtain⟨q,l,z,A⟩:=C7 ops.toList [] j f (by simpa using v);simp only[List.length_nil,Nat.zero_add]at A;have I:qI ops=q++[kW q f]++l:=z;have B:(qI ops).getD j 0=kW q f:=by simp_all
 rw[B]at h;obtain⟨e,C,D,u⟩:=C9 h;refine⟨e,C,D,u.imp (fun h=>h) fun u=>?_⟩;rcases Nat.lt_or_ge e.on j with E | E
 ·grind
 ·simp_all
def qi(ops:Array Oper)(listed:Array Bool):Prop:=∀(k:Nat) (o:Oper),ops[k]? = some o→listed.getD k false=true→∀e∈o.after,Region.binds .any e=true→listed.getD e.on false=true
theorem rn{listed:Array Bool}(u:qi ops listed){i:Nat}:∀(n j:Nat) (f:Oper),j<n→ops[j]? = some f→(∀e∈f.after,Region.binds .any e=true→listed.getD e.on false=true) →
  ((qI ops).getD j 0).testBit i=true→listed.getD i false=true
 | 0,_,_,h,_,_,_=>absurd h (by omega)
 | n+1,j,f,hn,v,hd,hb=>by
  obtain⟨e,B,C,z⟩:=Ir v hb;have hl:=hd e (by simpa using B) C;rcases z with rfl | ⟨z,D⟩
  ·exact hl
  ·have q:e.on<ops.size:=by have:=(Array.getElem?_eq_some_iff.1 v).1;omega
   have A:ops[e.on]? = some ops[e.on]:=Array.getElem?_eq_getElem q;exact rn u n e.on _ (by omega) A (u _ _ A hl) D
theorem qi.add{listed:Array Bool}(B:qi ops listed){j:Nat}(C:j∈Region.ready .any ops listed):qi ops (listed.setIfInBounds j true):=fun k o hk hl e z hb=>by
 obtain⟨_,D,u,f⟩:=mem_ready.1 C;by_cases h:j=k
 ·subst h;rw[u]at hk;cases hk;exact getD_set_true (f e z hb)
 ·rw[getD_set_ne false h]at hl;exact getD_set_true (B k o hk hl e z hb)
theorem xc{Q:(Nat→ag)→(Nat→Qz)→Prop}{i:Nat}{oi:Oper}(hi:ops[i]? = some oi):∀(q:Nat) (listed:Array Bool) {s E:Nat→ag} {h u:Nat→Qz},
  qi ops listed→(∀j I,ops[j]? = some I→j≠i→listed.getD j true=false→((qI ops).getD j 0).testBit i=false→uo ops F W i j oi I=true) →
  i∈Region.ready .any ops listed→pY P tb an n base ops F W i s h E u→Hl P tb an n base ops F W Q q (listed.setIfInBounds i true) E u→Hl P tb an n base ops F W Q (q+1) listed s h
 | 0,listed,s,E,h,u,_,_,C,A,H=>by
  refine⟨fun e=>(by rw[e]at C;cases C),fun j J=>?_⟩;by_cases f:j=i
  ·subst f;exact⟨E,u,A,H⟩
  ·have:=ready_mono J f;rw[H.1]at this;cases this
 | q+1,listed,s,E,h,u,L,v,C,A,H=>by
  refine⟨fun e=>(by rw[e]at C;cases C),fun j J=>?_⟩;by_cases f:j=i
  ·subst f;exact⟨E,u,A,H⟩
  ·obtain⟨a3,a4,a2,H2⟩:=H.2 j (ready_mono J f);obtain⟨B,I,D,M⟩:=mem_ready.1 J;have N:((qI ops).getD j 0).testBit i=false:=by
    cases hb:((qI ops).getD j 0).testBit i with
    | false=>rfl
    | true =>
     have X:=rn L (j+1) j I (by omega) D M hb;have h0:=(mem_ready.1 C).1;rcases Nat.lt_or_ge i listed.size with h' | h'
     ·simp[h']at h0 X;rw[h0]at X;cases X
     ·simp[Array.getElem?_eq_none h']at X
   have z:=v j I D f B N;simp only[uo,Bool.and_eq_true]at z;obtain⟨sj,Y,b1,b2⟩:=xf hi D z.1.1.1 z.1.1.2 z.1.2 z.2 A a2;refine⟨sj,Y,b1,xc hi q (listed.setIfInBounds j true) (L.add J) (fun k ok hk Z O a1=>?_) (ready_mono C (Ne.symm f)) b2 ?_⟩
   ·refine v k ok hk Z ?_ a1;by_cases V:j=k
    ·subst V;exact B
    ·rw[getD_set_ne true V]at O;exact O
   ·rw[Array.setIfInBounds_comm _ _ f];exact H2
def Df(P:Program)(tb:bQ)(an:An)(n:NS)(base:Nat)(ops:Array Oper):List Oper→Nat→(Nat→ag)→(Nat→Qz)→Option ((Nat→ag)×(Nat→Qz)×List Prop×List (QV×QV))
 | [],_,s,h=>some (s,h,[],[])
 | o::r,k,s,h=>match qc P tb an n base ops k o s h with
  | some (x,u,c)=>match Df P tb an n base ops r (k+1) (dN s o.dst x) (apply u h)with
   | some (e,h',f,j)=>some (e,h',c::f,(kA h o.op (fP s o.op),u.map (·.1))::j)
   | none=>none
  | none=>none
def F6(ops:Array Oper)(F W:Nat→QV)(A:QV)(listed:Array Bool)(i:Nat):Bool :=
 match ops[i]? with
 | none=>false
 | some e=>(List.range ops.size).all fun j=>j == i || listed.getD j true || match ops[j]? with
   | some f=>(A.getD j 0).testBit i || uo ops F W i j e f
   | none=>true
def GZ(ops:Array Oper)(F W:Nat→QV)(A:QV):Nat→Nat→Array Bool→Bool
 | 0,_,listed=>(Region.ready .any ops listed).isEmpty
 | e+1,k,listed=>(Region.ready .any ops listed).contains k && F6 ops F W A listed k && GZ ops F W A e (k+1) (listed.setIfInBounds k true)
theorem xu{A:QV}{i:Nat}{u:Oper}{listed:Array Bool}(hi:ops[i]? = some u)(h:F6 ops F W A listed i=true)(j:Nat)(v:Oper)
  (z:ops[j]? = some v) (e:j≠i) (f:listed.getD j true=false) (q:(A.getD j 0).testBit i=false):uo ops F W i j u v=true:=by
 simp only[F6,hi,List.all_eq_true,List.mem_range]at h;have B:=h j (Array.getElem?_eq_some_iff.1 z).1;simp only[z,Bool.or_eq_true,beq_iff_eq,e,false_or,f,q,Bool.false_eq_true]at B;exact B
theorem Cl{Q:(Nat→ag)→(Nat→Qz)→Prop}:∀(l:List Oper) (k:Nat) (listed:Array Bool) {s z:Nat→ag} {h h':Nat→Qz} {A:List Prop} {f:List (QV×QV)},(∀j,l[j]? = ops[k+j]?) →
  (∀j,f[j]?.map (·.1)=(if j<l.length then some (F (k+j))else none))→(∀j,f[j]?.map (·.2)=(if j<l.length then some (W (k+j))else none)) →
  qi ops listed→GZ ops F W (qI ops) l.length k listed=true→Df P tb an n base ops l k s h=some (z,h',A,f)→qj A→Q z h'→Hl P tb an n base ops F W Q l.length listed s h
 | [],_,listed,s,z,h,h',A,f,_,_,_,_,hB,e,_,B=>by
  cases e;exact⟨by simpa [GZ]using hB,B⟩
 | o::l,k,listed,s,z,h,h',A,f,hl,L,M,q,hB,e,N,B=>by
  have C:ops[k]? = some o:=by simpa using(hl 0).symm
  simp only[List.length_cons,GZ,Bool.and_eq_true]at hB;obtain⟨⟨D,X⟩,E⟩:=hB;simp only[Df]at e;split at e
  ·rename_i x u c Y;split at e
   ·rename_i s2 h2 Z a1 I;cases e;have O:=L 0;have V:=M 0;simp at O V;have J:pY P tb an n base ops F W k s h (dN s o.dst x) (apply u h):=⟨o,x,u,c,C,Y,N.1,fun j hj=>by rw[←O];exact hj,fun p hp=>by rw[←V];exact List.mem_map.2 ⟨p,hp,rfl⟩,rfl,rfl⟩;have v:k∈Region.ready .any ops listed:=by simpa using D
    refine xc C l.length listed q (xu C X) v J ?_;refine Cl l (k+1) _ (fun j=>by have:=hl (j+1);simpa [Nat.add_assoc,Nat.add_comm 1 j]using this) (fun j=>?_) (fun j=>?_) (q.add v) E I N.2 B
    ·have:=L (j+1);simpa [Nat.add_assoc,Nat.add_comm 1 j]using this
    ·have:=M (j+1);simpa [Nat.add_assoc,Nat.add_comm 1 j]using this
   ·cases e
  ·cases e
theorem qN(A:bY P tb){X:(Nat→ag)→(Nat→Qz)→Prop}{Q:Exit→Act→World→Prop}
  (M:∀s h a w,X s h→Hh n base Bw w0 (fun i=>i<ops.size) s h a w→Q .normal a w):∀(f:Nat) (listed:Array Bool) {s:Nat→ag} {h:Nat→Qz} {a:Act} {w:World},listed.size=ops.size →
  Hh n base Bw w0 (fun i=>listed.getD i false=true) s h a w→Hl P tb an n base ops F W X f listed s h→wpAny P .any ops Q f listed a w
 | 0,listed,s,h,a,w,q,L,H=>by
  refine⟨H.1,M s h a w H.2 ?_⟩;obtain⟨ρ,φ,B,C,D⟩:=L.ex;refine⟨ρ,φ,B,C,fun id u hu=>(D id u hu).imp (fun h=>h) fun⟨i,j,z,E⟩=>⟨i,j,?_,E⟩⟩;rcases Nat.lt_or_ge i listed.size with h' | h'
  ·omega
  ·simp[Array.getElem?_eq_none h']at z
 | f+1,listed,s,h,a,w,q,L,H=>by
  refine⟨fun e=>M s h a w (H.1 e) ?_,fun i hi=>?_⟩
  ·obtain⟨ρ,φ,B,C,D⟩:=L.ex;refine⟨ρ,φ,B,C,fun id u hu=>(D id u hu).imp (fun h=>h) fun⟨i,j,z,E⟩=>⟨i,j,?_,E⟩⟩;rcases Nat.lt_or_ge i listed.size with h' | h'
   ·omega
   ·simp[Array.getElem?_eq_none h']at z
  ·obtain⟨s',h',N,Z⟩:=H.2 i hi;obtain⟨o,x,u,c,Y,e2,e3,e4,e5,rfl,rfl⟩:=N.ex;obtain⟨I,_⟩:=mem_ready.1 hi;have J:i<listed.size:=by rw[q];exact(Array.getElem?_eq_some_iff.1 Y).1
   have O:¬(listed.getD i false=true):=fun e=>by simp[J]at I e;rw[I]at e;cases e
   refine ka A L Y O e2 e3 fun a' w' V=>qN A M f _ (by simpa using q) ?_ Z
   obtain⟨ρ,φ,B,C,D⟩:=V.ex;refine⟨ρ,φ,B,C,fun id v hv=>(D id v hv).imp (fun h=>h) fun⟨j,j',z,E⟩=>⟨j,j',?_,E⟩⟩;rcases z with z | rfl
   ·exact getD_set_true z
   ·simp[J]
end
end Go.Tv
