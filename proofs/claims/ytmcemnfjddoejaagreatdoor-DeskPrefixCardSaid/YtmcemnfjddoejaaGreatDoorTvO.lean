/- A region that draws its order: the text's order serves all. -/
import Derived.Test.YtmcemnfjddoejaaGreatDoorTvN
namespace Go.Tv
open Go Go.RowKit
def Af(a b:List Nat):Bool:=a.all fun x=> !b.contains x
theorem pR{a b:List Nat}(h:Af a b=true){x:Nat}(ha:x∈a):x ∉ b:=fun hb=>by
 have:=List.all_eq_true.1 h x ha;simp[hb]at this
theorem fj{u:hZ}{k:Nat}(c:∀p∈u,p.1≠k){h:Nat→Option Obj}:apply u h k=h k:=by
 induction u generalizing h with
 | nil=>rfl
 | cons p u e =>
  obtain⟨i,o⟩:=p;simp only[apply];rw[e (fun q f=>c q (by simp[f])),aB _ _ (Ne.symm (c (i,o) (by simp)))]
theorem HQ{u:hZ}{k:Nat}(j:∃p∈u,p.1=k){h h':Nat→Option Obj}:apply u h k=apply u h' k:=by
 induction u generalizing h h' with
 | nil=>obtain⟨p,v,_⟩:=j;simp at v
 | cons p u x =>
  obtain⟨i,o⟩:=p;simp only[apply];by_cases m:∃q∈u,q.1=k
  ·exact x m
  ·have c:∀q∈u,q.1≠k:=fun q e f=>m ⟨q,e,f⟩
   rw[fj c,fj c];obtain⟨q,e,f⟩:=j;rcases List.mem_cons.1 e with rfl | e
   ·subst f;rw[aw,aw]
   ·exact absurd f (c q e)
theorem Dk{u v:hZ}{A B:List Nat}(hu:∀p∈u,p.1∈A)(x:∀p∈v,p.1∈B)(z:Af A B=true){h:Nat→Option Obj}:apply u (apply v h)=apply v (apply u h):=by
 funext k;by_cases f:∃p∈u,p.1=k
 ·have j:∀p∈v,p.1≠k:=fun p m e=>by obtain⟨q,C,D⟩:=f;exact pR z (hu q C) (by rw[D,←e];exact x p m)
  rw[fj j (h:=apply u h)];exact HQ f
 ·have c:∀p∈u,p.1≠k:=fun p m e=>f ⟨p,m,e⟩
  rw[fj c];exact(gf (fj c) v).symm
section
variable{P:Program}{tb:bR}{an:An}{n:NS}{base:Nat}{ops:Array Oper}{Bw:Nat→Prop}{w0:b9 P}{F W:Nat→List Nat}
theorem xJ{s c:Nat→ag}{o:Oper}(e:∀t∈o.looksAt ops,s t=c t):∀x∈o.op.operands.toList,ev s x=ev c x:=fun x j=>by
 cases x with
 | tmp t =>
  refine e t (List.mem_append_left _ (List.mem_filterMap.2 ⟨_,j,rfl⟩))
 | const v=>rfl
 | global g=>rfl
 | func f=>rfl
theorem qm{s c:Nat→ag}{o:Oper}(e:∀t∈o.looksAt ops,s t=c t){g:Nat×Bool}(f:o.guard=some g):guardOf an n ops g s=guardOf an n ops g c:=by
 unfold guardOf;split
 ·rename_i d j;rw[e d (List.mem_append_right _ (by simp[f,j]))]
 ·rfl
theorem u6{s c:Nat→ag}{h h':Nat→Option Obj}{i:Nat}{o:Oper}(e:∀t∈o.looksAt ops,s t=c t)(f:∀i∈jM h o.op (eG s o.op),h i=h' i):
  pf P tb an n base ops i o s h=pf P tb an n base ops i o c h':=by
 unfold pf;rw[yO (xJ e) f];split
 ·split
  ·rfl
  ·rename_i g j;rw[qm e j]
 ·rfl
theorem nJ{s c:Nat→ag}{o:Oper}(e:∀t∈o.looksAt ops,s t=c t):eG s o.op=eG c o.op:=List.map_congr_left (xJ e)
theorem CU{h h':Nat→Option Obj}{c:List ag}(e:∀i∈xf h c,h i=h' i):xf h c=xf h' c:=by
 unfold xf;congr 1;have:∀i∈bm c,h i=h' i:=fun i hi=>e i (List.mem_append_left _ hi)
 revert this;generalize bm c=l;intro hl;induction l with
 | nil=>rfl
 | cons a l f=>rw[List.flatMap_cons,List.flatMap_cons,hl a (by simp),f (fun i hi=>hl i (by simp[hi]))]
theorem Bd{h h':Nat→Option Obj}{c:List ag}(e:∀i∈xw h c,h i=h' i):xw h c=xw h' c:=by
 unfold xw;congr 1;have:∀i∈bm c,h i=h' i:=fun i hi=>e i (List.mem_append_left _ hi)
 revert this;generalize bm c=l;intro hl;induction l with
 | nil=>rfl
 | cons a l f=>rw[List.flatMap_cons,List.flatMap_cons,hl a (by simp),f (fun i hi=>hl i (by simp[hi]))]
theorem py{h h':Nat→Option Obj}{op:Op}{c:List ag}(e:∀i∈jM h op c,h i=h' i):jM h op c=jM h' op c:=by
 cases op <;> first | rfl | exact CU e | exact Bd e
structure pd(P:Program)(tb:bR)(an:An)(n:NS)(base:Nat)(ops:Array Oper)(F W:Nat→List Nat)(i:Nat)(s:Nat→ag)(h:Nat→Option Obj)(s':Nat→ag)(h':Nat→Option Obj):Prop where
 ex:∃o x u c,ops[i]? = some o∧pf P tb an n base ops i o s h=some (x,u,c)∧c∧(∀j∈jM h o.op (eG s o.op),j∈F i)∧(∀p∈u,p.1∈W i)∧s'=dr s o.dst x∧h'=apply u h
theorem xH{s:Nat→ag}{d:Option Nat}{x:ag}{t:Nat}(h:∀k,d=some k→k≠t):dr s d x t=s t:=by
 cases d with
 | none=>rfl
 | some d=>exact aB _ _ (Ne.symm (h d rfl))
theorem EV{s:Nat→ag}{d e:Option Nat}{x y:ag}(h:∀k,d=some k→e≠some k):dr (dr s d x) e y=dr (dr s e y) d x:=by
 cases d with
 | none=>rfl
 | some d =>
  cases e with
  | none=>rfl
  | some e =>
   have c:e≠d:=fun q=>h d rfl (by rw[q])
   funext k;simp only[dr,bH];by_cases f:k=e <;> by_cases j:k=d <;> simp_all
theorem xa{i j:Nat}{m q:Oper}(hi:ops[i]? = some m)(Y:ops[j]? = some q)(L:m.apart ops q=true)(h1:Af (W i) (F j)=true)(h2:Af (W j) (F i)=true)(h3:Af (W i) (W j)=true)
  {s Z z:Nat→ag} {h A B:Nat→Option Obj} (a1:pd P tb an n base ops F W i s h Z A) (a2:pd P tb an n base ops F W j Z A z B) :
  ∃sj C,pd P tb an n base ops F W j s h sj C∧pd P tb an n base ops F W i sj C z B:=by
 obtain⟨o,x,u,c,e1,e2,e3,e4,M,rfl,rfl⟩:=a1.ex;obtain⟨o',y,v,c',f1,f2,f3,f4,N,rfl,rfl⟩:=a2.ex;rw[hi]at e1;cases e1;rw[Y]at f1;cases f1;obtain⟨p1,p2,p3⟩:=Oper.apart_spec L;have D:∀t∈q.looksAt ops,dr s m.dst x t=s t:=fun t O=>xH fun k f e=>by subst e;exact p1 k f O
 have E:∀k∈jM (apply u h) q.op (eG (dr s m.dst x) q.op),apply u h k=h k:=fun k f=>fj fun p R e=>pR h1 (M p R) (by rw[e];exact f4 k f)
 have g2:=u6 (P:=P) (tb:=tb) (an:=an) (n:=n) (base:=base) (i:=j) D E;rw[f2]at g2;have V:=nJ D;have X:=py E;have I:∀t∈m.looksAt ops,s t=dr s q.dst y t:=fun t O=>(xH fun k f e=>by subst e;exact p3 k f O).symm
 have J:∀k∈jM h m.op (eG s m.op),h k=apply v h k:=fun k f=>(fj fun p R e=>pR h2 (N p R) (by rw[e];exact e4 k f)).symm
 have g3:=u6 (P:=P) (tb:=tb) (an:=an) (n:=n) (base:=base) (i:=i) I J;rw[e2]at g3;refine⟨dr s q.dst y,apply v h,⟨q,y,v,c',Y,g2.symm,f3,fun k f=>f4 k ?_,N,rfl,rfl⟩,⟨m,x,u,c,hi,g3.symm,e3,fun k f=>e4 k ?_,M,?_,?_⟩⟩
 ·rw[X,V];exact f
 ·rw[py J,nJ I];exact f
 ·exact EV p2
 ·exact(Dk M N h3).symm
def Fj(P:Program)(tb:bR)(an:An)(n:NS)(base:Nat)(ops:Array Oper)(F W:Nat→List Nat)(Q:(Nat→ag)→(Nat→Option Obj)→Prop):Nat→Array Bool→(Nat→ag)→(Nat→Option Obj)→Prop
 | 0,listed,s,h=>Region.ready .any ops listed=[]∧Q s h
 | c+1,listed,s,h=>(Region.ready .any ops listed=[]→Q s h) ∧
  ∀i∈Region.ready .any ops listed,∃e h',pd P tb an n base ops F W i s h e h'∧Fj P tb an n base ops F W Q c (listed.setIfInBounds i true) e h'
def tQ(ops:Array Oper)(F W:Nat→List Nat)(i j:Nat)(c e:Oper):Bool:=c.apart ops e && Af (W i) (F j) && Af (W j) (F i) && Af (W i) (W j)
def kz(m:List Nat)(o:Oper):Nat:=o.after.toList.foldl (fun a e=>if Region.binds .any e then a ||| 2 ^ e.on ||| m.getD e.on 0 else a) 0
def ux(m:List Nat):List Oper→List Nat
 | []=>m
 | o::r=>ux (m++[kz m o]) r
def p9(ops:Array Oper):List Nat:=ux [] ops.toList
theorem AM{m:List Nat}{o:Oper}{i:Nat}(h:(kz m o).testBit i=true):∃e∈o.after.toList,Region.binds .any e=true∧(e.on=i∨(m.getD e.on 0).testBit i=true):=by
 have key:∀(l:List Edge) (a:Nat),(l.foldl (fun a e=>if Region.binds .any e then a ||| 2 ^ e.on ||| m.getD e.on 0 else a) a).testBit i=true →
   a.testBit i=true∨∃e∈l,Region.binds .any e=true∧(e.on=i∨(m.getD e.on 0).testBit i=true):=fun l=>by
  induction l with
  | nil=>intro a h;exact .inl h
  | cons e l f =>
   intro a h;rw[List.foldl_cons]at h;rcases f _ h with c | ⟨j,c,k⟩
   ·split at c
    ·rename_i hb;rw[Nat.testBit_or,Nat.testBit_or,Bool.or_eq_true,Bool.or_eq_true]at c;rcases c with(c | c) | c
     ·exact .inl c
     ·exact .inr ⟨e,by simp,hb,.inl (by rw[Nat.testBit_two_pow]at c;simpa using c)⟩
     ·exact .inr ⟨e,by simp,hb,.inr c⟩
    ·exact .inl c
   ·exact .inr ⟨j,by simp[c],k⟩
 rcases key _ _ h with c | c
 ·simp at c
 ·exact c
theorem zc:∀(r:List Oper) (m:List Nat),∃l,ux m r=m++l
 | [],m=>⟨[],by simp[ux]⟩
 | o::r,m=>by
  obtain⟨l,h⟩:=zc r (m++[kz m o]);exact⟨kz m o::l,by simp only[ux];rw[h];simp⟩
theorem CC:∀(r:List Oper) (m:List Nat) (k:Nat) (o:Oper),r[k]? = some o→∃c l,ux m r=c++[kz c o]++l∧c.length=m.length+k
 | [],m,k,o,h=>by simp at h
 | o::r,m,0,e,h=>by
  simp at h;subst h;obtain⟨l,h⟩:=zc r (m++[kz m o]);exact⟨m,l,by simp only[ux];exact h,by simp⟩
 | o::r,m,k+1,e,h=>by
  obtain⟨c,l,f,j⟩:=CC r (m++[kz m o]) k e (by simpa using h);exact⟨c,l,by simp only[ux];exact f,by simp at j;omega⟩
theorem G7{j i:Nat}{c:Oper}(u:ops[j]? = some c)(h:((p9 ops).getD j 0).testBit i=true):∃e∈c.after.toList,Region.binds .any e=true∧(e.on=i∨e.on<j∧((p9 ops).getD e.on 0).testBit i=true):=by
 obtain⟨k,l,v,m⟩:=CC ops.toList [] j c (by simpa using u);simp only[List.length_nil,Nat.zero_add]at m;have p:p9 ops=k++[kz k c]++l:=v;have x:(p9 ops).getD j 0=kz k c:=by rw[p,List.getD_eq_getElem?_getD,List.append_assoc,List.getElem?_append_right (by omega)];simp[m]
 rw[x]at h;obtain⟨e,z,A,f⟩:=AM h;refine⟨e,z,A,f.imp (fun h=>h) fun f=> ?_⟩;rcases Nat.lt_or_ge e.on j with q | q
 ·refine⟨q,?_⟩;rw[p,List.append_assoc,List.getD_eq_getElem?_getD,List.getElem?_append_left (by omega),←List.getD_eq_getElem?_getD];exact f
 ·rw[List.getD_eq_getElem?_getD,List.getElem?_eq_none (by omega)]at f;simp at f
def oU(ops:Array Oper)(listed:Array Bool):Prop:=∀(k:Nat) (o:Oper),ops[k]? = some o→listed.getD k false=true→∀e∈o.after,Region.binds .any e=true→listed.getD e.on false=true
theorem qM{listed:Array Bool}(k:oU ops listed){i:Nat}:∀(n j:Nat) (c:Oper),j<n→ops[j]? = some c→(∀e∈c.after,Region.binds .any e=true→listed.getD e.on false=true) →
  ((p9 ops).getD j 0).testBit i=true→listed.getD i false=true
 | 0,_,_,h,_,_,_=>absurd h (by omega)
 | n+1,j,c,A,m,u,hb=>by
  obtain⟨e,v,x,p⟩:=G7 m hb;have hl:=u e (by simpa using v) x;rcases p with rfl | ⟨p,z⟩
  ·exact hl
  ·have f:e.on<ops.size:=by have:=(Array.getElem?_eq_some_iff.1 m).1;omega
   have q:ops[e.on]? = some ops[e.on]:=Array.getElem?_eq_getElem f;exact qM k n e.on _ (by omega) q (k _ _ q hl) z
theorem oU.add{listed:Array Bool}(C:oU ops listed){j:Nat}(D:j∈Region.ready .any ops listed):oU ops (listed.setIfInBounds j true):=fun k o u hl e B hb=>by
 obtain⟨_,E,z,f⟩:=mem_ready.1 D;by_cases h:j=k
 ·subst h;rw[z]at u;cases u;exact getD_set_true (f e B hb)
 ·rw[getD_set_ne false h]at hl;exact getD_set_true (C k o u hl e B hb)
theorem wD{Q:(Nat→ag)→(Nat→Option Obj)→Prop}{i:Nat}{V:Oper}(hi:ops[i]? = some V):∀(f:Nat) (listed:Array Bool) {s A:Nat→ag} {h m:Nat→Option Obj},
  oU ops listed→(∀j B,ops[j]? = some B→j≠i→listed.getD j true=false→((p9 ops).getD j 0).testBit i=false→tQ ops F W i j V B=true) →
  i∈Region.ready .any ops listed→pd P tb an n base ops F W i s h A m→Fj P tb an n base ops F W Q f (listed.setIfInBounds i true) A m→Fj P tb an n base ops F W Q (f+1) listed s h
 | 0,listed,s,A,h,m,_,_,x,u,H=>by
  refine⟨fun e=>(by rw[e]at x;cases x),fun j C=> ?_⟩;by_cases c:j=i
  ·subst c;exact⟨A,m,u,H⟩
  ·have:=ready_mono C c;rw[H.1]at this;cases this
 | f+1,listed,s,A,h,m,D,p,x,u,H=>by
  refine⟨fun e=>(by rw[e]at x;cases x),fun j C=> ?_⟩;by_cases c:j=i
  ·subst c;exact⟨A,m,u,H⟩
  ·obtain⟨Y,Z,a2,H2⟩:=H.2 j (ready_mono C c);obtain⟨v,B,z,E⟩:=mem_ready.1 C;have I:((p9 ops).getD j 0).testBit i=false:=by
    cases hb:((p9 ops).getD j 0).testBit i with
    | false=>rfl
    | true =>
     have M:=qM D (j+1) j B (by omega) z E hb;have X:=(mem_ready.1 x).1;rcases Nat.lt_or_ge i listed.size with h' | h'
     ·simp[h']at X M;rw[X]at M;cases M
     ·simp[Array.getElem?_eq_none h']at M
   have q:=p j B z c v I;simp only[tQ,Bool.and_eq_true]at q;obtain⟨sj,N,b1,b2⟩:=xa hi z q.1.1.1 q.1.1.2 q.1.2 q.2 u a2;refine⟨sj,N,b1,wD hi f (listed.setIfInBounds j true) (D.add C) (fun k ok hk O J R=> ?_) (ready_mono x (Ne.symm c)) b2 ?_⟩
   ·refine p k ok hk O ?_ R;by_cases L:j=k
    ·subst L;exact v
    ·rw[getD_set_ne true L]at J;exact J
   ·rw[Array.setIfInBounds_comm _ _ c];exact H2
def Bp(P:Program)(tb:bR)(an:An)(n:NS)(base:Nat)(ops:Array Oper):List Oper→Nat→(Nat→ag)→(Nat→Option Obj)→Option ((Nat→ag)×(Nat→Option Obj)×List Prop×List (List Nat×List Nat))
 | [],_,s,h=>some (s,h,[],[])
 | o::r,k,s,h=>match pf P tb an n base ops k o s h with
  | some (x,u,c)=>match Bp P tb an n base ops r (k+1) (dr s o.dst x) (apply u h)with
   | some (e,h',f,j)=>some (e,h',c::f,(jM h o.op (eG s o.op),u.map (·.1))::j)
   | none=>none
  | none=>none
def Ec(ops:Array Oper)(F W:Nat→List Nat)(A:List Nat)(listed:Array Bool)(i:Nat):Bool :=
 match ops[i]? with
 | none=>false
 | some c=>(List.range ops.size).all fun j=>j == i || listed.getD j true || match ops[j]? with
   | some e=>(A.getD j 0).testBit i || tQ ops F W i j c e
   | none=>true
def Fg(ops:Array Oper)(F W:Nat→List Nat)(A:List Nat):Nat→Nat→Array Bool→Bool
 | 0,_,listed=>(Region.ready .any ops listed).isEmpty
 | c+1,k,listed=>(Region.ready .any ops listed).contains k && Ec ops F W A listed k && Fg ops F W A c (k+1) (listed.setIfInBounds k true)
theorem wV{A:List Nat}{i:Nat}{k:Oper}{listed:Array Bool}(hi:ops[i]? = some k)(h:Ec ops F W A listed i=true)(j:Nat)(m:Oper)
  (p:ops[j]? = some m) (c:j≠i) (e:listed.getD j true=false) (f:(A.getD j 0).testBit i=false):tQ ops F W i j k m=true:=by
 simp only[Ec,hi,List.all_eq_true,List.mem_range]at h;have q:=h j (Array.getElem?_eq_some_iff.1 p).1;simp only[p,Bool.or_eq_true,beq_iff_eq,c,false_or,e,f,Bool.false_eq_true]at q;exact q
theorem AJ{Q:(Nat→ag)→(Nat→Option Obj)→Prop}:∀(l:List Oper) (k:Nat) (listed:Array Bool) {s v:Nat→ag} {h h':Nat→Option Obj} {z:List Prop} {f:List (List Nat×List Nat)},(∀j,l[j]? = ops[k+j]?) →
  (∀j,f[j]?.map (·.1)=(if j<l.length then some (F (k+j))else none))→(∀j,f[j]?.map (·.2)=(if j<l.length then some (W (k+j))else none)) →
  oU ops listed→Fg ops F W (p9 ops) l.length k listed=true→Bp P tb an n base ops l k s h=some (v,h',z,f)→oQ z→Q v h'→Fj P tb an n base ops F W Q l.length listed s h
 | [],_,listed,s,v,h,h',z,f,_,_,_,_,hB,e,_,A=>by
  cases e;exact⟨by simpa [Fg]using hB,A⟩
 | o::l,k,listed,s,v,h,h',z,f,hl,J,L,m,hB,e,M,A=>by
  have B:ops[k]? = some o:=by simpa using(hl 0).symm
  simp only[List.length_cons,Fg,Bool.and_eq_true]at hB;obtain⟨⟨C,R⟩,D⟩:=hB;simp only[Bp]at e;split at e
  ·rename_i x u c V;split at e
   ·rename_i s2 h2 X Y E;cases e;have N:=J 0;have O:=L 0;simp at N O;have I:pd P tb an n base ops F W k s h (dr s o.dst x) (apply u h):=⟨o,x,u,c,B,V,M.1,fun j Z=>by rw[←N];exact Z,fun p hp=>by rw[←O];exact List.mem_map.2 ⟨p,hp,rfl⟩,rfl,rfl⟩;have q:k∈Region.ready .any ops listed:=by simpa using C
    refine wD B l.length listed m (wV B R) q I ?_;refine AJ l (k+1) _ (fun j=>by have:=hl (j+1);simpa [Nat.add_assoc,Nat.add_comm 1 j]using this) (fun j=> ?_) (fun j=> ?_) (m.add q) D E M.2 A
    ·have:=J (j+1);simpa [Nat.add_assoc,Nat.add_comm 1 j]using this
    ·have:=L (j+1);simpa [Nat.add_assoc,Nat.add_comm 1 j]using this
   ·cases e
  ·cases e
theorem qv(p:bS P tb){N:(Nat→ag)→(Nat→Option Obj)→Prop}{Q:Exit→Act→World→Prop}
  (I:∀s h a w,N s h→FZ n base Bw w0 (fun i=>i<ops.size) s h a w→Q .normal a w):∀(f:Nat) (listed:Array Bool) {s:Nat→ag} {h:Nat→Option Obj} {a:Act} {w:World},listed.size=ops.size →
  FZ n base Bw w0 (fun i=>listed.getD i false=true) s h a w→Fj P tb an n base ops F W N f listed s h→wpAny P .any ops Q f listed a w
 | 0,listed,s,h,a,w,k,E,H=>by
  refine⟨H.1,I s h a w H.2 ?_⟩;obtain⟨ρ,φ,q,z,A⟩:=E.ex;refine⟨ρ,φ,q,z,fun id u hu=>(A id u hu).imp (fun h=>h) fun⟨i,j,m,B⟩=>⟨i,j,?_,B⟩⟩;rcases Nat.lt_or_ge i listed.size with h' | h'
  ·omega
  ·simp[Array.getElem?_eq_none h']at m
 | f+1,listed,s,h,a,w,k,E,H=>by
  refine⟨fun e=>I s h a w (H.1 e) ?_,fun i hi=> ?_⟩
  ·obtain⟨ρ,φ,q,z,A⟩:=E.ex;refine⟨ρ,φ,q,z,fun id u hu=>(A id u hu).imp (fun h=>h) fun⟨i,j,m,B⟩=>⟨i,j,?_,B⟩⟩;rcases Nat.lt_or_ge i listed.size with h' | h'
   ·omega
   ·simp[Array.getElem?_eq_none h']at m
  ·obtain⟨s',h',J,R⟩:=H.2 i hi;obtain⟨o,x,u,c,O,V,X,e4,e5,rfl,rfl⟩:=J.ex;obtain⟨C,_⟩:=mem_ready.1 hi;have D:i<listed.size:=by rw[k];exact(Array.getElem?_eq_some_iff.1 O).1
   have L:¬(listed.getD i false=true):=fun e=>by simp[D]at C e;rw[C]at e;cases e
   refine jO p E O L V X fun a' w' M=>qv p I f _ (by simpa using k) ?_ R
   obtain⟨ρ,φ,q,z,A⟩:=M.ex;refine⟨ρ,φ,q,z,fun id v Y=>(A id v Y).imp (fun h=>h) fun⟨j,Z,m,B⟩=>⟨j,Z,?_,B⟩⟩;rcases m with m | rfl
   ·exact getD_set_true m
   ·simp[D]
end
end Go.Tv
