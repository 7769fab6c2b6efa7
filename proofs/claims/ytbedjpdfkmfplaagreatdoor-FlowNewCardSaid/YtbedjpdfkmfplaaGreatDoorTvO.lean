/- A region that draws its order: the text's order serves all. -/
import Derived.Test.YtbedjpdfkmfplaaGreatDoorTvN
namespace Go.Tv
open Go Go.RowKit
def aBJ(a b:List Nat):Bool:=a.all fun x=> !b.contains x
theorem vA{a b:List Nat}(h:aBJ a b=true){x:Nat}(ha:x∈a):x ∉ b:=fun hb=>by
 have:=List.all_eq_true.1 h x ha
 simp[hb]at this
theorem gK{u:jB}{k:Nat}(hk:∀p∈u,p.1≠k){h:Nat→Option Obj}:apply u h k=h k:=by
 induction u generalizing h with
 | nil=>rfl
 | cons p u ih =>
  obtain⟨i,o⟩:=p
  simp only[apply]
  rw[ih (fun q hq=>hk q (by simp[hq])),aP _ _ (Ne.symm (hk (i,o) (by simp)))]
theorem aGn{u:jB}{k:Nat}(hk:∃p∈u,p.1=k){h h':Nat→Option Obj}:apply u h k=apply u h' k:=by
 induction u generalizing h h' with
 | nil=>obtain⟨p,hp,_⟩:=hk;simp at hp
 | cons p u ih =>
  obtain⟨i,o⟩:=p
  simp only[apply]
  by_cases hq:∃q∈u,q.1=k
  ·exact ih hq
  ·have hq':∀q∈u,q.1≠k:=fun q h1 h2=>hq ⟨q,h1,h2⟩
   rw[gK hq',gK hq']
   obtain⟨q,h1,h2⟩:=hk
   rcases List.mem_cons.1 h1 with rfl | h1
   ·subst h2;rw[aH,aH]
   ·exact absurd h2 (hq' q h1)
theorem aEE{u v:jB}{A B:List Nat}(hu:∀p∈u,p.1∈A)(hv:∀p∈v,p.1∈B)(hd:aBJ A B=true){h:Nat→Option Obj}:apply u (apply v h)=apply v (apply u h):=by
 funext k
 by_cases hk:∃p∈u,p.1=k
 ·have hv':∀p∈v,p.1≠k:=fun p hp e=>by
   obtain⟨q,hq,e'⟩:=hk
   exact vA hd (hu q hq) (by rw[e',←e];exact hv p hp)
  rw[gK hv' (h:=apply u h)]
  exact aGn hk
 ·have hu':∀p∈u,p.1≠k:=fun p hp e=>hk ⟨p,hp,e⟩
  rw[gK hu']
  exact(g9 (gK hu') v).symm
section
variable{P:Program}{tb:Tab}{an:An}{n:NS}{base:Nat}{ops:Array Oper}{Bw:Nat→Prop}{w0:Base P}{F W:Nat→List Nat}
theorem U1{s s':Nat→AVal}{o:Oper}(hs:∀t∈o.looksAt ops,s t=s' t):∀x∈o.op.operands.toList,ev s x=ev s' x:=fun x hx=>by
 cases x with
 | tmp t =>
  refine hs t (List.mem_append_left _ (List.mem_filterMap.2 ⟨_,hx,rfl⟩))
 | const v=>rfl
 | global g=>rfl
 | func f=>rfl
theorem wE{s s':Nat→AVal}{o:Oper}(hs:∀t∈o.looksAt ops,s t=s' t){g:Nat×Bool}(hg:o.guard=some g):rH an n ops g s=rH an n ops g s':=by
 unfold rH
 split
 ·rename_i d hd
  rw[hs d (List.mem_append_right _ (by simp[hg,hd]))]
 ·rfl
theorem H4{s s':Nat→AVal}{h h':Nat→Option Obj}{i:Nat}{o:Oper}(hs:∀t∈o.looksAt ops,s t=s' t)(hh:∀i∈lF h o.op (fS s o.op),h i=h' i):
  tL P tb an n base ops i o s h=tL P tb an n base ops i o s' h':=by
 unfold tL
 rw[aAR (U1 hs) hh]
 split
 ·split
  ·rfl
  ·rename_i g hg
   rw[wE hs hg]
 ·rfl
theorem qH{s s':Nat→AVal}{o:Oper}(hs:∀t∈o.looksAt ops,s t=s' t):fS s o.op=fS s' o.op:=List.map_congr_left (U1 hs)
theorem aEt{h h':Nat→Option Obj}{xs:List AVal}(hh:∀i∈U3 h xs,h i=h' i):U3 h xs=U3 h' xs:=by
 unfold U3
 congr 1
 have:∀i∈bR xs,h i=h' i:=fun i hi=>hh i (List.mem_append_left _ hi)
 revert this
 generalize bR xs=l
 intro hl
 induction l with
 | nil=>rfl
 | cons a l ih=>rw[List.flatMap_cons,List.flatMap_cons,hl a (by simp),ih (fun i hi=>hl i (by simp[hi]))]
theorem aCP{h h':Nat→Option Obj}{xs:List AVal}(hh:∀i∈P2 h xs,h i=h' i):P2 h xs=P2 h' xs:=by
 unfold P2
 congr 1
 have:∀i∈bR xs,h i=h' i:=fun i hi=>hh i (List.mem_append_left _ hi)
 revert this
 generalize bR xs=l
 intro hl
 induction l with
 | nil=>rfl
 | cons a l ih=>rw[List.flatMap_cons,List.flatMap_cons,hl a (by simp),ih (fun i hi=>hl i (by simp[hi]))]
theorem u6{h h':Nat→Option Obj}{op:Op}{xs:List AVal}(hh:∀i∈lF h op xs,h i=h' i):lF h op xs=lF h' op xs:=by
 cases op <;> first | rfl | exact aEt hh | exact aCP hh
structure StepA(P:Program)(tb:Tab)(an:An)(n:NS)(base:Nat)(ops:Array Oper)(F W:Nat→List Nat)(i:Nat)(s:Nat→AVal)(h:Nat→Option Obj)(s':Nat→AVal)(h':Nat→Option Obj):Prop where
 ex:∃o x u c,ops[i]? = some o∧tL P tb an n base ops i o s h=some (x,u,c)∧c∧(∀j∈lF h o.op (fS s o.op),j∈F i)∧(∀p∈u,p.1∈W i)∧s'=dX s o.dst x∧h'=apply u h
theorem N6{s:Nat→AVal}{d:Option Nat}{x:AVal}{t:Nat}(h:∀k,d=some k→k≠t):dX s d x t=s t:=by
 cases d with
 | none=>rfl
 | some d=>exact aP _ _ (Ne.symm (h d rfl))
theorem aFK{s:Nat→AVal}{d e:Option Nat}{x y:AVal}(h:∀k,d=some k→e≠some k):dX (dX s d x) e y=dX (dX s e y) d x:=by
 cases d with
 | none=>rfl
 | some d =>
  cases e with
  | none=>rfl
  | some e =>
   have hne:e≠d:=fun q=>h d rfl (by rw[q])
   funext k
   simp only[dX,upd]
   by_cases h1:k=e <;> by_cases h2:k=d <;> simp_all
theorem O3{i j:Nat}{oi oj:Oper}(hi:ops[i]? = some oi)(hj:ops[j]? = some oj)(hap:oi.apart ops oj=true)(h1:aBJ (W i) (F j)=true)(h2:aBJ (W j) (F i)=true)(h3:aBJ (W i) (W j)=true)
  {s si sij:Nat→AVal} {h hi' hij:Nat→Option Obj} (a1:StepA P tb an n base ops F W i s h si hi') (a2:StepA P tb an n base ops F W j si hi' sij hij) :
  ∃sj hj',StepA P tb an n base ops F W j s h sj hj'∧StepA P tb an n base ops F W i sj hj' sij hij:=by
 obtain⟨o,x,u,c,e1,e2,e3,e4,e5,rfl,rfl⟩:=a1.ex
 obtain⟨o',y,v,c',f1,f2,f3,f4,f5,rfl,rfl⟩:=a2.ex
 rw[hi]at e1;cases e1
 rw[hj]at f1;cases f1
 obtain⟨p1,p2,p3⟩:=Oper.apart_spec hap
 have hs1:∀t∈oj.looksAt ops,dX s oi.dst x t=s t:=fun t ht=>N6 fun k hk e=>by subst e;exact p1 k hk ht
 have hh1:∀k∈lF (apply u h) oj.op (fS (dX s oi.dst x) oj.op),apply u h k=h k:=fun k hk=>gK fun p hp e=>vA h1 (e5 p hp) (by rw[e];exact f4 k hk)
 have g2:=H4 (P:=P) (tb:=tb) (an:=an) (n:=n) (base:=base) (i:=j) hs1 hh1
 rw[f2]at g2
 have hv1:=qH hs1
 have hf1:=u6 hh1
 have hs2:∀t∈oi.looksAt ops,s t=dX s oj.dst y t:=fun t ht=>(N6 fun k hk e=>by subst e;exact p3 k hk ht).symm
 have hh2:∀k∈lF h oi.op (fS s oi.op),h k=apply v h k:=fun k hk=>(gK fun p hp e=>vA h2 (f5 p hp) (by rw[e];exact e4 k hk)).symm
 have g3:=H4 (P:=P) (tb:=tb) (an:=an) (n:=n) (base:=base) (i:=i) hs2 hh2
 rw[e2]at g3
 refine⟨dX s oj.dst y,apply v h,⟨oj,y,v,c',hj,g2.symm,f3,fun k hk=>f4 k ?_,f5,rfl,rfl⟩,⟨oi,x,u,c,hi,g3.symm,e3,fun k hk=>e4 k ?_,e5,?_,?_⟩⟩
 ·rw[hf1,hv1];exact hk
 ·rw[u6 hh2,qH hs2];exact hk
 ·exact aFK p2
 ·exact(aEE e5 f5 h3).symm
def aFO(P:Program)(tb:Tab)(an:An)(n:NS)(base:Nat)(ops:Array Oper)(F W:Nat→List Nat)(Q:(Nat→AVal)→(Nat→Option Obj)→Prop):Nat→Array Bool→(Nat→AVal)→(Nat→Option Obj)→Prop
 | 0,listed,s,h=>Region.ready .any ops listed=[]∧Q s h
 | fuel+1,listed,s,h=>(Region.ready .any ops listed=[]→Q s h) ∧
  ∀i∈Region.ready .any ops listed,∃s' h',StepA P tb an n base ops F W i s h s' h'∧aFO P tb an n base ops F W Q fuel (listed.setIfInBounds i true) s' h'
def C8(ops:Array Oper)(F W:Nat→List Nat)(i j:Nat)(oi oj:Oper):Bool:=oi.apart ops oj && aBJ (W i) (F j) && aBJ (W j) (F i) && aBJ (W i) (W j)
def mD(m:List Nat)(o:Oper):Nat:=o.after.toList.foldl (fun a e=>if Region.binds .any e then a ||| 2 ^ e.on ||| m.getD e.on 0 else a) 0
def G9(m:List Nat):List Oper→List Nat
 | []=>m
 | o::r=>G9 (m++[mD m o]) r
def vU(ops:Array Oper):List Nat:=G9 [] ops.toList
theorem aCD{m:List Nat}{o:Oper}{i:Nat}(h:(mD m o).testBit i=true):∃e∈o.after.toList,Region.binds .any e=true∧(e.on=i∨(m.getD e.on 0).testBit i=true):=by
 have key:∀(l:List Edge) (a:Nat),(l.foldl (fun a e=>if Region.binds .any e then a ||| 2 ^ e.on ||| m.getD e.on 0 else a) a).testBit i=true →
   a.testBit i=true∨∃e∈l,Region.binds .any e=true∧(e.on=i∨(m.getD e.on 0).testBit i=true):=fun l=>by
  induction l with
  | nil=>intro a h;exact .inl h
  | cons e l ih =>
   intro a h
   rw[List.foldl_cons]at h
   rcases ih _ h with h1 | ⟨e',h1,h2⟩
   ·split at h1
    ·rename_i hb
     rw[Nat.testBit_or,Nat.testBit_or,Bool.or_eq_true,Bool.or_eq_true]at h1
     rcases h1 with(h1 | h1) | h1
     ·exact .inl h1
     ·exact .inr ⟨e,by simp,hb,.inl (by rw[Nat.testBit_two_pow]at h1;simpa using h1)⟩
     ·exact .inr ⟨e,by simp,hb,.inr h1⟩
    ·exact .inl h1
   ·exact .inr ⟨e',by simp[h1],h2⟩
 rcases key _ _ h with h1 | h1
 ·simp at h1
 ·exact h1
theorem aA4:∀(r:List Oper) (m:List Nat),∃l,G9 m r=m++l
 | [],m=>⟨[],by simp[G9]⟩
 | o::r,m=>by
  obtain⟨l,h⟩:=aA4 r (m++[mD m o])
  exact⟨mD m o::l,by simp only[G9];rw[h];simp⟩
theorem aC4:∀(r:List Oper) (m:List Nat) (k:Nat) (o:Oper),r[k]? = some o→∃m' l,G9 m r=m'++[mD m' o]++l∧m'.length=m.length+k
 | [],m,k,o,h=>by simp at h
 | o::r,m,0,o',h=>by
  simp at h
  subst h
  obtain⟨l,h⟩:=aA4 r (m++[mD m o])
  exact⟨m,l,by simp only[G9];exact h,by simp⟩
 | o::r,m,k+1,o',h=>by
  obtain⟨m',l,h1,h2⟩:=aC4 r (m++[mD m o]) k o' (by simpa using h)
  exact⟨m',l,by simp only[G9];exact h1,by simp at h2;omega⟩
theorem aGz{j i:Nat}{oj:Oper}(hj:ops[j]? = some oj)(h:((vU ops).getD j 0).testBit i=true):∃e∈oj.after.toList,Region.binds .any e=true∧(e.on=i∨e.on<j∧((vU ops).getD e.on 0).testBit i=true):=by
 obtain⟨m',l,h1,h2⟩:=aC4 ops.toList [] j oj (by simpa using hj)
 simp only[List.length_nil,Nat.zero_add]at h2
 have e1:vU ops=m'++[mD m' oj]++l:=h1
 have e2:(vU ops).getD j 0=mD m' oj:=by
  rw[e1,List.getD_eq_getElem?_getD,List.append_assoc,List.getElem?_append_right (by omega)]
  simp[h2]
 rw[e2]at h
 obtain⟨e,q1,q2,q3⟩:=aCD h
 refine⟨e,q1,q2,q3.imp (fun h=>h) fun q3=> ?_⟩
 rcases Nat.lt_or_ge e.on j with h3 | h3
 ·refine⟨h3,?_⟩
  rw[e1,List.append_assoc,List.getD_eq_getElem?_getD,List.getElem?_append_left (by omega),←List.getD_eq_getElem?_getD]
  exact q3
 ·rw[List.getD_eq_getElem?_getD,List.getElem?_eq_none (by omega)]at q3
  simp at q3
def Closed(ops:Array Oper)(listed:Array Bool):Prop:=∀(k:Nat) (o:Oper),ops[k]? = some o→listed.getD k false=true→∀e∈o.after,Region.binds .any e=true→listed.getD e.on false=true
theorem xM{listed:Array Bool}(hc:Closed ops listed){i:Nat}:∀(n j:Nat) (oj:Oper),j<n→ops[j]? = some oj→(∀e∈oj.after,Region.binds .any e=true→listed.getD e.on false=true) →
  ((vU ops).getD j 0).testBit i=true→listed.getD i false=true
 | 0,_,_,h,_,_,_=>absurd h (by omega)
 | n+1,j,oj,hn,hj,hd,hb=>by
  obtain⟨e,q1,q2,q3⟩:=aGz hj hb
  have hl:=hd e (by simpa using q1) q2
  rcases q3 with rfl | ⟨q3,q4⟩
  ·exact hl
  ·have hlt:e.on<ops.size:=by have:=(Array.getElem?_eq_some_iff.1 hj).1;omega
   have ho:ops[e.on]? = some ops[e.on]:=Array.getElem?_eq_getElem hlt
   exact xM hc n e.on _ (by omega) ho (hc _ _ ho hl) q4
theorem Closed.add{listed:Array Bool}(hc:Closed ops listed){j:Nat}(hj:j∈Region.ready .any ops listed):Closed ops (listed.setIfInBounds j true):=fun k o hk hl e he hb=>by
 obtain⟨_,oj,hoj,hall⟩:=mem_ready.1 hj
 by_cases h:j=k
 ·subst h
  rw[hoj]at hk
  cases hk
  exact getD_set_true (hall e he hb)
 ·rw[getD_set_ne false h]at hl
  exact getD_set_true (hc k o hk hl e he hb)
theorem U0{Q:(Nat→AVal)→(Nat→Option Obj)→Prop}{i:Nat}{oi:Oper}(hi:ops[i]? = some oi):∀(fuel:Nat) (listed:Array Bool) {s si:Nat→AVal} {h hi':Nat→Option Obj},
  Closed ops listed→(∀j oj,ops[j]? = some oj→j≠i→listed.getD j true=false→((vU ops).getD j 0).testBit i=false→C8 ops F W i j oi oj=true) →
  i∈Region.ready .any ops listed→StepA P tb an n base ops F W i s h si hi'→aFO P tb an n base ops F W Q fuel (listed.setIfInBounds i true) si hi'→aFO P tb an n base ops F W Q (fuel+1) listed s h
 | 0,listed,s,si,h,hi',_,_,hr,hst,H=>by
  refine⟨fun e=>(by rw[e]at hr;cases hr),fun j hj=> ?_⟩
  by_cases hji:j=i
  ·subst hji;exact⟨si,hi',hst,H⟩
  ·have:=ready_mono hj hji
   rw[H.1]at this
   cases this
 | fuel+1,listed,s,si,h,hi',hcl,hfree,hr,hst,H=>by
  refine⟨fun e=>(by rw[e]at hr;cases hr),fun j hj=> ?_⟩
  by_cases hji:j=i
  ·subst hji;exact⟨si,hi',hst,H⟩
  ·obtain⟨sij,hij,a2,H2⟩:=H.2 j (ready_mono hj hji)
   obtain⟨hjun,oj,hoj,hall⟩:=mem_ready.1 hj
   have hnot:((vU ops).getD j 0).testBit i=false:=by
    cases hb:((vU ops).getD j 0).testBit i with
    | false=>rfl
    | true =>
     have h1:=xM hcl (j+1) j oj (by omega) hoj hall hb
     have h0:=(mem_ready.1 hr).1
     rcases Nat.lt_or_ge i listed.size with h' | h'
     ·simp[h']at h0 h1;rw[h0]at h1;cases h1
     ·simp[Array.getElem?_eq_none h']at h1
   have hok:=hfree j oj hoj hji hjun hnot
   simp only[C8,Bool.and_eq_true]at hok
   obtain⟨sj,hj',b1,b2⟩:=O3 hi hoj hok.1.1.1 hok.1.1.2 hok.1.2 hok.2 hst a2
   refine⟨sj,hj',b1,U0 hi fuel (listed.setIfInBounds j true) (hcl.add hj) (fun k ok hk hki hun hno=> ?_) (ready_mono hr (Ne.symm hji)) b2 ?_⟩
   ·refine hfree k ok hk hki ?_ hno
    by_cases hjk:j=k
    ·subst hjk;exact hjun
    ·rw[getD_set_ne true hjk]at hun;exact hun
   ·rw[Array.setIfInBounds_comm _ _ hji]
    exact H2
def aDt(P:Program)(tb:Tab)(an:An)(n:NS)(base:Nat)(ops:Array Oper):List Oper→Nat→(Nat→AVal)→(Nat→Option Obj)→Option ((Nat→AVal)×(Nat→Option Obj)×List Prop×List (List Nat×List Nat))
 | [],_,s,h=>some (s,h,[],[])
 | o::r,k,s,h=>match tL P tb an n base ops k o s h with
  | some (x,u,c)=>match aDt P tb an n base ops r (k+1) (dX s o.dst x) (apply u h)with
   | some (s',h',cs,fw)=>some (s',h',c::cs,(lF h o.op (fS s o.op),u.map (·.1))::fw)
   | none=>none
  | none=>none
def aFi(ops:Array Oper)(F W:Nat→List Nat)(A:List Nat)(listed:Array Bool)(i:Nat):Bool :=
 match ops[i]? with
 | none=>false
 | some oi=>(List.range ops.size).all fun j=>j == i || listed.getD j true || match ops[j]? with
   | some oj=>(A.getD j 0).testBit i || C8 ops F W i j oi oj
   | none=>true
def aF0(ops:Array Oper)(F W:Nat→List Nat)(A:List Nat):Nat→Nat→Array Bool→Bool
 | 0,_,listed=>(Region.ready .any ops listed).isEmpty
 | fuel+1,k,listed=>(Region.ready .any ops listed).contains k && aFi ops F W A listed k && aF0 ops F W A fuel (k+1) (listed.setIfInBounds k true)
theorem V3{A:List Nat}{i:Nat}{oi:Oper}{listed:Array Bool}(hi:ops[i]? = some oi)(h:aFi ops F W A listed i=true)(j:Nat)(oj:Oper)
  (hj:ops[j]? = some oj) (hne:j≠i) (hun:listed.getD j true=false) (hno:(A.getD j 0).testBit i=false):C8 ops F W i j oi oj=true:=by
 simp only[aFi,hi,List.all_eq_true,List.mem_range]at h
 have h1:=h j (Array.getElem?_eq_some_iff.1 hj).1
 simp only[hj,Bool.or_eq_true,beq_iff_eq,hne,false_or,hun,hno,Bool.false_eq_true]at h1
 exact h1
theorem aCV{Q:(Nat→AVal)→(Nat→Option Obj)→Prop}:∀(l:List Oper) (k:Nat) (listed:Array Bool) {s s':Nat→AVal} {h h':Nat→Option Obj} {cs:List Prop} {fw:List (List Nat×List Nat)},(∀j,l[j]? = ops[k+j]?) →
  (∀j,fw[j]?.map (·.1)=(if j<l.length then some (F (k+j))else none))→(∀j,fw[j]?.map (·.2)=(if j<l.length then some (W (k+j))else none)) →
  Closed ops listed→aF0 ops F W (vU ops) l.length k listed=true→aDt P tb an n base ops l k s h=some (s',h',cs,fw)→tA cs→Q s' h'→aFO P tb an n base ops F W Q l.length listed s h
 | [],_,listed,s,s',h,h',cs,fw,_,_,_,_,hB,hr,_,hq=>by
  cases hr
  exact⟨by simpa [aF0]using hB,hq⟩
 | o::l,k,listed,s,s',h,h',cs,fw,hl,hF,hW,hcl,hB,hr,hc,hq=>by
  have h0:ops[k]? = some o:=by simpa using(hl 0).symm
  simp only[List.length_cons,aF0,Bool.and_eq_true]at hB
  obtain⟨⟨hr1,hf⟩,hB'⟩:=hB
  simp only[aDt]at hr
  split at hr
  ·rename_i x u c hx
   split at hr
   ·rename_i s2 h2 cs2 fw2 hr2
    cases hr
    have e1:=hF 0
    have e2:=hW 0
    simp at e1 e2
    have hst:StepA P tb an n base ops F W k s h (dX s o.dst x) (apply u h):=⟨o,x,u,c,h0,hx,hc.1,fun j hj=>by rw[←e1];exact hj,fun p hp=>by rw[←e2];exact List.mem_map.2 ⟨p,hp,rfl⟩,rfl,rfl⟩
    have hrk:k∈Region.ready .any ops listed:=by simpa using hr1
    refine U0 h0 l.length listed hcl (V3 h0 hf) hrk hst ?_
    refine aCV l (k+1) _ (fun j=>by have:=hl (j+1);simpa [Nat.add_assoc,Nat.add_comm 1 j]using this) (fun j=> ?_) (fun j=> ?_) (hcl.add hrk) hB' hr2 hc.2 hq
    ·have:=hF (j+1)
     simpa [Nat.add_assoc,Nat.add_comm 1 j]using this
    ·have:=hW (j+1)
     simpa [Nat.add_assoc,Nat.add_comm 1 j]using this
   ·cases hr
  ·cases hr
theorem wH(htb:TabOK P tb){QA:(Nat→AVal)→(Nat→Option Obj)→Prop}{Q:Exit→Act→World→Prop}
  (hQ:∀s h a w,QA s h→Mid n base Bw w0 (fun i=>i<ops.size) s h a w→Q .normal a w):∀(fuel:Nat) (listed:Array Bool) {s:Nat→AVal} {h:Nat→Option Obj} {a:Act} {w:World},listed.size=ops.size →
  Mid n base Bw w0 (fun i=>listed.getD i false=true) s h a w→aFO P tb an n base ops F W QA fuel listed s h→wpAny P .any ops Q fuel listed a w
 | 0,listed,s,h,a,w,hsz,hm,H=>by
  refine⟨H.1,hQ s h a w H.2 ?_⟩
  obtain⟨ρ,φ,q1,q2,q3⟩:=hm.ex
  refine⟨ρ,φ,q1,q2,fun id u hu=>(q3 id u hu).imp (fun h=>h) fun⟨i,j,h1,h2⟩=>⟨i,j,?_,h2⟩⟩
  rcases Nat.lt_or_ge i listed.size with h' | h'
  ·omega
  ·simp[Array.getElem?_eq_none h']at h1
 | fuel+1,listed,s,h,a,w,hsz,hm,H=>by
  refine⟨fun e=>hQ s h a w (H.1 e) ?_,fun i hi=> ?_⟩
  ·obtain⟨ρ,φ,q1,q2,q3⟩:=hm.ex
   refine⟨ρ,φ,q1,q2,fun id u hu=>(q3 id u hu).imp (fun h=>h) fun⟨i,j,h1,h2⟩=>⟨i,j,?_,h2⟩⟩
   rcases Nat.lt_or_ge i listed.size with h' | h'
   ·omega
   ·simp[Array.getElem?_eq_none h']at h1
  ·obtain⟨s',h',hst,H'⟩:=H.2 i hi
   obtain⟨o,x,u,c,e1,e2,e3,e4,e5,rfl,rfl⟩:=hst.ex
   obtain⟨hun,_⟩:=mem_ready.1 hi
   have hlt:i<listed.size:=by rw[hsz];exact(Array.getElem?_eq_some_iff.1 e1).1
   have hnd:¬(listed.getD i false=true):=fun e=>by
    simp[hlt]at hun e
    rw[hun]at e;cases e
   refine kU htb hm e1 hnd e2 e3 fun a' w' hm'=>wH htb hQ fuel _ (by simpa using hsz) ?_ H'
   obtain⟨ρ,φ,q1,q2,q3⟩:=hm'.ex
   refine⟨ρ,φ,q1,q2,fun id v hv=>(q3 id v hv).imp (fun h=>h) fun⟨j,j',h1,h2⟩=>⟨j,j',?_,h2⟩⟩
   rcases h1 with h1 | rfl
   ·exact getD_set_true h1
   ·simp[hlt]
end
end Go.Tv
