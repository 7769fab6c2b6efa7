/- A region that draws its order: the text's order serves all. -/
import Derived.Test.YtbedjpdfkmfplaaGreatDoorTvN
namespace Go.Tv
open Go Go.RowKit
def aBD(a b:List Nat):Bool:=a.all fun x=> !b.contains x
theorem wI{a b:List Nat}(h:aBD a b=true){x:Nat}(ha:x∈a):x ∉ b:=fun hb=>by
 have:=List.all_eq_true.1 h x ha
 simp[hb]at this
theorem gY{u:jJ}{k:Nat}(hk:∀p∈u,p.1≠k){h:Nat→Option Obj}:apply u h k=h k:=by
 induction u generalizing h with
 | nil=>rfl
 | cons p u ih =>
  obtain⟨i,o⟩:=p
  simp only[apply]
  rw[ih (fun q hq=>hk q (by simp[hq])),aP _ _ (Ne.symm (hk (i,o) (by simp)))]
theorem aHl{u:jJ}{k:Nat}(hk:∃p∈u,p.1=k){h h':Nat→Option Obj}:apply u h k=apply u h' k:=by
 induction u generalizing h h' with
 | nil=>obtain⟨p,hp,_⟩:=hk;simp at hp
 | cons p u ih =>
  obtain⟨i,o⟩:=p
  simp only[apply]
  by_cases hq:∃q∈u,q.1=k
  ·exact ih hq
  ·have hq':∀q∈u,q.1≠k:=fun q h1 h2=>hq ⟨q,h1,h2⟩
   rw[gY hq',gY hq']
   obtain⟨q,h1,h2⟩:=hk
   rcases List.mem_cons.1 h1 with rfl | h1
   ·subst h2;rw[aI,aI]
   ·exact absurd h2 (hq' q h1)
theorem aEs{u v:jJ}{A B:List Nat}(hu:∀p∈u,p.1∈A)(hv:∀p∈v,p.1∈B)(hd:aBD A B=true){h:Nat→Option Obj}:apply u (apply v h)=apply v (apply u h):=by
 funext k
 by_cases hk:∃p∈u,p.1=k
 ·have hv':∀p∈v,p.1≠k:=fun p hp e=>by
   obtain⟨q,hq,e'⟩:=hk
   exact wI hd (hu q hq) (by rw[e',←e];exact hv p hp)
  rw[gY hv' (h:=apply u h)]
  exact aHl hk
 ·have hu':∀p∈u,p.1≠k:=fun p hp e=>hk ⟨p,hp,e⟩
  rw[gY hu']
  exact(iB (gY hu') v).symm
section
variable{P:Program}{tb:Tab}{an:An}{n:NS}{base:Nat}{ops:Array Oper}{Bw:Nat→Prop}{w0:Base P}{F W:Nat→List Nat}
theorem X2{s s':Nat→AVal}{o:Oper}(hs:∀t∈o.looksAt ops,s t=s' t):∀x∈o.op.operands.toList,ev s x=ev s' x:=fun x hx=>by
 cases x with
 | tmp t =>
  refine hs t (List.mem_append_left _ (List.mem_filterMap.2 ⟨_,hx,rfl⟩))
 | const v=>rfl
 | global g=>rfl
 | func f=>rfl
theorem xD{s s':Nat→AVal}{o:Oper}(hs:∀t∈o.looksAt ops,s t=s' t){g:Nat×Bool}(hg:o.guard=some g):rX an n ops g s=rX an n ops g s':=by
 unfold rX
 split
 ·rename_i d hd
  rw[hs d (List.mem_append_right _ (by simp[hg,hd]))]
 ·rfl
theorem I5{s s':Nat→AVal}{h h':Nat→Option Obj}{i:Nat}{o:Oper}(hs:∀t∈o.looksAt ops,s t=s' t)(hh:∀i∈lC h o.op (fW s o.op),h i=h' i):
  tH P tb an n base ops i o s h=tH P tb an n base ops i o s' h':=by
 unfold tH
 rw[aA8 (X2 hs) hh]
 split
 ·split
  ·rfl
  ·rename_i g hg
   rw[xD hs hg]
 ·rfl
theorem qS{s s':Nat→AVal}{o:Oper}(hs:∀t∈o.looksAt ops,s t=s' t):fW s o.op=fW s' o.op:=List.map_congr_left (X2 hs)
theorem aEf{h h':Nat→Option Obj}{xs:List AVal}(hh:∀i∈W9 h xs,h i=h' i):W9 h xs=W9 h' xs:=by
 unfold W9
 congr 1
 have:∀i∈bP xs,h i=h' i:=fun i hi=>hh i (List.mem_append_left _ hi)
 revert this
 generalize bP xs=l
 intro hl
 induction l with
 | nil=>rfl
 | cons a l ih=>rw[List.flatMap_cons,List.flatMap_cons,hl a (by simp),ih (fun i hi=>hl i (by simp[hi]))]
theorem aCV{h h':Nat→Option Obj}{xs:List AVal}(hh:∀i∈U6 h xs,h i=h' i):U6 h xs=U6 h' xs:=by
 unfold U6
 congr 1
 have:∀i∈bP xs,h i=h' i:=fun i hi=>hh i (List.mem_append_left _ hi)
 revert this
 generalize bP xs=l
 intro hl
 induction l with
 | nil=>rfl
 | cons a l ih=>rw[List.flatMap_cons,List.flatMap_cons,hl a (by simp),ih (fun i hi=>hl i (by simp[hi]))]
theorem vH{h h':Nat→Option Obj}{op:Op}{xs:List AVal}(hh:∀i∈lC h op xs,h i=h' i):lC h op xs=lC h' op xs:=by
 cases op <;> first | rfl | exact aEf hh | exact aCV hh
structure StepA(P:Program)(tb:Tab)(an:An)(n:NS)(base:Nat)(ops:Array Oper)(F W:Nat→List Nat)(i:Nat)(s:Nat→AVal)(h:Nat→Option Obj)(s':Nat→AVal)(h':Nat→Option Obj):Prop where
 ex:∃o x u c,ops[i]? = some o∧tH P tb an n base ops i o s h=some (x,u,c)∧c∧(∀j∈lC h o.op (fW s o.op),j∈F i)∧(∀p∈u,p.1∈W i)∧s'=eJ s o.dst x∧h'=apply u h
theorem R8{s:Nat→AVal}{d:Option Nat}{x:AVal}{t:Nat}(h:∀k,d=some k→k≠t):eJ s d x t=s t:=by
 cases d with
 | none=>rfl
 | some d=>exact aP _ _ (Ne.symm (h d rfl))
theorem aF6{s:Nat→AVal}{d e:Option Nat}{x y:AVal}(h:∀k,d=some k→e≠some k):eJ (eJ s d x) e y=eJ (eJ s e y) d x:=by
 cases d with
 | none=>rfl
 | some d =>
  cases e with
  | none=>rfl
  | some e =>
   have hne:e≠d:=fun q=>h d rfl (by rw[q])
   funext k
   simp only[eJ,upd]
   by_cases h1:k=e <;> by_cases h2:k=d <;> simp_all
theorem W1{i j:Nat}{oi oj:Oper}(hi:ops[i]? = some oi)(hj:ops[j]? = some oj)(hap:oi.apart ops oj=true)(h1:aBD (W i) (F j)=true)(h2:aBD (W j) (F i)=true)(h3:aBD (W i) (W j)=true)
  {s si sij:Nat→AVal} {h hi' hij:Nat→Option Obj} (a1:StepA P tb an n base ops F W i s h si hi') (a2:StepA P tb an n base ops F W j si hi' sij hij) :
  ∃sj hj',StepA P tb an n base ops F W j s h sj hj'∧StepA P tb an n base ops F W i sj hj' sij hij:=by
 obtain⟨o,x,u,c,e1,e2,e3,e4,e5,rfl,rfl⟩:=a1.ex
 obtain⟨o',y,v,c',f1,f2,f3,f4,f5,rfl,rfl⟩:=a2.ex
 rw[hi]at e1;cases e1
 rw[hj]at f1;cases f1
 obtain⟨p1,p2,p3⟩:=Oper.apart_spec hap
 have hs1:∀t∈oj.looksAt ops,eJ s oi.dst x t=s t:=fun t ht=>R8 fun k hk e=>by subst e;exact p1 k hk ht
 have hh1:∀k∈lC (apply u h) oj.op (fW (eJ s oi.dst x) oj.op),apply u h k=h k:=fun k hk=>gY fun p hp e=>wI h1 (e5 p hp) (by rw[e];exact f4 k hk)
 have g2:=I5 (P:=P) (tb:=tb) (an:=an) (n:=n) (base:=base) (i:=j) hs1 hh1
 rw[f2]at g2
 have hv1:=qS hs1
 have hf1:=vH hh1
 have hs2:∀t∈oi.looksAt ops,s t=eJ s oj.dst y t:=fun t ht=>(R8 fun k hk e=>by subst e;exact p3 k hk ht).symm
 have hh2:∀k∈lC h oi.op (fW s oi.op),h k=apply v h k:=fun k hk=>(gY fun p hp e=>wI h2 (f5 p hp) (by rw[e];exact e4 k hk)).symm
 have g3:=I5 (P:=P) (tb:=tb) (an:=an) (n:=n) (base:=base) (i:=i) hs2 hh2
 rw[e2]at g3
 refine⟨eJ s oj.dst y,apply v h,⟨oj,y,v,c',hj,g2.symm,f3,fun k hk=>f4 k ?_,f5,rfl,rfl⟩,⟨oi,x,u,c,hi,g3.symm,e3,fun k hk=>e4 k ?_,e5,?_,?_⟩⟩
 ·rw[hf1,hv1];exact hk
 ·rw[vH hh2,qS hs2];exact hk
 ·exact aF6 p2
 ·exact(aEs e5 f5 h3).symm
def aFP(P:Program)(tb:Tab)(an:An)(n:NS)(base:Nat)(ops:Array Oper)(F W:Nat→List Nat)(Q:(Nat→AVal)→(Nat→Option Obj)→Prop):Nat→Array Bool→(Nat→AVal)→(Nat→Option Obj)→Prop
 | 0,listed,s,h=>Region.ready .any ops listed=[]∧Q s h
 | fuel+1,listed,s,h=>(Region.ready .any ops listed=[]→Q s h) ∧
  ∀i∈Region.ready .any ops listed,∃s' h',StepA P tb an n base ops F W i s h s' h'∧aFP P tb an n base ops F W Q fuel (listed.setIfInBounds i true) s' h'
def E6(ops:Array Oper)(F W:Nat→List Nat)(i j:Nat)(oi oj:Oper):Bool:=oi.apart ops oj && aBD (W i) (F j) && aBD (W j) (F i) && aBD (W i) (W j)
def mN(m:List Nat)(o:Oper):Nat:=o.after.toList.foldl (fun a e=>if Region.binds .any e then a ||| 2 ^ e.on ||| m.getD e.on 0 else a) 0
def H4(m:List Nat):List Oper→List Nat
 | []=>m
 | o::r=>H4 (m++[mN m o]) r
def wQ(ops:Array Oper):List Nat:=H4 [] ops.toList
theorem aD5{m:List Nat}{o:Oper}{i:Nat}(h:(mN m o).testBit i=true):∃e∈o.after.toList,Region.binds .any e=true∧(e.on=i∨(m.getD e.on 0).testBit i=true):=by
 have key:∀(l:List Edge) (a:Nat),(l.foldl (fun a e=>if Region.binds .any e then a ||| 2 ^ e.on ||| m.getD e.on 0 else a) a).testBit i=true →
   a.testBit i=true∨∃e∈l,Region.binds .any e=true∧(e.on=i∨(m.getD e.on 0).testBit i=true):=fun l=>by
  induction l with
  | nil=>intro a h;exact .inl h
  | cons e l ih =>
   intro a h
   rw[List.foldl_cons]at h
   rcases ih _ h with h1 | ⟨e',h1,h2⟩
   ·split at h1
    ·rename_i hb
     rw[Nat.testBit_or,Nat.testBit_or,Bool.or_eq_true,Bool.or_eq_true]at h1
     rcases h1 with(h1 | h1) | h1
     ·exact .inl h1
     ·exact .inr ⟨e,by simp,hb,.inl (by rw[Nat.testBit_two_pow]at h1;simpa using h1)⟩
     ·exact .inr ⟨e,by simp,hb,.inr h1⟩
    ·exact .inl h1
   ·exact .inr ⟨e',by simp[h1],h2⟩
 rcases key _ _ h with h1 | h1
 ·simp at h1
 ·exact h1
theorem aAV:∀(r:List Oper) (m:List Nat),∃l,H4 m r=m++l
 | [],m=>⟨[],by simp[H4]⟩
 | o::r,m=>by
  obtain⟨l,h⟩:=aAV r (m++[mN m o])
  exact⟨mN m o::l,by simp only[H4];rw[h];simp⟩
theorem aDK:∀(r:List Oper) (m:List Nat) (k:Nat) (o:Oper),r[k]? = some o→∃m' l,H4 m r=m'++[mN m' o]++l∧m'.length=m.length+k
 | [],m,k,o,h=>by simp at h
 | o::r,m,0,o',h=>by
  simp at h
  subst h
  obtain⟨l,h⟩:=aAV r (m++[mN m o])
  exact⟨m,l,by simp only[H4];exact h,by simp⟩
 | o::r,m,k+1,o',h=>by
  obtain⟨m',l,h1,h2⟩:=aDK r (m++[mN m o]) k o' (by simpa using h)
  exact⟨m',l,by simp only[H4];exact h1,by simp at h2;omega⟩
theorem aG6{j i:Nat}{oj:Oper}(hj:ops[j]? = some oj)(h:((wQ ops).getD j 0).testBit i=true):∃e∈oj.after.toList,Region.binds .any e=true∧(e.on=i∨e.on<j∧((wQ ops).getD e.on 0).testBit i=true):=by
 obtain⟨m',l,h1,h2⟩:=aDK ops.toList [] j oj (by simpa using hj)
 simp only[List.length_nil,Nat.zero_add]at h2
 have e1:wQ ops=m'++[mN m' oj]++l:=h1
 have e2:(wQ ops).getD j 0=mN m' oj:=by
  rw[e1,List.getD_eq_getElem?_getD,List.append_assoc,List.getElem?_append_right (by omega)]
  simp[h2]
 rw[e2]at h
 obtain⟨e,q1,q2,q3⟩:=aD5 h
 refine⟨e,q1,q2,q3.imp (fun h=>h) fun q3=> ?_⟩
 rcases Nat.lt_or_ge e.on j with h3 | h3
 ·refine⟨h3,?_⟩
  rw[e1,List.append_assoc,List.getD_eq_getElem?_getD,List.getElem?_append_left (by omega),←List.getD_eq_getElem?_getD]
  exact q3
 ·rw[List.getD_eq_getElem?_getD,List.getElem?_eq_none (by omega)]at q3
  simp at q3
def Closed(ops:Array Oper)(listed:Array Bool):Prop:=∀(k:Nat) (o:Oper),ops[k]? = some o→listed.getD k false=true→∀e∈o.after,Region.binds .any e=true→listed.getD e.on false=true
theorem yK{listed:Array Bool}(hc:Closed ops listed){i:Nat}:∀(n j:Nat) (oj:Oper),j<n→ops[j]? = some oj→(∀e∈oj.after,Region.binds .any e=true→listed.getD e.on false=true) →
  ((wQ ops).getD j 0).testBit i=true→listed.getD i false=true
 | 0,_,_,h,_,_,_=>absurd h (by omega)
 | n+1,j,oj,hn,hj,hd,hb=>by
  obtain⟨e,q1,q2,q3⟩:=aG6 hj hb
  have hl:=hd e (by simpa using q1) q2
  rcases q3 with rfl | ⟨q3,q4⟩
  ·exact hl
  ·have hlt:e.on<ops.size:=by have:=(Array.getElem?_eq_some_iff.1 hj).1;omega
   have ho:ops[e.on]? = some ops[e.on]:=Array.getElem?_eq_getElem hlt
   exact yK hc n e.on _ (by omega) ho (hc _ _ ho hl) q4
theorem Closed.add{listed:Array Bool}(hc:Closed ops listed){j:Nat}(hj:j∈Region.ready .any ops listed):Closed ops (listed.setIfInBounds j true):=fun k o hk hl e he hb=>by
 obtain⟨_,oj,hoj,hall⟩:=mem_ready.1 hj
 by_cases h:j=k
 ·subst h
  rw[hoj]at hk
  cases hk
  exact getD_set_true (hall e he hb)
 ·rw[getD_set_ne false h]at hl
  exact getD_set_true (hc k o hk hl e he hb)
theorem T8{Q:(Nat→AVal)→(Nat→Option Obj)→Prop}{i:Nat}{oi:Oper}(hi:ops[i]? = some oi):∀(fuel:Nat) (listed:Array Bool) {s si:Nat→AVal} {h hi':Nat→Option Obj},
  Closed ops listed→(∀j oj,ops[j]? = some oj→j≠i→listed.getD j true=false→((wQ ops).getD j 0).testBit i=false→E6 ops F W i j oi oj=true) →
  i∈Region.ready .any ops listed→StepA P tb an n base ops F W i s h si hi'→aFP P tb an n base ops F W Q fuel (listed.setIfInBounds i true) si hi'→aFP P tb an n base ops F W Q (fuel+1) listed s h
 | 0,listed,s,si,h,hi',_,_,hr,hst,H=>by
  refine⟨fun e=>(by rw[e]at hr;cases hr),fun j hj=> ?_⟩
  by_cases hji:j=i
  ·subst hji;exact⟨si,hi',hst,H⟩
  ·have:=ready_mono hj hji
   rw[H.1]at this
   cases this
 | fuel+1,listed,s,si,h,hi',hcl,hfree,hr,hst,H=>by
  refine⟨fun e=>(by rw[e]at hr;cases hr),fun j hj=> ?_⟩
  by_cases hji:j=i
  ·subst hji;exact⟨si,hi',hst,H⟩
  ·obtain⟨sij,hij,a2,H2⟩:=H.2 j (ready_mono hj hji)
   obtain⟨hjun,oj,hoj,hall⟩:=mem_ready.1 hj
   have hnot:((wQ ops).getD j 0).testBit i=false:=by
    cases hb:((wQ ops).getD j 0).testBit i with
    | false=>rfl
    | true =>
     have h1:=yK hcl (j+1) j oj (by omega) hoj hall hb
     have h0:=(mem_ready.1 hr).1
     rcases Nat.lt_or_ge i listed.size with h' | h'
     ·simp[h']at h0 h1;rw[h0]at h1;cases h1
     ·simp[Array.getElem?_eq_none h']at h1
   have hok:=hfree j oj hoj hji hjun hnot
   simp only[E6,Bool.and_eq_true]at hok
   obtain⟨sj,hj',b1,b2⟩:=W1 hi hoj hok.1.1.1 hok.1.1.2 hok.1.2 hok.2 hst a2
   refine⟨sj,hj',b1,T8 hi fuel (listed.setIfInBounds j true) (hcl.add hj) (fun k ok hk hki hun hno=> ?_) (ready_mono hr (Ne.symm hji)) b2 ?_⟩
   ·refine hfree k ok hk hki ?_ hno
    by_cases hjk:j=k
    ·subst hjk;exact hjun
    ·rw[getD_set_ne true hjk]at hun;exact hun
   ·rw[Array.setIfInBounds_comm _ _ hji]
    exact H2
def aDf(P:Program)(tb:Tab)(an:An)(n:NS)(base:Nat)(ops:Array Oper):List Oper→Nat→(Nat→AVal)→(Nat→Option Obj)→Option ((Nat→AVal)×(Nat→Option Obj)×List Prop×List (List Nat×List Nat))
 | [],_,s,h=>some (s,h,[],[])
 | o::r,k,s,h=>match tH P tb an n base ops k o s h with
  | some (x,u,c)=>match aDf P tb an n base ops r (k+1) (eJ s o.dst x) (apply u h)with
   | some (s',h',cs,fw)=>some (s',h',c::cs,(lC h o.op (fW s o.op),u.map (·.1))::fw)
   | none=>none
  | none=>none
def aFH(ops:Array Oper)(F W:Nat→List Nat)(A:List Nat)(listed:Array Bool)(i:Nat):Bool :=
 match ops[i]? with
 | none=>false
 | some oi=>(List.range ops.size).all fun j=>j == i || listed.getD j true || match ops[j]? with
   | some oj=>(A.getD j 0).testBit i || E6 ops F W i j oi oj
   | none=>true
def aGx(ops:Array Oper)(F W:Nat→List Nat)(A:List Nat):Nat→Nat→Array Bool→Bool
 | 0,_,listed=>(Region.ready .any ops listed).isEmpty
 | fuel+1,k,listed=>(Region.ready .any ops listed).contains k && aFH ops F W A listed k && aGx ops F W A fuel (k+1) (listed.setIfInBounds k true)
theorem S7{A:List Nat}{i:Nat}{oi:Oper}{listed:Array Bool}(hi:ops[i]? = some oi)(h:aFH ops F W A listed i=true)(j:Nat)(oj:Oper)
  (hj:ops[j]? = some oj) (hne:j≠i) (hun:listed.getD j true=false) (hno:(A.getD j 0).testBit i=false):E6 ops F W i j oi oj=true:=by
 simp only[aFH,hi,List.all_eq_true,List.mem_range]at h
 have h1:=h j (Array.getElem?_eq_some_iff.1 hj).1
 simp only[hj,Bool.or_eq_true,beq_iff_eq,hne,false_or,hun,hno,Bool.false_eq_true]at h1
 exact h1
theorem aDC{Q:(Nat→AVal)→(Nat→Option Obj)→Prop}:∀(l:List Oper) (k:Nat) (listed:Array Bool) {s s':Nat→AVal} {h h':Nat→Option Obj} {cs:List Prop} {fw:List (List Nat×List Nat)},(∀j,l[j]? = ops[k+j]?) →
  (∀j,fw[j]?.map (·.1)=(if j<l.length then some (F (k+j))else none))→(∀j,fw[j]?.map (·.2)=(if j<l.length then some (W (k+j))else none)) →
  Closed ops listed→aGx ops F W (wQ ops) l.length k listed=true→aDf P tb an n base ops l k s h=some (s',h',cs,fw)→u5 cs→Q s' h'→aFP P tb an n base ops F W Q l.length listed s h
 | [],_,listed,s,s',h,h',cs,fw,_,_,_,_,hB,hr,_,hq=>by
  cases hr
  exact⟨by simpa [aGx]using hB,hq⟩
 | o::l,k,listed,s,s',h,h',cs,fw,hl,hF,hW,hcl,hB,hr,hc,hq=>by
  have h0:ops[k]? = some o:=by simpa using(hl 0).symm
  simp only[List.length_cons,aGx,Bool.and_eq_true]at hB
  obtain⟨⟨hr1,hf⟩,hB'⟩:=hB
  simp only[aDf]at hr
  split at hr
  ·rename_i x u c hx
   split at hr
   ·rename_i s2 h2 cs2 fw2 hr2
    cases hr
    have e1:=hF 0
    have e2:=hW 0
    simp at e1 e2
    have hst:StepA P tb an n base ops F W k s h (eJ s o.dst x) (apply u h):=⟨o,x,u,c,h0,hx,hc.1,fun j hj=>by rw[←e1];exact hj,fun p hp=>by rw[←e2];exact List.mem_map.2 ⟨p,hp,rfl⟩,rfl,rfl⟩
    have hrk:k∈Region.ready .any ops listed:=by simpa using hr1
    refine T8 h0 l.length listed hcl (S7 h0 hf) hrk hst ?_
    refine aDC l (k+1) _ (fun j=>by have:=hl (j+1);simpa [Nat.add_assoc,Nat.add_comm 1 j]using this) (fun j=> ?_) (fun j=> ?_) (hcl.add hrk) hB' hr2 hc.2 hq
    ·have:=hF (j+1)
     simpa [Nat.add_assoc,Nat.add_comm 1 j]using this
    ·have:=hW (j+1)
     simpa [Nat.add_assoc,Nat.add_comm 1 j]using this
   ·cases hr
  ·cases hr
theorem wT(htb:TabOK P tb){QA:(Nat→AVal)→(Nat→Option Obj)→Prop}{Q:Exit→Act→World→Prop}
  (hQ:∀s h a w,QA s h→Mid n base Bw w0 (fun i=>i<ops.size) s h a w→Q .normal a w):∀(fuel:Nat) (listed:Array Bool) {s:Nat→AVal} {h:Nat→Option Obj} {a:Act} {w:World},listed.size=ops.size →
  Mid n base Bw w0 (fun i=>listed.getD i false=true) s h a w→aFP P tb an n base ops F W QA fuel listed s h→wpAny P .any ops Q fuel listed a w
 | 0,listed,s,h,a,w,hsz,hm,H=>by
  refine⟨H.1,hQ s h a w H.2 ?_⟩
  obtain⟨ρ,φ,q1,q2,q3⟩:=hm.ex
  refine⟨ρ,φ,q1,q2,fun id u hu=>(q3 id u hu).imp (fun h=>h) fun⟨i,j,h1,h2⟩=>⟨i,j,?_,h2⟩⟩
  rcases Nat.lt_or_ge i listed.size with h' | h'
  ·omega
  ·simp[Array.getElem?_eq_none h']at h1
 | fuel+1,listed,s,h,a,w,hsz,hm,H=>by
  refine⟨fun e=>hQ s h a w (H.1 e) ?_,fun i hi=> ?_⟩
  ·obtain⟨ρ,φ,q1,q2,q3⟩:=hm.ex
   refine⟨ρ,φ,q1,q2,fun id u hu=>(q3 id u hu).imp (fun h=>h) fun⟨i,j,h1,h2⟩=>⟨i,j,?_,h2⟩⟩
   rcases Nat.lt_or_ge i listed.size with h' | h'
   ·omega
   ·simp[Array.getElem?_eq_none h']at h1
  ·obtain⟨s',h',hst,H'⟩:=H.2 i hi
   obtain⟨o,x,u,c,e1,e2,e3,e4,e5,rfl,rfl⟩:=hst.ex
   obtain⟨hun,_⟩:=mem_ready.1 hi
   have hlt:i<listed.size:=by rw[hsz];exact(Array.getElem?_eq_some_iff.1 e1).1
   have hnd:¬(listed.getD i false=true):=fun e=>by
    simp[hlt]at hun e
    rw[hun]at e;cases e
   refine lK htb hm e1 hnd e2 e3 fun a' w' hm'=>wT htb hQ fuel _ (by simpa using hsz) ?_ H'
   obtain⟨ρ,φ,q1,q2,q3⟩:=hm'.ex
   refine⟨ρ,φ,q1,q2,fun id v hv=>(q3 id v hv).imp (fun h=>h) fun⟨j,j',h1,h2⟩=>⟨j,j',?_,h2⟩⟩
   rcases h1 with h1 | rfl
   ·exact getD_set_true h1
   ·simp[hlt]
end
end Go.Tv
