/- A region that draws its order: by a tree of orders; an operation of it may die. -/
import Derived.Test.YtflahpmlcfhpcaaGreatDoorTvS
namespace Go.Tv
open Go Go.RowKit
section
variable{P:Program}{tb:Tab}{an:An}{n:NS}{base:Nat}{ops:Array Oper}{Bw:Nat→Prop}{w0:Base P}{F W:Nat→List Nat}
theorem aAb{s s':Nat→AVal}{h h':Nat→Option Obj}{i:Nat}{o:Oper}(hs:∀t∈o.looksAt ops,s t=s' t)(hh:∀i∈i9 h o.op (eD s o.op),h i=h' i):
  K9 P tb an n base ops i o s h=K9 P tb an n base ops i o s' h':=by
 unfold K9
 rw[E1 (xD hs) hh]
 split
 ·split
  ·rfl
  ·rename_i g hg
   rw[rJ hs hg]
 ·rfl
structure DieA(P:Program)(tb:Tab)(an:An)(n:NS)(base:Nat)(ops:Array Oper)(F:Nat→List Nat)(QP:Value→Prop)(i:Nat)(s:Nat→AVal)(h:Nat→Option Obj):Prop where
 ex:∃o u y c,ops[i]? = some o∧K9 P tb an n base ops i o s h=some (u,y,c)∧c∧(∀j∈i9 h o.op (eD s o.op),j∈F i)∧QP y
def aCj(P:Program)(tb:Tab)(an:An)(n:NS)(base:Nat)(ops:Array Oper)(F W:Nat→List Nat)(Q:(Nat→AVal)→(Nat→Option Obj)→Prop)(QP:Value→Prop):Nat→Array Bool→(Nat→AVal)→(Nat→Option Obj)→Prop
 | 0,listed,s,h=>Region.ready .any ops listed=[]∧Q s h
 | fuel+1,listed,s,h=>(Region.ready .any ops listed=[]→Q s h) ∧
  ∀i∈Region.ready .any ops listed,(∃s' h',StepA P tb an n base ops F W i s h s' h'∧aCj P tb an n base ops F W Q QP fuel (listed.setIfInBounds i true) s' h')∨DieA P tb an n base ops F QP i s h
theorem aA2{QP:Value→Prop}{i j:Nat}{oi oj:Oper}(hi:ops[i]? = some oi)(hj:ops[j]? = some oj)(hap:oi.apart ops oj=true)(h1:H5 (W i) (F j)=true)
  {s si:Nat→AVal} {h hi':Nat→Option Obj} (a1:StepA P tb an n base ops F W i s h si hi') (a2:DieA P tb an n base ops F QP j si hi'):DieA P tb an n base ops F QP j s h:=by
 obtain⟨o,x,u,c,e1,e2,e3,e4,e5,rfl,rfl⟩:=a1.ex
 obtain⟨o',v,y,c',f1,f2,f3,f4,f5⟩:=a2.ex
 rw[hi]at e1;cases e1
 rw[hj]at f1;cases f1
 obtain⟨p1,p2,p3⟩:=Oper.apart_spec hap
 have hs1:∀t∈oj.looksAt ops,jM s oi.dst x t=s t:=fun t ht=>yX fun k hk e=>by subst e;exact p1 k hk ht
 have hh1:∀k∈i9 (apply u h) oj.op (eD (jM s oi.dst x) oj.op),apply u h k=h k:=fun k hk=>eY fun p hp e=>qK h1 (e5 p hp) (by rw[e];exact f4 k hk)
 have g2:=aAb (P:=P) (tb:=tb) (an:=an) (n:=n) (base:=base) (i:=j) hs1 hh1
 rw[f2]at g2
 have hv1:=m8 hs1
 have hf1:=o7 hh1
 exact⟨oj,v,y,c',hj,g2.symm,f3,fun k hk=>f4 k (by rw[hf1,hv1];exact hk),f5⟩
theorem zO{Q:(Nat→AVal)→(Nat→Option Obj)→Prop}{QP:Value→Prop}{i:Nat}{oi:Oper}(hi:ops[i]? = some oi):∀(fuel:Nat) (listed:Array Bool) {s si:Nat→AVal} {h hi':Nat→Option Obj},
  Closed ops listed→(∀j oj,ops[j]? = some oj→j≠i→listed.getD j true=false→((qU ops).getD j 0).testBit i=false→u9 ops F W i j oi oj=true) →
  i∈Region.ready .any ops listed→StepA P tb an n base ops F W i s h si hi'→aCj P tb an n base ops F W Q QP fuel (listed.setIfInBounds i true) si hi'→aCj P tb an n base ops F W Q QP (fuel+1) listed s h
 | 0,listed,s,si,h,hi',_,_,hr,hst,H=>by
  refine⟨fun e=>(by rw[e]at hr;cases hr),fun j hj=> ?_⟩
  by_cases hji:j=i
  ·subst hji;exact .inl ⟨si,hi',hst,H⟩
  ·have:=ready_mono hj hji
   rw[H.1]at this
   cases this
 | fuel+1,listed,s,si,h,hi',hcl,hfree,hr,hst,H=>by
  refine⟨fun e=>(by rw[e]at hr;cases hr),fun j hj=> ?_⟩
  by_cases hji:j=i
  ·subst hji;exact .inl ⟨si,hi',hst,H⟩
  ·obtain⟨hjun,oj,hoj,hall⟩:=mem_ready.1 hj
   have hnot:((qU ops).getD j 0).testBit i=false:=by
    cases hb:((qU ops).getD j 0).testBit i with
    | false=>rfl
    | true =>
     have h1:=sP hcl (j+1) j oj (by omega) hoj hall hb
     have h0:=(mem_ready.1 hr).1
     rcases Nat.lt_or_ge i listed.size with h' | h'
     ·simp[h']at h0 h1;rw[h0]at h1;cases h1
     ·simp[Array.getElem?_eq_none h']at h1
   have hok:=hfree j oj hoj hji hjun hnot
   simp only[u9,Bool.and_eq_true]at hok
   rcases H.2 j (ready_mono hj hji)with⟨sij,hij,a2,H2⟩ | hdie
   ·obtain⟨sj,hj',b1,b2⟩:=yT hi hoj hok.1.1.1 hok.1.1.2 hok.1.2 hok.2 hst a2
    refine .inl ⟨sj,hj',b1,zO hi fuel (listed.setIfInBounds j true) (hcl.add hj) (fun k ok hk hki hun hno=> ?_) (ready_mono hr (Ne.symm hji)) b2 ?_⟩
    ·refine hfree k ok hk hki ?_ hno
     by_cases hjk:j=k
     ·subst hjk;exact hjun
     ·rw[getD_set_ne true hjk]at hun;exact hun
    ·rw[Array.setIfInBounds_comm _ _ hji]
     exact H2
   ·exact .inr (aA2 hi hoj hok.1.1.1 hok.1.1.2 hst hdie)
theorem qZ(htb:TabOK P tb){QA:(Nat→AVal)→(Nat→Option Obj)→Prop}{QP:Value→Prop}{Q:Exit→Act→World→Prop}
  (hQ:∀s h a w,QA s h→Mid n base Bw w0 (fun i=>i<ops.size) s h a w→Q .normal a w) (hP:∀y s h a w,QP y→Mid n base Bw w0 (fun i=>i<ops.size) s h a w→Q (.panic [{ v:=y,recovered:=false }]) a w):∀(fuel:Nat) (listed:Array Bool) {s:Nat→AVal} {h:Nat→Option Obj} {a:Act} {w:World},listed.size=ops.size →
  Mid n base Bw w0 (fun i=>listed.getD i false=true) s h a w→aCj P tb an n base ops F W QA QP fuel listed s h→wpAny P .any ops Q fuel listed a w
 | 0,listed,s,h,a,w,hsz,hm,H=>by
  refine⟨H.1,hQ s h a w H.2 ?_⟩
  obtain⟨ρ,φ,q1,q2,q3⟩:=hm.ex
  refine⟨ρ,φ,q1,q2,fun id u hu=>(q3 id u hu).imp (fun h=>h) fun⟨i,j,h1,h2⟩=>⟨i,j,?_,h2⟩⟩
  rcases Nat.lt_or_ge i listed.size with h' | h'
  ·omega
  ·simp[Array.getElem?_eq_none h']at h1
 | fuel+1,listed,s,h,a,w,hsz,hm,H=>by
  refine⟨fun e=>hQ s h a w (H.1 e) ?_,fun i hi=> ?_⟩
  ·obtain⟨ρ,φ,q1,q2,q3⟩:=hm.ex
   refine⟨ρ,φ,q1,q2,fun id u hu=>(q3 id u hu).imp (fun h=>h) fun⟨i,j,h1,h2⟩=>⟨i,j,?_,h2⟩⟩
   rcases Nat.lt_or_ge i listed.size with h' | h'
   ·omega
   ·simp[Array.getElem?_eq_none h']at h1
  ·obtain⟨hun,oi,hoi,_⟩:=mem_ready.1 hi
   have hlt:i<listed.size:=by rw[hsz];exact(Array.getElem?_eq_some_iff.1 hoi).1
   have hnd:¬(listed.getD i false=true):=fun e=>by
    simp[hlt]at hun e
    rw[hun]at e;cases e
   rcases H.2 i hi with⟨s',h',hst,H'⟩ | hdie
   ·obtain⟨o,x,u,c,e1,e2,e3,e4,e5,rfl,rfl⟩:=hst.ex
    refine iY htb hm e1 hnd e2 e3 fun a' w' hm'=>qZ htb hQ hP fuel _ (by simpa using hsz) ?_ H'
    obtain⟨ρ,φ,q1,q2,q3⟩:=hm'.ex
    refine⟨ρ,φ,q1,q2,fun id v hv=>(q3 id v hv).imp (fun h=>h) fun⟨j,j',h1,h2⟩=>⟨j,j',?_,h2⟩⟩
    rcases h1 with h1 | rfl
    ·exact getD_set_true h1
    ·simp[hlt]
   ·obtain⟨o,u,y,c,e1,e2,e3,e4,e5⟩:=hdie.ex
    refine yO hm e1 hnd e2 e3 fun w' hm'=>hP y s (apply u h) a w' e5 ?_
    obtain⟨ρ,φ,q1,q2,q3⟩:=hm'.ex
    refine⟨ρ,φ,q1,q2,fun id v hv=>(q3 id v hv).imp (fun h=>h) fun⟨j,j',h1,h2⟩=>⟨j,j',?_,h2⟩⟩
    rcases h1 with h1 | rfl
    ·rcases Nat.lt_or_ge j listed.size with h' | h'
     ·omega
     ·simp[Array.getElem?_eq_none h']at h1
    ·omega
inductive DT where
 | leaf
 | one (i:Nat) (t:DT)
 | two (i:Nat) (t:DT) (j:Nat) (u:DT)
 | dead (i:Nat)
 | twoD (i:Nat) (t:DT) (j:Nat)
def DT.depth:DT→Nat
 | .leaf=>0
 | .one _ t=>t.depth+1
 | .two _ t _ u=>max t.depth u.depth+1
 | .dead _=>1
 | .twoD _ t _=>t.depth+1
abbrev aEL:=List ((Nat→AVal)×(Nat→Option Obj))×List Prop×List Value
def C6(P:Program)(tb:Tab)(an:An)(n:NS)(base:Nat)(ops:Array Oper)(F W:Nat→List Nat)(i:Nat)(s:Nat→AVal)(h:Nat→Option Obj):Option ((Nat→AVal)×(Nat→Option Obj)×Prop) :=
 match ops[i]? with
 | some o=>match p0 P tb an n base ops i o s h with
  | some (x,u,c)=>if(i9 h o.op (eD s o.op)).all (fun j=>(F i).contains j) && u.all (fun p=>(W i).contains p.1)then some (jM s o.dst x,apply u h,c)else none
  | none=>none
 | none=>none
def aCY(P:Program)(tb:Tab)(an:An)(n:NS)(base:Nat)(ops:Array Oper)(F:Nat→List Nat)(i:Nat)(s:Nat→AVal)(h:Nat→Option Obj):Option (Value×Prop) :=
 match ops[i]? with
 | some o=>match K9 P tb an n base ops i o s h with
  | some (_,y,c)=>if(i9 h o.op (eD s o.op)).all (fun j=>(F i).contains j)then some (y,c)else none
  | none=>none
 | none=>none
def xG(P:Program)(tb:Tab)(an:An)(n:NS)(base:Nat)(ops:Array Oper)(F W:Nat→List Nat)(A:List Nat):DT→Array Bool→(Nat→AVal)→(Nat→Option Obj)→Option aEL
 | .leaf,listed,s,h=>if(Region.ready .any ops listed).isEmpty then some ([(s,h)],[],[])else none
 | .one i t,listed,s,h=>if(Region.ready .any ops listed).contains i && aAm ops F W A listed i then match C6 P tb an n base ops F W i s h with
   | some (s',h',c)=>match xG P tb an n base ops F W A t (listed.setIfInBounds i true) s' h' with
    | some (l,cs,ys)=>some (l,c::cs,ys)
    | none=>none
   | none=>none
  else none
 | .two i t j u,listed,s,h=>if Region.ready .any ops listed == [i,j]then match C6 P tb an n base ops F W i s h,C6 P tb an n base ops F W j s h with
   | some (s1,h1,c1),some (s2,h2,c2)=>match xG P tb an n base ops F W A t (listed.setIfInBounds i true) s1 h1,xG P tb an n base ops F W A u (listed.setIfInBounds j true) s2 h2 with
    | some (l1,cs1,ys1),some (l2,cs2,ys2)=>some (l1++l2,c1::c2::(cs1++cs2),ys1++ys2)
    | _,_=>none
   | _,_=>none
  else none
 | .dead i,listed,s,h=>if Region.ready .any ops listed == [i]then match aCY P tb an n base ops F i s h with
   | some (y,c)=>some ([],[c],[y])
   | none=>none
  else none
 | .twoD i t j,listed,s,h=>if Region.ready .any ops listed == [i,j]then match C6 P tb an n base ops F W i s h,aCY P tb an n base ops F j s h with
   | some (s1,h1,c1),some (y,c2)=>match xG P tb an n base ops F W A t (listed.setIfInBounds i true) s1 h1 with
    | some (l,cs,ys)=>some (l,c1::c2::cs,y::ys)
    | none=>none
   | _,_=>none
  else none
theorem lP{i:Nat}{s s':Nat→AVal}{h h':Nat→Option Obj}{c:Prop}(hr:C6 P tb an n base ops F W i s h=some (s',h',c))(hc:c):StepA P tb an n base ops F W i s h s' h':=by
 unfold C6 at hr
 split at hr
 ·rename_i o ho
  split at hr
  ·rename_i x u c' hx
   split at hr
   ·rename_i hq
    cases hr
    simp only[Bool.and_eq_true,List.all_eq_true,List.contains_eq_mem,decide_eq_true_eq]at hq
    exact⟨o,x,u,c,ho,hx,hc,hq.1,hq.2,rfl,rfl⟩
   ·cases hr
  ·cases hr
 ·cases hr
theorem yW{QP:Value→Prop}{i:Nat}{s:Nat→AVal}{h:Nat→Option Obj}{y:Value}{c:Prop}(hr:aCY P tb an n base ops F i s h=some (y,c))(hc:c)(hy:QP y):DieA P tb an n base ops F QP i s h:=by
 unfold aCY at hr
 split at hr
 ·rename_i o ho
  split at hr
  ·rename_i u y' c' hx
   split at hr
   ·rename_i hq
    cases hr
    simp only[List.all_eq_true,List.contains_eq_mem,decide_eq_true_eq]at hq
    exact⟨o,u,y,c,ho,hx,hc,hq,hy⟩
   ·cases hr
  ·cases hr
 ·cases hr
theorem vJ:∀ {a b:List Prop},oX (a++b)→oX a∧oX b
 | [],_,h=>⟨trivial,h⟩
 | _::_,_,h=>let ⟨x,y⟩:=vJ h.2;⟨⟨h.1,x⟩,y⟩
theorem kJ{QA:(Nat→AVal)→(Nat→Option Obj)→Prop}{QP:Value→Prop}:∀(t:DT) (fuel:Nat) (listed:Array Bool) {s:Nat→AVal} {h:Nat→Option Obj} {l:List ((Nat→AVal)×(Nat→Option Obj))} {cs:List Prop} {ys:List Value},t.depth≤fuel→Closed ops listed →
  xG P tb an n base ops F W (qU ops) t listed s h=some (l,cs,ys)→oX cs→(∀p∈l,QA p.1 p.2)→(∀y∈ys,QP y)→aCj P tb an n base ops F W QA QP fuel listed s h
 | .leaf,fuel,listed,s,h,l,cs,ys,_,_,hr,_,hl,_=>by
  simp only[xG]at hr
  split at hr
  ·rename_i he
   cases hr
   have he':Region.ready .any ops listed=[]:=by simpa using he
   have:=hl (s,h) (by simp)
   cases fuel with
   | zero=>exact⟨he',this⟩
   | succ fuel=>exact⟨fun _=>this,fun i hi=>by rw[he']at hi;cases hi⟩
  ·cases hr
 | .one i t,0,listed,s,h,l,cs,ys,hd,_,_,_,_,_=>by simp[DT.depth]at hd
 | .one i t,fuel+1,listed,s,h,l,cs,ys,hd,hcl,hr,hc,hl,hy=>by
  simp only[xG]at hr
  split at hr
  ·rename_i hq
   simp only[Bool.and_eq_true,List.contains_eq_mem,decide_eq_true_eq]at hq
   split at hr
   ·rename_i s' h' c hs
    split at hr
    ·rename_i l' cs' ys' hr'
     cases hr
     obtain⟨_,oi,hoi,_⟩:=mem_ready.1 hq.1
     exact zO hoi fuel listed hcl (y1 hoi hq.2) hq.1 (lP hs hc.1) (kJ t fuel _ (by simp only[DT.depth]at hd;omega) (hcl.add hq.1) hr' hc.2 hl hy)
    ·cases hr
   ·cases hr
  ·cases hr
 | .two i t j u,0,listed,s,h,l,cs,ys,hd,_,_,_,_,_=>by simp[DT.depth]at hd
 | .two i t j u,fuel+1,listed,s,h,l,cs,ys,hd,hcl,hr,hc,hl,hy=>by
  simp only[xG]at hr
  split at hr
  ·rename_i hq
   simp only[beq_iff_eq]at hq
   split at hr
   ·rename_i s1 h1 c1 s2 h2 c2 hs1 hs2
    split at hr
    ·rename_i l1 cs1 ys1 l2 cs2 ys2 hr1 hr2
     cases hr
     obtain⟨k1,k2⟩:=vJ hc.2.2
     simp only[DT.depth]at hd
     have hi:i∈Region.ready .any ops listed:=by rw[hq];simp
     have hj:j∈Region.ready .any ops listed:=by rw[hq];simp
     refine⟨fun e=>(by rw[hq]at e;cases e),fun k hk=> ?_⟩
     rw[hq]at hk
     simp only[List.mem_cons,List.not_mem_nil,or_false]at hk
     rcases hk with rfl | rfl
     ·exact .inl ⟨s1,h1,lP hs1 hc.1,kJ t fuel _ (by omega) (hcl.add hi) hr1 k1 (fun p hp=>hl p (List.mem_append_left _ hp)) (fun y h=>hy y (List.mem_append_left _ h))⟩
     ·exact .inl ⟨s2,h2,lP hs2 hc.2.1,kJ u fuel _ (by omega) (hcl.add hj) hr2 k2 (fun p hp=>hl p (List.mem_append_right _ hp)) (fun y h=>hy y (List.mem_append_right _ h))⟩
    ·cases hr
   ·cases hr
  ·cases hr
 | .dead i,0,listed,s,h,l,cs,ys,hd,_,_,_,_,_=>by simp[DT.depth]at hd
 | .dead i,fuel+1,listed,s,h,l,cs,ys,hd,hcl,hr,hc,hl,hy=>by
  simp only[xG]at hr
  split at hr
  ·rename_i hq
   simp only[beq_iff_eq]at hq
   split at hr
   ·rename_i y c hs
    cases hr
    refine⟨fun e=>(by rw[hq]at e;cases e),fun k hk=> ?_⟩
    rw[hq]at hk
    simp only[List.mem_cons,List.not_mem_nil,or_false]at hk
    subst hk
    exact .inr (yW hs hc.1 (hy y (by simp)))
   ·cases hr
  ·cases hr
 | .twoD i t j,0,listed,s,h,l,cs,ys,hd,_,_,_,_,_=>by simp[DT.depth]at hd
 | .twoD i t j,fuel+1,listed,s,h,l,cs,ys,hd,hcl,hr,hc,hl,hy=>by
  simp only[xG]at hr
  split at hr
  ·rename_i hq
   simp only[beq_iff_eq]at hq
   split at hr
   ·rename_i s1 h1 c1 y c2 hs1 hs2
    split at hr
    ·rename_i l1 cs1 ys1 hr1
     cases hr
     simp only[DT.depth]at hd
     have hi:i∈Region.ready .any ops listed:=by rw[hq];simp
     refine⟨fun e=>(by rw[hq]at e;cases e),fun k hk=> ?_⟩
     rw[hq]at hk
     simp only[List.mem_cons,List.not_mem_nil,or_false]at hk
     rcases hk with rfl | rfl
     ·exact .inl ⟨s1,h1,lP hs1 hc.1,kJ t fuel _ (by omega) (hcl.add hi) hr1 hc.2.2 hl (fun y h=>hy y (List.mem_cons_of_mem _ h))⟩
     ·exact .inr (yW hs2 hc.2.1 (hy y (by simp)))
    ·cases hr
   ·cases hr
  ·cases hr
end
section
variable{P:Program}{tb:Tab}{n:NS}{Bw:Nat→Prop}{w0:Base P}{σ:St}{Q:Exit→St→Prop}
def aBL(gs:List G)(f:List Nat)(l:List (Nat×AVal))(m:List (Nat×Obj))(nx pn:Nat)(r:Option aEL):Option (List (Option (List AVal×List (Option Obj)))×List Prop×List Value) :=
 match r with
 | some (ls,cs,ys)=>some (ls.map (fun p=>H4 gs f l m ⟨p.1,p.2,nx,pn⟩),cs,ys)
 | none=>none
theorem o5(htb:TabOK P tb)(hm:P.follows .mixedOrders=true)(an:An)(t:DT)(fw:List (List Nat×List Nat))(k:Nat)(ys:List Value){id:Nat}{ops:Array Oper}(gs:List G)(f:List Nat)(l:List (Nat×AVal))(m:List (Nat×Obj))(nx pn:Nat)(cs:List Prop)
  (hr:aBL gs f l m (σ.nx+8*ops.size) σ.pn (xG P tb an n σ.nx ops (sS fw) (rZ fw) (qU ops) t (Array.replicate ops.size false) σ.s σ.h)=some (List.replicate k (some (y7 f l m)),cs,ys)) (hok:(σ.pn == pn && lL (fnL f) l m nx pn && decide (t.depth≤ops.size))=true) (hc:oX cs)
  (hq:k≠0→∀σ',Le n σ' (aM l m nx pn)→Q .normal σ') (hp:∀y∈ys,∀σ',Q (.panic [{ v:=y,recovered:=false }]) σ'):W P n Bw w0 (.region id ops true) σ Q:=fun a w hR=>by
 rw[Bool.and_eq_true,decide_eq_true_eq]at hok
 obtain⟨hok,hdep⟩:=hok
 unfold aBL at hr
 split at hr
 ·rename_i ls cs' ys' hr'
  simp only[Option.some.injEq,Prod.mk.injEq]at hr
  obtain⟨e1,rfl,rfl⟩:=hr
  obtain⟨ρ,φ,q1,q2,q3⟩:=hR.ex
  obtain⟨q1',qF⟩:=q1.drew
  refine wp_region_any hm ?_
  have hB:=kJ (P:=P) (tb:=tb) (an:=an) (n:=n) (base:=σ.nx) (ops:=ops) (F:=sS fw) (W:=rZ fw) (QA:=fun s h=>Q .normal ⟨s,h,σ.nx+8*ops.size,σ.pn⟩) (QP:=fun y=>y∈ys') t ops.size (Array.replicate ops.size false) hdep (fun k o hk hl=>by simp[Array.getD]at hl) hr' hc (fun p hp=>by
   have hm1:H4 gs f l m ⟨p.1,p.2,σ.nx+8*ops.size,σ.pn⟩∈List.replicate k (some (y7 f l m)):=by rw[←e1];exact List.mem_map.2 ⟨p,hp,rfl⟩
   have hk:k≠0:=fun e=>by subst e;simp at hm1
   exact hq hk _ (xB (List.eq_of_mem_replicate hm1) hok)) (fun y h=>h)
  refine qZ (P:=P) (tb:=tb) (an:=an) (n:=n) (base:=σ.nx) (ops:=ops) (Bw:=Bw) (w0:=w0) htb (fun s h a w hQA hmid=> ?_) (fun y s h a w hy hmid=> ?_) ops.size _ (by simp) ⟨ρ,φ,q1',q2.mono qF (fun _ _ h=>h),fun id u hu=> .inl (q3 id u hu)⟩ hB
  ·obtain⟨ρ',φ',r1,r2,r3⟩:=hmid.ex
   refine⟨⟨s,h,σ.nx+8*ops.size,σ.pn⟩,⟨⟨ρ',φ',r1,r2,fun id u hu=> ?_⟩,hR.pn⟩,hQA⟩
   rcases r3 id u hu with h1 | ⟨i,j,h1,h2,h3⟩ <;> simp only <;> omega
  ·obtain⟨ρ',φ',r1,r2,r3⟩:=hmid.ex
   refine⟨⟨s,h,σ.nx+8*ops.size,σ.pn⟩,⟨⟨ρ',φ',r1,r2,fun id u hu=> ?_⟩,hR.pn⟩,hp y hy _⟩
   rcases r3 id u hu with h1 | ⟨i,j,h1,h2,h3⟩ <;> simp only <;> omega
 ·cases hr
end
end Go.Tv
