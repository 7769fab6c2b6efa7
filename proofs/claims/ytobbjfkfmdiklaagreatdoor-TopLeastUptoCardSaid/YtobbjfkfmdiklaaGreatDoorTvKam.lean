import Derived.Test.YtobbjfkfmdiklaaGreatDoorTvK
namespace Go.Tv
open Go Go.RowKit
def look{α:Type}:List (Nat×α)→Nat→Option α
 | [],_=>none
 | (k,x)::r,i=>if k=i then some x else look r i
theorem mQ{α:Type}:∀ {l:List (Nat×α)} {t:Nat} {x:α},look l t=some x→(t,x)∈l
 | [],_,_,h=>by cases h
 | (k,y)::r,t,x,h=>by
  simp only[look]at h;split at h
  ·rename_i e;cases h;subst e;simp
  ·exact List.mem_cons_of_mem _ (mQ h)
mutual
def ids:af→QV
 | .sl i=>[i]
 | .mp i=>[i]
 | .adr i _ _ _=>[i]
 | .ada i _ _ _=>[i]
 | .fad _ cs _=>bu cs
 | .agg cs=>bu cs
 | .tup cs=>bu cs
 | .fn _ cs=>bu cs
 | .p _ _ _=>[]
 | .nils=>[]
 | .nilp=>[]
 | .lit _=>[]
 | .lag _ _ _ cs=>bu cs
 | .loc _ _ _=>[]
 | .suf i _ _=>[i]
 | .bfn _ cs=>bu cs
 | .unk=>[]
def bu:List af→QV
 | []=>[]
 | x::xs=>ids x++bu xs
end
theorem cD{i:Nat}:∀ {xs:List af},i∈bu xs↔∃x∈xs,i∈ids x
 | []=>by simp[bu]
 | x::xs=>by simp[bu,cD (xs:=xs)]
def ov:Obj→QV
 | .box f=>bu f
 | .lmp _ _ _ f=>bu f
 | .vrow _ _ f=>bu f
 | .mat _ _ _ _ (some (_,id))=>[id]
 | .nds _ _ _ (some (_,_,id))=>[id]
 | _=>[]
mutual
def mq(f:Nat→Nat):af→af
 | .sl i=> .sl (f i)
 | .mp i=> .mp (f i)
 | .adr i k sz off=> .adr (f i) k sz off
 | .ada i b n k=> .ada (f i) b n k
 | .fad β j off=> .fad β (pw f j) off
 | .agg j=> .agg (pw f j)
 | .tup j=> .tup (pw f j)
 | .fn g j=> .fn g (pw f j)
 | .p β T x=> .p β T x
 | .nils=> .nils
 | .nilp=> .nilp
 | .lit v=> .lit v
 | .lag k n q j=> .lag k n q (pw f j)
 | .loc β T x=> .loc β T x
 | .suf i u sz=> .suf (f i) u sz
 | .bfn g j=> .bfn g (pw f j)
 | .unk=> .unk
def pw(f:Nat→Nat):List af→List af
 | []=>[]
 | x::q=>mq f x::pw f q
end
theorem bE(f:Nat→Nat):∀j:List af,(pw f j).length=j.length
 | []=>rfl
 | x::j=>by simp[pw,bE f j]
def nT(f:Nat→Nat):Obj→Obj
 | .box j=> .box (pw f j)
 | .lmp k n u j=> .lmp k n u (pw f j)
 | .vrow n sz j=> .vrow n sz (pw f j)
 | .mat e p A q (some (k,id))=> .mat e p A q (some (k,f id))
 | .nds e p v (some (k,g,id))=> .nds e p v (some (k,g,f id))
 | o=>o
mutual
theorem JV{F:Bool→Addr→Value→Prop}{ρ ρ':Nat→QW}{f:Nat→Nat}:∀ {x:af} {v:Value},(∀i∈ids x,ρ' i=ρ (f i))→V F ρ (mq f x) v→V F ρ' x v
 | .p _ _ _,_,_,j=>by simpa only [mq,V]using j
 | .nils,_,_,j=>by simpa only [mq,V]using j
 | .nilp,_,_,j=>by simpa only [mq,V]using j
 | .lit _,_,_,j=>by simpa only [mq,V]using j
 | .unk,_,_,_=>by simp only[V]
 | .sl i,_,h,j=>by
  simp only[mq,V]at j ⊢;rw[h i (by simp[ids])];exact j
 | .mp i,_,h,j=>by
  simp only[mq,V]at j ⊢;rw[h i (by simp[ids])];exact j
 | .ada i _ _ _,_,h,j=>by
  simp only[mq,V]at j ⊢;rw[h i (by simp[ids])];exact j
 | .adr i _ _ _,_,h,j=>by
  simp only[mq,V]at j ⊢;rw[h i (by simp[ids])];exact j
 | .fad _ A _,_,h,j=>by
  simp only[mq,V]at j ⊢;obtain⟨C,e,hl⟩:=j;exact⟨C,e,mD (fun i hi=>h i (by simpa only [ids]using hi)) hl⟩
 | .agg A,_,h,j=>by
  simp only[mq,V,bE]at j ⊢;obtain⟨q,e,z,hl⟩:=j;exact⟨q,e,z,mD (fun i hi=>h i (by simpa only [ids]using hi)) hl⟩
 | .tup A,_,h,j=>by
  simp only[mq,V,bE]at j ⊢;obtain⟨q,e,z,hl⟩:=j;exact⟨q,e,z,mD (fun i hi=>h i (by simpa only [ids]using hi)) hl⟩
 | .fn _ A,_,h,j=>by
  simp only[mq,V,bE]at j ⊢;obtain⟨q,e,z,hl⟩:=j;exact⟨q,e,z,mD (fun i hi=>h i (by simpa only [ids]using hi)) hl⟩
 | .lag _ _ _ A,_,h,j=>by
  simp only[mq,V,bE]at j ⊢;obtain⟨q,e,z,hl⟩:=j;exact⟨q,e,z,mD (fun i hi=>h i (by simpa only [ids]using hi)) hl⟩
 | .loc _ _ _,_,_,j=>by simpa only [mq,V]using j
 | .suf i _ _,_,h,j=>by
  simp only[mq,V]at j ⊢;rw[h i (by simp[ids])];exact j
 | .bfn _ A,_,h,j=>by simp only[mq,V,bE]at j ⊢;obtain⟨q,e,z,hl⟩:=j;exact⟨q,e,z,mD (fun i hi=>h i (by simpa only [ids]using hi)) hl⟩
theorem mD{F:Bool→Addr→Value→Prop}{ρ ρ':Nat→QW}{f:Nat→Nat}:∀ {B:List af} {g:Nat→Value→Prop},(∀i∈bu B,ρ' i=ρ (f i))→VL F ρ (pw f B) g→VL F ρ' B g
 | [],_,_,_=>by simp only[VL]
 | x::B,_,h,j=>by simp only[pw,VL]at j ⊢;obtain⟨⟨u,D,E⟩,I⟩:=j;exact⟨⟨u,D,JV (fun i hi=>h i (by simp[bu,hi])) E⟩,mD (fun i hi=>h i (by simp[bu,hi])) I⟩
end
def vL(h:Nat→Qz)(xs:List af):QV :=
 bu xs++(bu xs).flatMap fun i=>match h i with
  | some (.box j)=>bu j
  | _=>[]
/-! ### p other q round -/
mutual
theorem KL{F:Bool→Addr→Value→Prop}{ρ q:Nat→QW}{f:Nat→Nat}:∀ {x:af} {v:Value},(∀i∈ids x,q (f i)=ρ i)→V F ρ x v→V F q (mq f x) v
 | .p _ _ _,_,_,j=>by simpa only [mq,V]using j
 | .nils,_,_,j=>by simpa only [mq,V]using j
 | .nilp,_,_,j=>by simpa only [mq,V]using j
 | .lit _,_,_,j=>by simpa only [mq,V]using j
 | .unk,_,_,_=>by simp only[mq,V]
 | .sl i,_,h,j=>by
  simp only[mq,V]at j ⊢;rw[h i (by simp[ids])];exact j
 | .mp i,_,h,j=>by
  simp only[mq,V]at j ⊢;rw[h i (by simp[ids])];exact j
 | .ada i _ _ _,_,h,j=>by
  simp only[mq,V]at j ⊢;rw[h i (by simp[ids])];exact j
 | .adr i _ _ _,_,h,j=>by
  simp only[mq,V]at j ⊢;rw[h i (by simp[ids])];exact j
 | .fad _ B _,_,h,j=>by
  simp only[mq,V]at j ⊢;obtain⟨D,e,hl⟩:=j;exact⟨D,e,qb (fun i hi=>h i (by simpa only [ids]using hi)) hl⟩
 | .agg B,_,h,j=>by
  simp only[mq,V,bE]at j ⊢;obtain⟨z,e,A,hl⟩:=j;exact⟨z,e,A,qb (fun i hi=>h i (by simpa only [ids]using hi)) hl⟩
 | .tup B,_,h,j=>by
  simp only[mq,V,bE]at j ⊢;obtain⟨z,e,A,hl⟩:=j;exact⟨z,e,A,qb (fun i hi=>h i (by simpa only [ids]using hi)) hl⟩
 | .fn _ B,_,h,j=>by
  simp only[mq,V,bE]at j ⊢;obtain⟨z,e,A,hl⟩:=j;exact⟨z,e,A,qb (fun i hi=>h i (by simpa only [ids]using hi)) hl⟩
 | .lag _ _ _ B,_,h,j=>by
  simp only[mq,V,bE]at j ⊢;obtain⟨z,e,A,hl⟩:=j;exact⟨z,e,A,qb (fun i hi=>h i (by simpa only [ids]using hi)) hl⟩
 | .loc _ _ _,_,_,j=>by simpa only [mq,V]using j
 | .suf i _ _,_,h,j=>by
  simp only[mq,V]at j ⊢;rw[h i (by simp[ids])];exact j
 | .bfn _ B,_,h,j=>by simp only[mq,V,bE]at j ⊢;obtain⟨z,e,A,hl⟩:=j;exact⟨z,e,A,qb (fun i hi=>h i (by simpa only [ids]using hi)) hl⟩
theorem qb{F:Bool→Addr→Value→Prop}{ρ q:Nat→QW}{f:Nat→Nat}:∀ {C:List af} {g:Nat→Value→Prop},(∀i∈bu C,q (f i)=ρ i)→VL F ρ C g→VL F q (pw f C) g
 | [],_,_,_=>by simp only[pw,VL]
 | x::C,_,h,j=>by simp only[pw,VL]at j ⊢;obtain⟨⟨u,E,I⟩,J⟩:=j;exact⟨⟨u,E,KL (fun i hi=>h i (by simp[bu,hi])) I⟩,qb (fun i hi=>h i (by simp[bu,hi])) J⟩
end
theorem FT{F:Bool→Addr→Value→Prop}{ρ z:Nat→QW}{S:Nat→Prop}{w:World}{f:Nat→Nat}{e E:TypeId}{A:Ty}{B:List (List A.den)}{hole:Option (Nat×Nat)}{u:Value}
  (h:∀k id,hole=some (k,id)→z (f id)=ρ id) (ho:OR F ρ S w (.mat e E A B hole) u):OR F z S w (nT f (.mat e E A B hole)) u:=by
 obtain⟨I,J,hk,cells,h1,h2,L⟩:=ho;cases hole with
 | none=>exact⟨I,J,hk,cells,h1,fun i hi=>(h2 i hi).imp fun v q=>⟨q.1,q.2.1,q.2.2.1,fun id e=>by cases e⟩,L⟩
 | some p =>
  obtain⟨k,id⟩:=p;have x:∀i,Bd (some (k,f id)) i→Bd (some (k,id)) i:=fun i M N C e=>by cases e;exact M k (f id) rfl
  refine⟨I,J,fun N C e=>(by cases e;exact hk k id rfl),cells,h1,fun i hi=>?_,fun i j O V b D X Y=>L i j O V b D (x i X) (x j Y)⟩;obtain⟨v,Z,q2,q3,q4⟩:=h2 i hi;exact⟨v,Z,q2,fun s=>q3 (x i s),fun C e=>by cases e;rw[h k id rfl];exact q4 id rfl⟩
theorem De{F:Bool→Addr→Value→Prop}{ρ ρ':Nat→QW}{S:Nat→Prop}{w:World}{f:Nat→Nat}{e J:TypeId}{A:Ty}{z:List (List A.den)}{hole:Option (Nat×Nat)}{u:Value}
  (h:∀k id,hole=some (k,id)→ρ' id=ρ (f id)) (ho:OR F ρ S w (nT f (.mat e J A z hole)) u):OR F ρ' S w (.mat e J A z hole) u:=by
 cases hole with
 | none =>
  obtain⟨C,D,hk,cells,h1,h2,E⟩:=ho;exact⟨C,D,hk,cells,h1,fun i hi=>(h2 i hi).imp fun v q=>⟨q.1,q.2.1,q.2.2.1,fun id e=>by cases e⟩,E⟩
 | some p =>
  obtain⟨k,id⟩:=p;obtain⟨C,D,hk,cells,h1,h2,E⟩:=ho;have x:∀i,Bd (some (k,id)) i→Bd (some (k,f id)) i:=fun i L M B e=>by cases e;exact L k id rfl
  refine⟨C,D,fun M B e=>(by cases e;exact hk k (f id) rfl),cells,h1,fun i hi=>?_,fun i j N O b I V X=>E i j N O b I (x i V) (x j X)⟩;obtain⟨v,Y,Z,q3,q4⟩:=h2 i hi;exact⟨v,Y,Z,fun s=>q3 (x i s),fun B e=>by cases e;rw[h k id rfl];exact q4 (f id) rfl⟩
theorem uv{F:Bool→Addr→Value→Prop}{ρ ρ':Nat→QW}{S:Nat→Prop}{w:World}{e z:TypeId}{A:List Nd}{k i j:Nat}{g:Bool}{u:Value}
  (h:ρ' j=ρ i) (ho:OR F ρ S w (.nds e z A (some (k,g,i))) u):OR F ρ' S w (.nds e z A (some (k,g,j))) u:=by
 obtain⟨D,hk,cells,h1,h2,E⟩:=ho;have p:∀r f,m9 (some (k,g,j)) r f→m9 (some (k,g,i)) r f:=fun r f I J L q e=>by cases e;exact I k g j rfl
 refine⟨D,fun J L q e=>(by cases e;exact hk k g i rfl),cells,h1,fun r f hi=>?_,fun r f B C M N b x O V=>E r f B C M N b x (p r f O) (p B C V)⟩;obtain⟨v,X,Y,Z,q4⟩:=h2 r f hi;exact⟨v,X,Y,fun s=>Z (p r f s),fun q e=>by cases e;rw[h];exact q4 i rfl⟩
theorem uc{F:Bool→Addr→Value→Prop}{ρ ρ':Nat→QW}{S:Nat→Prop}{w:World}{e j:TypeId}{p:List Nd}{u:Value}
  (ho:OR F ρ S w (.nds e j p none) u):OR F ρ' S w (.nds e j p none) u:=by
 obtain⟨x,hk,cells,h1,h2,z⟩:=ho;exact⟨x,hk,cells,h1,fun i f hi=>(h2 i f hi).imp fun v q=>⟨q.1,q.2.1,q.2.2.1,fun id e=>by cases e⟩,z⟩
theorem JC{F:Bool→Addr→Value→Prop}{ρ j:Nat→QW}{S:Nat→Prop}{w:World}{f:Nat→Nat}{o:Obj}{u:Value}(h:∀i∈ov o,j (f i)=ρ i)(ho:OR F ρ S w o u):OR F j S w (nT f o) u:=by
 cases o with
 | arr e A z=>exact ho
 | fz A z =>
  simp only[nT,OR]at ho ⊢;exact qP rfl ho
 | box C =>
  obtain⟨g,t,cells,e,p,q,v,x⟩:=ho;exact⟨g,t,cells,e,p,q,by rw[v,bE],qb (fun i hi=>h i (by simpa only [ov]using hi)) x⟩
 | mpo K A D=>exact ho
 | mpl K D=>exact ho
 | mat e I A J hole=>exact FT (fun k id e=>h id (by subst e;simp[ov])) ho
 | bytes e z=>exact ho
 | mpq b D=>exact ho
 | nds e I L hole =>
  match hole with
  | none=>exact uc ho
  | some (k,g,id)=>exact uv (h id (by simp[ov])) ho
 | cutz A z =>
  simp only[nT,OR]at ho ⊢;exact⟨ho.1,qP rfl ho.2⟩
 | lmp k n z C =>
  obtain⟨g,t,cells,e,p,q,v,x,B⟩:=ho;exact⟨g,t,cells,e,p,q,by rw[v,bE],x,qb (fun i hi=>h i (by simpa only [ov]using hi)) B⟩
 | vrow n sz C =>obtain⟨g,t,cells,e,p,q,v,x,B⟩:=ho;exact⟨g,t,cells,e,p,q,by rw[v,bE],by rw[bE];exact x,qb (fun i hi=>h i (by simpa only [ov]using hi)) B⟩
/-! ### E M not p0 -/
mutual
def jC:af→Bool
 | .p β T _=> !T.refs || !β
 | .fad β f _=> !β && iq f
 | .agg f=>iq f
 | .tup f=>iq f
 | .fn _ f=>iq f
 | .sl _=>true
 | .mp _=>true
 | .adr _ _ _ _=>true
 | .ada _ _ _ _=>true
 | .nils=>true
 | .nilp=>true
 | .lit _=>true
 | .lag _ _ _ f=>iq f
 | .loc β _ _=> !β
 | .suf _ _ _=>true
 | .bfn _ f=>iq f
 | .unk=>true
def iq:List af→Bool
 | []=>true
 | x::j=>jC x && iq j
end
def zf:Obj→Bool
 | .box f=>iq f
 | .lmp _ _ _ f=>iq f
 | .vrow _ _ f=>iq f
 | _=>true
mutual
theorem u4{F:Bool→Addr→Value→Prop}{ρ:Nat→QW}:∀ {x:af} {v:Value},jC x=true→V F ρ x v→V (fun _=>F false) ρ x v
 | .p β T y,_,h,f=>by
  simp only[V]at f ⊢;refine⟨f.1,?_⟩;cases β with
  | false=>exact f.2
  | true =>
   simp[jC]at h;exact jP h f.2
 | .nils,_,_,f=>by simpa only [V]using f
 | .nilp,_,_,f=>by simpa only [V]using f
 | .lit _,_,_,f=>by simpa only [V]using f
 | .unk,_,_,_=>by simp only[V]
 | .sl i,_,_,f=>by simpa only [V]using f
 | .mp i,_,_,f=>by simpa only [V]using f
 | .adr i _ _ _,_,_,f=>by simpa only [V]using f
 | .ada i _ _ _,_,_,f=>by simpa only [V]using f
 | .fad β z _,_,h,f=>by
  simp only[jC,Bool.and_eq_true,Bool.not_eq_true']at h;obtain⟨rfl,h⟩:=h;simp only[V]at f ⊢;obtain⟨B,e,hl⟩:=f;exact⟨B,e,hD h hl⟩
 | .agg z,_,h,f=>by
  simp only[jC]at h;simp only[V]at f ⊢;obtain⟨j,e,q,hl⟩:=f;exact⟨j,e,q,hD h hl⟩
 | .tup z,_,h,f=>by
  simp only[jC]at h;simp only[V]at f ⊢;obtain⟨j,e,q,hl⟩:=f;exact⟨j,e,q,hD h hl⟩
 | .fn _ z,_,h,f=>by
  simp only[jC]at h;simp only[V]at f ⊢;obtain⟨j,e,q,hl⟩:=f;exact⟨j,e,q,hD h hl⟩
 | .lag _ _ _ z,_,h,f=>by
  simp only[jC]at h;simp only[V]at f ⊢;obtain⟨j,e,q,hl⟩:=f;exact⟨j,e,q,hD h hl⟩
 | .loc β _ _,_,h,f=>by
  simp only[jC,Bool.not_eq_true']at h;subst h;simpa only [V]using f
 | .suf _ _ _,_,_,f=>by simpa only [V]using f
 | .bfn _ z,_,h,f=>by simp only[jC]at h;simp only[V]at f ⊢;obtain⟨j,e,q,hl⟩:=f;exact⟨j,e,q,hD h hl⟩
theorem hD{F:Bool→Addr→Value→Prop}{ρ:Nat→QW}:∀ {A:List af} {g:Nat→Value→Prop},iq A=true→VL F ρ A g→VL (fun _=>F false) ρ A g
 | [],_,_,_=>by simp only[VL]
 | x::A,_,h,f=>by simp only[iq,Bool.and_eq_true]at h;simp only[VL]at f ⊢;obtain⟨⟨u,C,D⟩,E⟩:=f;exact⟨⟨u,C,u4 h.1 D⟩,hD h.2 E⟩
end
theorem Gw{F:Bool→Addr→Value→Prop}{ρ:Nat→QW}{S:Nat→Prop}{w:World}{o:Obj}{u:Value}(h:zf o=true)(ho:OR F ρ S w o u):OR (fun _=>F false) ρ S w o u:=by
 cases o with
 | arr e A x=>exact ho
 | fz A x =>
  simp only[OR]at ho ⊢;exact u4 (by simp[jC]) ho
 | box B =>
  obtain⟨g,t,cells,e,f,j,p,q⟩:=ho;exact⟨g,t,cells,e,f,j,p,hD h q⟩
 | mpo K A C=>exact ho
 | mpl K C=>exact ho
 | mat e D A E hole=>exact ho
 | bytes e x=>exact ho
 | mpq b C=>exact ho
 | nds e D I hole=>exact ho
 | cutz A x =>
  simp only[OR]at ho ⊢;exact⟨ho.1,u4 (by simp[jC]) ho.2⟩
 | lmp k n x B =>
  obtain⟨g,t,cells,e,f,j,p,q,z⟩:=ho;exact⟨g,t,cells,e,f,j,p,q,hD h z⟩
 | vrow n sz B =>obtain⟨g,t,cells,e,f,j,p,q,z⟩:=ho;exact⟨g,t,cells,e,f,j,p,q,hD h z⟩
/-! ### v over -/
def Io(g:QV)(i:Nat):Nat:=g.idxOf i
def qZ(g:QV)(new i:Nat):Nat:=if i<g.length then g.getD i 0 else new+(i - g.length)
def less(g:QV)(h:Nat→Qz)(i:Nat):Qz:=if g.contains i then none else h i
def yt(g:QV)(h:Nat→Qz)(x:af):Option af :=
 if(ids x).all (fun i=>g.contains i) && !(ids x).isEmpty then some (mq (Io g) x)else Bq h x
def ri(g:QV)(h:Nat→Qz):List af→Option (List af)
 | []=>some []
 | x::xs=>match yt g h x,ri g h xs with
  | some y,some j=>some (y::j)
  | _,_=>none
def jZ(g:QV)(h:Nat→Qz):Nat→QV→Option Qk
 | _,[]=>some []
 | i,id::r=>match h id with
  | some o=>if(ov o).all (fun j=>g.contains j)then match jZ g h (i+1) r with
   | some l=>some ((i,nT (Io g) o)::l)
   | none=>none
   else none
  | none=>none
def wb:QV→Bool
 | []=>true
 | x::f=> !f.contains x && wb f
def uN(g:QV)(new:Nat)(hout:Qk):gZ :=
 g.map (fun i=>(i,none))++hout.map (fun p=>(qZ g new p.1,some (nT (qZ g new) p.2)))
def ug(g:QV)(hout:Qk)(r:af):Bool :=
 wb g && wb (hout.map (·.1)) && jC r && (ids r).all (fun i=>decide (i<g.length+8)) &&
  hout.all (fun p=>zf p.2 && decide (p.1<g.length+8) && (ov p.2).all (fun i=>decide (i<g.length+8)))
structure jy(P:Program)(f:FuncId)(args:List af)(hin:Qk)(r:af)(hout:Qk):Prop where
 fn:∃fn,P.funcs[f]? = some fn∧(fn.name == "runtime.NumGoroutine")=false∧fn.body.isNone=false
 calls:∀(Bw:Nat→Prop) (b:cr P) (φ:Nat→Nat→Prop) (vals:QU),Mem Bw b b.oX φ (fun i=>look hin i) b.w →
  iS (Fr (own φ (fun i=>look hin i)) Bw b.w) b.oX args vals.toList→(∀i u,b.oX i=some u→i<hin.length) →
  Calls P f vals b.w fun e w'=>∃v ρ' φ',e = .returned v∧Mem Bw b ρ' φ' (fun i=>look hout i) w'∧V (Fr (own φ' (fun i=>look hout i)) Bw w') ρ' r v
structure jR(P:Program)(f:FuncId)(args:List af)(hin:Qk)(x:Value):Prop where
 fn:∃fn,P.funcs[f]? = some fn∧(fn.name == "runtime.NumGoroutine")=false∧fn.body.isNone=false
 calls:∀(Bw:Nat→Prop) (b:cr P) (φ:Nat→Nat→Prop) (vals:QU),Mem Bw b b.oX φ (fun i=>look hin i) b.w →
  iS (Fr (own φ (fun i=>look hin i)) Bw b.w) b.oX args vals.toList→(∀i u,b.oX i=some u→i<hin.length) →
  Calls P f vals b.w fun e w'=>∃ρ' φ',e = .panicked [{ v:=x,recovered:=false }]∧Mem Bw b ρ' φ' (fun _=>none) w'
def iT(P:Program)(f:FuncId)(args:List af)(hin:Qk):(af×Qk)⊕Value→Prop
 | .inl p=>jy P f args hin p.1 p.2
 | .inr x=>jR P f args hin x
section
variable{g:QV}{h:Nat→Qz}
theorem kO:∀ {l:QV},wb l=true→l.Nodup
 | [],_=>List.nodup_nil
 | x::j,h=>by
  simp only[wb,Bool.and_eq_true,Bool.not_eq_true',List.contains_eq_mem,decide_eq_false_iff_not]at h;exact List.nodup_cons.2 ⟨h.1,kO h.2⟩
theorem Hc{i:Nat}(hi:i∈g):Io g i<g.length:=List.idxOf_lt_length_of_mem hi
theorem Bk{i:Nat}(hi:i∈g):g.getD (Io g i) 0=i:=by
 unfold Io;rw[List.getD_eq_getElem?_getD,List.getElem?_eq_getElem (List.idxOf_lt_length_of_mem hi),List.getElem_idxOf];rfl
theorem o7(hn:g.Nodup){i:Nat}(hi:i<g.length):Io g (g.getD i 0)=i:=by
 unfold Io;have e:g.getD i 0=g[i]:=by simp[List.getD_eq_getElem?_getD,hi]
 rw[e];exact List.Nodup.idxOf_getElem hn i hi
theorem kV:∀ {l:QV} {i:Nat} {hin:Qk},jZ g h i l=some hin→hin.length=l.length
 | [],_,_,e=>by cases e;rfl
 | id::r,i,hin,e=>by
  simp only[jZ]at e;split at e
  ·split at e
   ·split at e
    ·rename_i j hl;cases e;simp[kV hl]
    ·cases e
   ·cases e
  ·cases e
theorem wO:∀ {l:QV} {i:Nat} {hin:Qk},jZ g h i l=some hin→∀ {j:Nat} {o:Obj},look hin j=some o →
  ∃id p,i≤j∧l[j - i]? = some id∧h id=some p∧o=nT (Io g) p∧∀k∈ov p,k∈g
 | [],_,_,e,j,o,f=>by cases e;cases f
 | id::r,i,hin,e,j,o,f=>by
  simp only[jZ]at e;split at e
  ·rename_i p ho;split at e
   ·rename_i q;split at e
    ·rename_i C hl;cases e;simp only[look]at f;split at f
     ·rename_i u;subst u;cases f;exact⟨id,p,Nat.le_refl _,by simp,ho,rfl,fun k hk=>by simpa using List.all_eq_true.1 q k hk⟩
     ·obtain⟨v,o2,D,x,z,A,B⟩:=wO hl f;refine⟨v,o2,by omega,?_,z,A,B⟩;rw[show j - i=(j - (i+1))+1 by omega];simpa using x
    ·cases e
   ·cases e
  ·cases e
theorem u6:∀ {u:gZ} {h:Nat→Qz} {i:Nat} {o:Obj},apply u h i=some o→(i,some o)∈u∨(h i=some o∧∀p∈u,p.1≠i)
 | [],h,i,o,e=> .inr ⟨e,fun p hp=>by cases hp⟩
 | (j,x)::u,h,i,o,e=>by
  simp only[apply]at e;rcases u6 e with q | ⟨v,z⟩
  ·exact .inl (List.mem_cons_of_mem _ q)
  ·by_cases f:i=j
   ·subst f;rw[aB]at v;subst v;exact .inl (List.mem_cons_self ..)
   ·rw[aR _ _ f]at v;refine .inr ⟨v,fun p hp=>?_⟩;rcases List.mem_cons.1 hp with rfl | hp
    ·exact fun e=>f e.symm
    ·exact z p hp
theorem uq:∀ {l:Qk} {i:Nat} {o:Obj},(l.map (·.1)).Nodup→(i,o)∈l→look l i=some o
 | (j,x)::r,i,o,hn,hm=>by
  simp only[List.map_cons,List.nodup_cons]at hn;simp only[look];rcases List.mem_cons.1 hm with e | hm
  ·cases e;rw[if_pos rfl]
  ·rw[if_neg (fun e=>hn.1 (List.mem_map.2 ⟨(i,o),hm,e.symm⟩))];exact uq hn.2 hm
end
section
variable{P:Program}{Bw:Nat→Prop}{w0:cr P}{ρ:Nat→QW}{φ:Nat→Nat→Prop}{h:Nat→Qz}{w:World}{new:Nat}{g:QV}
theorem rY{i:Nat}{o:Obj}(hi:less g h i=some o):h i=some o∧i ∉ g:=by
 unfold less at hi;split at hi
 ·cases hi
 ·rename_i hc;exact⟨hi,by simpa using hc⟩
def sE(φ:Nat→Nat→Prop)(h:Nat→Qz)(g:QV)(k:Nat):Prop:=∃id o,id∈g∧h id=some o∧o.live=true∧φ id k
theorem gH{f:Nat→Nat}{o:Obj}:(nT f o).live=o.live:=by
 cases o with
 | mat e j A p hole=>cases hole <;> rfl
 | nds e j q hole=>cases hole <;> rfl
 | _=>rfl
theorem FW{k:Nat}(hk:sE φ h g k):own φ h k:=by
 obtain⟨id,o,_,h1,h2,f⟩:=hk;exact⟨id,o,h1,h2,f⟩
def fj(m:Mem Bw w0 ρ φ h w)(g:QV):cr P :=
 ⟨w,fun k=>k<w.heap.size∧¬sE φ h g k,fun _ hk=>hk.1,fun i=>if i<g.length then ρ (g.getD i 0)else none,m.kp.laid,
  fun k hk=>⟨Nat.lt_of_lt_of_le (w0.lt k (w0.lk k hk)) m.kp.size,fun hm=>m.ow k (FW hm) (w0.lk k hk)⟩⟩
theorem Aq(m:Mem Bw w0 ρ φ h w){x y:af}(hd:yt g (less g h) x=some y){v:Value}(j:V (Fr (own φ h) Bw w) ρ x v)
  {F':Bool→Addr→Value→Prop} (L:mZ φ h Bw w (less g h) F'):V F' (fj m g).oX y v:=by
 unfold yt at hd;split at hd
 ·rename_i hc;cases hd;simp only[Bool.and_eq_true,List.all_eq_true,List.contains_eq_mem,decide_eq_true_eq]at hc;refine KL (ρ:=ρ) (fun i f=>?_) (V.mono L.hA (fun _ _ h=>h) j);have:=hc.1 i f;simp only[fj];rw[if_pos (Hc this),Bk this]
 ·exact V.mono (fun _ _ _ h=>h) (fun _ _ e=>by cases e) (wK m L hd j)
theorem l0(m:Mem Bw w0 ρ φ h w){F':Bool→Addr→Value→Prop}(L:mZ φ h Bw w (less g h) F'):
  ∀ {xs ys:List af},ri g (less g h) xs=some ys→∀ {j:QY},iS (Fr (own φ h) Bw w) ρ xs j→iS F' (fj m g).oX ys j
 | [],ys,hd,j,p=>by
  cases hd;cases j with
  | nil=>trivial
  | cons _ _=>exact p.elim
 | x::xs,ys,hd,j,p=>by
  simp only[ri]at hd;split at hd
  ·rename_i y q h1 h2;cases hd;cases j with
   | nil=>exact p.elim
   | cons v j=>exact⟨Aq m h1 p.1 L,l0 m L h2 p.2⟩
  ·cases hd
theorem qD(m:Mem Bw w0 ρ φ h w)(hn:g.Nodup){hin:Qk}(hi:jZ g h 0 g=some hin):
  Mem (p0 φ (less g h) Bw) (fj m g) (fj m g).oX (fun i=>φ (g.getD i 0)) (fun i=>look hin i) w ∧
  mZ φ h Bw w (less g h) (Fr (own (fun i=>φ (g.getD i 0)) (fun i=>look hin i)) (p0 φ (less g h) Bw) w):=by
 have p:∀i o,look hin i=some o→i<g.length∧∃C,h (g.getD i 0)=some C∧o=nT (Io g) C∧∀k∈ov C,k∈g:=fun i o e=>by obtain⟨id,C,_,A,B,I,Y⟩:=wO hi e;simp only[Nat.sub_zero]at A;have z:=(List.getElem?_eq_some_iff.1 A).1;refine⟨z,C,?_,I,Y⟩;rw[List.getD_eq_getElem?_getD,A];exact B
 have M:∀i,i<g.length→g.getD i 0∈g:=fun i z=>by rw[List.getD_eq_getElem?_getD,List.getElem?_eq_getElem z];exact List.getElem_mem z
 have J:∀k,own (fun i=>φ (g.getD i 0)) (fun i=>look hin i) k→sE φ h g k:=fun k ⟨i,o,D,A,B⟩=>by obtain⟨z,C,E,V,_⟩:=p i o D;subst V;rw[gH]at A;exact⟨_,C,M i z,E,A,B⟩
 have N:∀k,sE φ h g k→own φ h k:=fun k ⟨id,o,_,A,B,I⟩=>⟨id,o,A,B,I⟩
 have L:∀k,own φ (less g h) k→own φ h k∧¬sE φ h g k:=fun k ⟨id,o,D,A,B⟩=>by obtain⟨E,V⟩:=rY D;refine⟨⟨id,o,E,A,B⟩,fun⟨Z,C,s1,s2,s3,s4⟩=>?_⟩;have:=m.dj id Z o C k E A s2 s3 B s4;subst this;exact V s1
 have hF:∀β a v,Fr (own φ h) Bw w β a v→Fr (own (fun i=>φ (g.getD i 0)) (fun i=>look hin i)) (p0 φ (less g h) Bw) w β a v:=fun β a v X =>
  ⟨fun e=>X.1 (N _ (J _ e)),fun e hk=>hk.elim (fun q=>X.1 (L _ q).1) (X.2.1 e),X.2.2⟩
 refine⟨⟨fun i o e=>?_,fun i o k D A B=>?_,fun i j o C k D A B I Y q6=>?_,fun k hk=>?_,fun k hk a1=>a1.2 (J k hk),Kept.refl _,fun _ _ e=>e⟩,⟨fun i o e=>(rY e).1,hF,fun id o a v D A B I=>?_⟩⟩
 ·obtain⟨z,C,E,rfl,r3⟩:=p i o e;obtain⟨u,s1,s2⟩:=m.ob _ _ E;refine⟨u,by simp only[fj];rw[if_pos z];exact s1,?_⟩;refine JC (ρ:=ρ) (fun j hj=>?_) (OR.mono hF (fun _ _ h=>h) (fun _ h=>h) (fun _ _ _=>rfl) s2);have:=r3 j hj;simp only[fj];rw[if_pos (Hc this),Bk this]
 ·obtain⟨z,C,E,rfl,r3⟩:=p i o D;rw[gH]at A;exact m.lt _ _ k E A B
 ·obtain⟨z,o1,E,rfl,_⟩:=p i o D;obtain⟨O,o2,a2,rfl,_⟩:=p j C B;rw[gH]at A I;have:=m.dj _ _ _ _ k E A a2 I Y q6;rw[←o7 hn z,←o7 hn O,this]
 ·rcases hk with hk | hk
  ·obtain⟨D,A⟩:=L k hk;exact⟨m.w7 D,A⟩
  ·have:=m.bw k hk;exact⟨Nat.lt_of_lt_of_le (w0.lt k this) m.kp.size,fun e=>m.ow k (N k e) this⟩
 ·obtain⟨E,V⟩:=rY D;refine⟨fun e=>?_,fun e=>(by cases e),World.fk I⟩;exact(L _ ⟨id,o,D,A,B⟩).2 (J _ e)
theorem qO(m:Mem Bw w0 ρ φ h w)(hn:g.Nodup)(ac:∀j,j<8→ρ (new+j)=none)(hg:∀i∈g,∃o,h i=some o){hout:Qk}{r:af}(ax:ug g hout r=true)
  {a4:Nat→QW} {O:Nat→Nat→Prop} {w':World} (m':Mem (p0 φ (less g h) Bw) (fj m g) a4 O (fun i=>look hout i) w') {v:Value}
  (hv:V (Fr (own O (fun i=>look hout i)) (p0 φ (less g h) Bw) w') a4 r v) :
  aF Bw w0 ρ φ h w new (mq (qZ g new) r) (uN g new hout) v w':=by
 simp only[ug,Bool.and_eq_true,List.all_eq_true,decide_eq_true_eq]at ax;obtain⟨⟨⟨⟨_,k1⟩,k2⟩,k3⟩,k4⟩:=ax;have b2:=kO k1;have aa:∀i∈g,∃u,ρ i=some u:=fun i hi=>by obtain⟨o,ho⟩:=hg i hi;obtain⟨u,q,_⟩:=m.ob i o ho;exact⟨u,q⟩
 have a7:∀i∈g,¬(new≤i∧i<new+8):=fun i hi ⟨e1,e2⟩=>by obtain⟨u,q⟩:=aa i hi;have:=ac (i - new) (by omega);rw[show new+(i - new)=i by omega,q]at this;cases this
 have a3:∀i,i<g.length→g.getD i 0∈g:=fun i X=>by rw[List.getD_eq_getElem?_getD,List.getElem?_eq_getElem X];exact List.getElem_mem X
 let Z:Nat→QW:=fun i=>if new≤i∧i<new+8 then a4 (g.length+(i - new))else ρ i
 let I:Nat→Nat→Prop:=fun i=>if new≤i∧i<new+8 then O (g.length+(i - new))else if i∈g then O (Io g i)else φ i
 have a8:∀i u,ρ i=some u→Z i=some u:=fun i u hi=>by
  simp only[Z];split
  ·rename_i hc;have:=ac (i - new) (by omega);rw[show new+(i - new)=i by omega,hi]at this;cases this
  ·exact hi
 have a5:∀i,i<g.length+8→Z (qZ g new i)=a4 i:=fun i hi=>by
  unfold qZ;split
  ·rename_i X;have h1:=a3 i X;simp only[Z];rw[if_neg (a7 _ h1)];obtain⟨u,q⟩:=aa _ h1;have:=m'.oX i u (by simp only[fj];rw[if_pos X];exact q);rw[q,this]
  ·simp only[Z];rw[if_pos (by omega)];congr 1;omega
 have B:∀i,i<g.length+8→I (qZ g new i)=O i:=fun i hi=>by
  unfold qZ;split
  ·rename_i X;have h1:=a3 i X;simp only[I];rw[if_neg (a7 _ h1),if_pos h1,o7 hn X]
  ·simp only[I];rw[if_pos (by omega)];congr 1;omega
 have b3:∀i j,i<g.length+8→j<g.length+8→qZ g new i=qZ g new j→i=j:=fun i j hi hj e=>by
  unfold qZ at e;split at e <;> split at e
  ·rename_i h1 h2;rw[←o7 hn h1,←o7 hn h2,e]
  ·rename_i h1 h2;exact absurd ⟨by omega,by omega⟩ (a7 _ (a3 i h1))
  ·rename_i h1 h2;exact absurd ⟨by omega,by omega⟩ (a7 _ (a3 j h2))
  ·omega
 have C:∀id o,apply (uN g new hout) h id=some o→(id ∉ g∧h id=some o∧¬(new≤id∧id<new+8)) ∨
   ∃i A,look hout i=some A∧i<g.length+8∧(∀j∈ov A,j<g.length+8)∧zf A=true∧id=qZ g new i∧o=nT (qZ g new) A:=fun id o e=>by
  rcases u6 e with hm | ⟨N,p⟩
  ·right
   simp only[uN,List.mem_append,List.mem_map]at hm;rcases hm with⟨i,_,e⟩ | ⟨⟨i,A⟩,hm,e⟩
   ·simp at e
   ·simp only[Prod.mk.injEq,Option.some.injEq]at e;have:=k4 _ hm;exact⟨i,A,uq b2 hm,this.1.2,this.2,this.1.1,e.1.symm,e.2.symm⟩
  ·left
   refine⟨fun hi=>p (id,none) (by simp[uN,hi]) rfl,N,fun hc=>?_⟩;obtain⟨u,E,_⟩:=m.ob id o N;have:=ac (id - new) (by omega);rw[show new+(id - new)=id by omega,E]at this;cases this
 have D:∀id,id ∉ g→¬(new≤id∧id<new+8)→I id=φ id:=fun id h1 h2=>by simp only[I];rw[if_neg h2,if_neg h1]
 have a9:∀k,sE φ h g k→own φ h k:=fun k ⟨id,o,_,p,z,Y⟩=>⟨id,o,p,z,Y⟩
 have J:∀i A k,look hout i=some A→A.live=true→O i k→w.heap.size≤k∨sE φ h g k:=fun i A k N p z=>by
  have:=m'.ow k ⟨i,A,N,p,z⟩;by_cases hk:k<w.heap.size
  ·exact .inr (Classical.byContradiction fun hh=>this ⟨hk,hh⟩)
  ·exact .inl (by omega)
 have a1:∀id o k,id ∉ g→h id=some o→o.live=true→φ id k→k<w.heap.size∧¬sE φ h g k:=fun id o k N p z Y=>by refine⟨m.lt id o k p z Y,fun⟨a2,A,s1,s2,s3,s4⟩=>?_⟩;have:=m.dj id a2 o A k p z s2 s3 Y s4;subst this;exact N s1
 have L:∀k,k<w.heap.size→¬sE φ h g k→w'.heap[k]? = w.heap[k]? :=fun k h1 h2=>m'.kp.block k ⟨h1,h2⟩
 have a6:∀k,own I (apply (uN g new hout) h) k→(∃id o,id ∉ g∧h id=some o∧o.live=true∧φ id k)∨own O (fun i=>look hout i) k:=fun k ⟨id,o,N,p,z⟩=>by
  rcases C id o N with⟨E,M,r3⟩ | ⟨i,A,E,M,r3,r4,rfl,rfl⟩
  ·rw[D id E r3]at z;exact .inl ⟨id,o,E,M,p,z⟩
  ·rw[B i M]at z;rw[gH]at p;exact .inr ⟨i,A,E,p,z⟩
 have hF:∀β a v,Fr (own φ h) Bw w β a v→Fr (own I (apply (uN g new hout) h)) Bw w' β a v:=fun β a v=>Fr.J1 (fun k h1 h2=>L k h1 fun e=>h2 (a9 k e)) (fun k hk=>by
  rcases a6 k hk with⟨id,o,_,p,z,Y⟩ | ⟨i,A,N,p,z⟩
  ·exact .inl ⟨id,o,p,z,Y⟩
  ·exact(J i A k N p z).elim .inr (fun e=> .inl (a9 k e))) β a v
 have b1:∀a v,Fr (own O (fun i=>look hout i)) (p0 φ (less g h) Bw) w' false a v→∀β,Fr (own I (apply (uN g new hout) h)) Bw w' β a v:=fun a v hh β=>by
  refine⟨fun e=>?_,fun _ hb=>hh.2.1 rfl (.inr hb),hh.2.2⟩;rcases a6 _ e with⟨id,o,N,p,z,Y⟩ | q
  ·exact hh.2.1 rfl (.inl ⟨id,o,by unfold less;rw[if_neg (by simpa using N)];exact p,z,Y⟩)
  ·exact hh.1 q
 have b4:(fj m g).w=w:=rfl;refine⟨Z,I,⟨fun id o e=>?_,fun id o k N p z=>?_,fun id a2 o A k N p z Y q5 q6=>?_,m.bw,fun k hk ad=>?_,?_,fun i u hi=>a8 i u (m.oX i u hi)⟩,hF,a8,fun i u hi=>?_,?_⟩
 ·rcases C id o e with⟨E,M,r3⟩ | ⟨i,A,E,M,r3,r4,rfl,rfl⟩
  ·obtain⟨u,s1,s2⟩:=m.ob id o M;refine⟨u,a8 id u s1,?_⟩;rw[D id E r3];exact OR.mono hF a8 (fun _ h=>h) (fun hl k hk=>by
    obtain⟨t1,t2⟩:=a1 id o k E M hl hk;exact L k t1 t2) s2
  ·obtain⟨u,s1,s2⟩:=m'.ob i A E;refine⟨u,by rw[a5 i M];exact s1,?_⟩;rw[B i M];refine JC (ρ:=a4) (fun j hj=>a5 j (r3 j hj)) ?_;exact OR.mono (fun β a v hh=>b1 a v hh β) (fun _ _ h=>h) (fun _ h=>h) (fun _ _ _=>rfl) (Gw r4 s2)
 ·rcases C id o N with⟨E,M,r3⟩ | ⟨i,A,E,M,r3,r4,rfl,rfl⟩
  ·rw[D id E r3]at z;exact Nat.lt_of_lt_of_le (m.lt id o k M p z) m'.kp.size
  ·rw[B i M]at z;rw[gH]at p;exact m'.lt i A k E p z
 ·rcases C id o N with⟨E,M,r3⟩ | ⟨i,o1,E,M,r3,r4,rfl,rfl⟩ <;> rcases C a2 A z with⟨s1,s2,s3⟩ | ⟨j,o2,s1,s2,s3,s4,rfl,rfl⟩
  ·rw[D id E r3]at q5;rw[D a2 s1 s3]at q6;exact m.dj id a2 o A k M p s2 Y q5 q6
  ·rw[D id E r3]at q5;rw[B j s2]at q6;rw[gH]at Y;obtain⟨t1,t2⟩:=a1 id o k E M p q5;rcases J j o2 k s1 Y q6 with t3 | t3
   ·omega
   ·exact absurd t3 t2
  ·rw[B i M]at q5;rw[D a2 s1 s3]at q6;rw[gH]at p;obtain⟨t1,t2⟩:=a1 a2 A k s1 s2 Y q6;rcases J i o1 k E p q5 with t3 | t3
   ·omega
   ·exact absurd t3 t2
  ·rw[B i M]at q5;rw[B j s2]at q6;rw[gH]at p Y;rw[m'.dj i j o1 o2 k E p s1 Y q5 q6]
 ·rcases a6 k hk with⟨id,o,_,p,z,Y⟩ | ⟨i,A,N,p,z⟩
  ·exact m.ow k ⟨id,o,p,z,Y⟩ ad
  ·rcases J i A k N p z with t | t
   ·have:=w0.lt k ad;have:=m.kp.size;omega
   ·exact m.ow k (a9 k t) ad
 ·refine⟨m'.kp.os.trans m.kp.os,m'.kp.tape.trans m.kp.tape,m'.kp.output.trans m.kp.output,Nat.le_trans m.kp.size m'.kp.size,fun k hk=>?_⟩;rw[L k (Nat.lt_of_lt_of_le (w0.lt k hk) m.kp.size) (fun e=>m.ow k (a9 k e) hk)];exact m.kp.block k hk
 ·simp only[Z]at hi;split at hi
  ·rename_i hc;exact .inr ⟨i - new,by omega,by omega⟩
  ·exact .inl hi
 ·exact KL (ρ:=a4) (fun i hi=>a5 i (k3 i hi)) (V.mono (fun β a v hh=>b1 a v hh β) (fun _ _ h=>h) (u4 k2 hv))
theorem pN:∀ {l:QV} {i:Nat} {hin:Qk},jZ g h i l=some hin→∀id∈l,∃o,h id=some o
 | [],_,_,_,id,hm=>by cases hm
 | x::r,i,hin,e,id,hm=>by
  simp only[jZ]at e;split at e
  ·rename_i j ho;split at e
   ·split at e
    ·rename_i p hl;rcases List.mem_cons.1 hm with rfl | hm
     ·exact⟨j,ho⟩
     ·exact pN hl id hm
    ·cases e
   ·cases e
  ·cases e
theorem GV(m:Mem Bw w0 ρ φ h w)(Z:∀j,j<8→ρ (new+j)=none){o:Oper}{a:Act}{fo:Operand}{q:Array Operand}{a1:Array TypeId}(ho:o.op = .call { callee:= .value fo,args:=q,argTypes:=a1 })
  {f:FuncId} {z:List af} (hf:V (Fr (own φ h) Bw w) ρ (.fn f z) (a.eval fo)) {xs:List af} (hx:iS (Fr (own φ h) Bw w) ρ xs (q.toList.map a.eval)) {args:List af} (hl:ri g (less g h) (xs++z)=some args)
  {hin:Qk} (hi:jZ g h 0 g=some hin) {r:af} {hout:Qk} (D:ug g hout r=true)
  (hp:jy P f args hin r hout):Good P o a w (aF Bw w0 ρ φ h w new (mq (qZ g new) r) (uN g new hout)):=by
 simp only[V]at hf;obtain⟨Y,a2,a3,E⟩:=hf;obtain⟨fn,a4,I,B⟩:=hp.fn;have J:∀(O:List af) (p:QY),p.length=O.length→VL (Fr (own φ h) Bw w) ρ O (fun k u=>p[k]? = some u)→iS (Fr (own φ h) Bw w) ρ O p:=fun O=>by
  induction O with
  | nil=>intro p hl _;cases p with | nil=>trivial | cons _ _=>simp at hl
  | cons c O ih =>
   intro p hl C;cases p with
   | nil=>simp at hl
   | cons u p =>simp only[VL]at C;obtain⟨⟨u',q1,q2⟩,q3⟩:=C;simp at q1;subst q1;exact⟨q2,ih p (by simpa using hl) (VL.mono (fun _ _ _ h=>h) (fun _ _ h=>h) (fun k u hk=>by simpa using hk) q3)⟩
 have X:∀(xs:List af) (p:QY),iS (Fr (own φ h) Bw w) ρ xs p→iS (Fr (own φ h) Bw w) ρ (xs++z) (p++Y.toList):=fun xs=>by
  induction xs with
  | nil =>
   intro p C;cases p with
   | nil=>exact J z Y.toList (by simpa using a3) (VL.mono (fun _ _ _ h=>h) (fun _ _ h=>h) (fun k u hk=>by simpa using hk) E)
   | cons _ _=>exact C.elim
  | cons x xs ih =>
   intro p C;cases p with
   | nil=>exact C.elim
   | cons u p=>exact⟨C.1,ih p C.2⟩
 have hn:g.Nodup:=by simp only[ug,Bool.and_eq_true]at D;exact kO D.1.1.1.1
 obtain⟨mc,L⟩:=qD m hn hi;have M:=l0 m L hl (X xs _ hx);have N:=hp.calls (p0 φ (less g h) Bw) (fj m g) (fun i=>φ (g.getD i 0)) (q.map a.eval++Y) mc (by rw[Array.toList_append,Array.toList_map];exact M) (fun i u e=>by
  rw[kV hi];simp only[fj]at e;split at e
  ·assumption
  ·cases e)
 refine Good.sB (f:=f) (args:=q.map a.eval++Y) (w':=w) ?_ (N.mono fun e w' ⟨v,a6,a7,he,a5,C⟩=>⟨v,he,?_⟩)
 ·have n1:¬fn.name = "runtime.NumGoroutine" :=by simpa using I
  have n2:¬fn.body=none:=fun e=>by rw[e]at B;cases B
  simp[execOp,ho,resolve,a2,Deferred.ofValue,invoke,callFunc,a4,n1,n2]
 ·exact qO m hn Z (pN hi) D a5 C
theorem Jn(m:Mem Bw w0 ρ φ h w)(Z:∀j,j<8→ρ (new+j)=none){o:Oper}{a:Act}{fo:Operand}{q:Array Operand}{a1:Array TypeId}(ho:o.op = .call { callee:= .value fo,args:=q,argTypes:=a1 })
  {f:FuncId} {z:List af} (hf:V (Fr (own φ h) Bw w) ρ (.fn f z) (a.eval fo)) {B:List af} (hx:iS (Fr (own φ h) Bw w) ρ B (q.toList.map a.eval)) {args:List af} (hl:ri g (less g h) (B++z)=some args)
  {hin:Qk} (hi:jZ g h 0 g=some hin) (D:ug g [] .unk=true) {x:Value}
  (hp:jR P f args hin x):Lr P o a w x (fun w'=>∃v,aF Bw w0 ρ φ h w new .unk (uN g new []) v w'):=by
 simp only[V]at hf;obtain⟨Y,a2,a3,E⟩:=hf;obtain⟨fn,a4,I,A⟩:=hp.fn;have J:∀(O:List af) (p:QY),p.length=O.length→VL (Fr (own φ h) Bw w) ρ O (fun k u=>p[k]? = some u)→iS (Fr (own φ h) Bw w) ρ O p:=fun O=>by
  induction O with
  | nil=>intro p hl _;cases p with | nil=>trivial | cons _ _=>simp at hl
  | cons c O ih =>
   intro p hl C;cases p with
   | nil=>simp at hl
   | cons u p =>simp only[VL]at C;obtain⟨⟨u',q1,q2⟩,q3⟩:=C;simp at q1;subst q1;exact⟨q2,ih p (by simpa using hl) (VL.mono (fun _ _ _ h=>h) (fun _ _ h=>h) (fun k u hk=>by simpa using hk) q3)⟩
 have X:∀(B:List af) (p:QY),iS (Fr (own φ h) Bw w) ρ B p→iS (Fr (own φ h) Bw w) ρ (B++z) (p++Y.toList):=fun B=>by
  induction B with
  | nil =>
   intro p C;cases p with
   | nil=>exact J z Y.toList (by simpa using a3) (VL.mono (fun _ _ _ h=>h) (fun _ _ h=>h) (fun k u hk=>by simpa using hk) E)
   | cons _ _=>exact C.elim
  | cons x B ih =>
   intro p C;cases p with
   | nil=>exact C.elim
   | cons u p=>exact⟨C.1,ih p C.2⟩
 have hn:g.Nodup:=by simp only[ug,Bool.and_eq_true]at D;exact kO D.1.1.1.1
 obtain⟨mc,L⟩:=qD m hn hi;have M:=l0 m L hl (X B _ hx);have N:=hp.calls (p0 φ (less g h) Bw) (fj m g) (fun i=>φ (g.getD i 0)) (q.map a.eval++Y) mc (by rw[Array.toList_append,Array.toList_map];exact M) (fun i u e=>by
  rw[kV hi];simp only[fj]at e;split at e
  ·assumption
  ·cases e)
 refine Lr.sB (f:=f) (args:=q.map a.eval++Y) (w':=w) ?_ (N.mono fun e w' ⟨a6,a7,he,a5⟩=>⟨he,undef,?_⟩)
 ·have n1:¬fn.name = "runtime.NumGoroutine" :=by simpa using I
  have n2:¬fn.body=none:=fun e=>by rw[e]at A;cases A
  simp[execOp,ho,resolve,a2,Deferred.ofValue,invoke,callFunc,a4,n1,n2]
 ·exact qO m hn Z (pN hi) (r:= .unk) D a5 trivial
end
end Go.Tv
