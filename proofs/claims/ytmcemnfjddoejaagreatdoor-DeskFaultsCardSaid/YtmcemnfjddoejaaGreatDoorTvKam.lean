import Derived.Test.YtmcemnfjddoejaaGreatDoorTvK
namespace Go.Tv
open Go Go.RowKit
def look{α:Type}:List (Nat×α)→Nat→Option α
 | [],_=>none
 | (k,x)::r,i=>if k=i then some x else look r i
theorem m6{α:Type}:∀ {l:List (Nat×α)} {t:Nat} {x:α},look l t=some x→(t,x)∈l
 | [],_,_,h=>by cases h
 | (k,y)::r,t,x,h=>by
  simp only[look]at h;split at h
  ·rename_i e;cases h;subst e;simp
  ·exact List.mem_cons_of_mem _ (m6 h)
mutual
def ids:ag→QV
 | .sl i=>[i]
 | .mp i=>[i]
 | .adr i _ _ _=>[i]
 | .ada i _ _ _=>[i]
 | .fad _ cs _=>bA cs
 | .agg cs=>bA cs
 | .tup cs=>bA cs
 | .fn _ cs=>bA cs
 | .p _ _ _=>[]
 | .nils=>[]
 | .nilp=>[]
 | .lit _=>[]
 | .lag _ _ _ cs=>bA cs
 | .loc _ _ _=>[]
 | .suf i _ _=>[i]
 | .bfn _ cs=>bA cs
 | .unk=>[]
def bA:List ag→QV
 | []=>[]
 | x::xs=>ids x++bA xs
end
theorem cH{i:Nat}:∀ {xs:List ag},i∈bA xs↔∃x∈xs,i∈ids x
 | []=>by simp[bA]
 | x::xs=>by simp[bA,cH (xs:=xs)]
def o8:Obj→QV
 | .box c=>bA c
 | .lmp _ _ _ c=>bA c
 | .vrow _ _ c=>bA c
 | .mat _ _ _ _ (some (_,id))=>[id]
 | .nds _ _ _ (some (_,_,id))=>[id]
 | _=>[]
mutual
def mv(f:Nat→Nat):ag→ag
 | .sl i=> .sl (f i)
 | .mp i=> .mp (f i)
 | .adr i k sz off=> .adr (f i) k sz off
 | .ada i b n k=> .ada (f i) b n k
 | .fad β c off=> .fad β (pe f c) off
 | .agg c=> .agg (pe f c)
 | .tup c=> .tup (pe f c)
 | .fn g c=> .fn g (pe f c)
 | .p β T x=> .p β T x
 | .nils=> .nils
 | .nilp=> .nilp
 | .lit v=> .lit v
 | .lag k n e c=> .lag k n e (pe f c)
 | .loc β T x=> .loc β T x
 | .suf i j sz=> .suf (f i) j sz
 | .bfn g c=> .bfn g (pe f c)
 | .unk=> .unk
def pe(f:Nat→Nat):List ag→List ag
 | []=>[]
 | x::e=>mv f x::pe f e
end
theorem bE(f:Nat→Nat):∀c:List ag,(pe f c).length=c.length
 | []=>rfl
 | x::c=>by simp[pe,bE f c]
def om(f:Nat→Nat):Obj→Obj
 | .box c=> .box (pe f c)
 | .lmp k n q c=> .lmp k n q (pe f c)
 | .vrow n sz c=> .vrow n sz (pe f c)
 | .mat e j A p (some (k,id))=> .mat e j A p (some (k,f id))
 | .nds e j u (some (k,g,id))=> .nds e j u (some (k,g,f id))
 | o=>o
mutual
theorem Lc{F:Bool→Addr→Value→Prop}{ρ ρ':Nat→QW}{f:Nat→Nat}:∀ {x:ag} {v:Value},(∀i∈ids x,ρ' i=ρ (f i))→V F ρ (mv f x) v→V F ρ' x v
 | .p _ _ _,_,_,c=>by simpa only [mv,V]using c
 | .nils,_,_,c=>by simpa only [mv,V]using c
 | .nilp,_,_,c=>by simpa only [mv,V]using c
 | .lit _,_,_,c=>by simpa only [mv,V]using c
 | .unk,_,_,_=>by simp only[V]
 | .sl i,_,h,c=>by
  simp only[mv,V]at c ⊢;rw[h i (by simp[ids])];exact c
 | .mp i,_,h,c=>by
  simp only[mv,V]at c ⊢;rw[h i (by simp[ids])];exact c
 | .ada i _ _ _,_,h,c=>by
  simp only[mv,V]at c ⊢;rw[h i (by simp[ids])];exact c
 | .adr i _ _ _,_,h,c=>by
  simp only[mv,V]at c ⊢;rw[h i (by simp[ids])];exact c
 | .fad _ z _,_,h,c=>by
  simp only[mv,V]at c ⊢;obtain⟨B,e,hl⟩:=c;exact⟨B,e,mN (fun i hi=>h i (by simpa only [ids]using hi)) hl⟩
 | .agg z,_,h,c=>by
  simp only[mv,V,bE]at c ⊢;obtain⟨j,e,q,hl⟩:=c;exact⟨j,e,q,mN (fun i hi=>h i (by simpa only [ids]using hi)) hl⟩
 | .tup z,_,h,c=>by
  simp only[mv,V,bE]at c ⊢;obtain⟨j,e,q,hl⟩:=c;exact⟨j,e,q,mN (fun i hi=>h i (by simpa only [ids]using hi)) hl⟩
 | .fn _ z,_,h,c=>by
  simp only[mv,V,bE]at c ⊢;obtain⟨j,e,q,hl⟩:=c;exact⟨j,e,q,mN (fun i hi=>h i (by simpa only [ids]using hi)) hl⟩
 | .lag _ _ _ z,_,h,c=>by
  simp only[mv,V,bE]at c ⊢;obtain⟨j,e,q,hl⟩:=c;exact⟨j,e,q,mN (fun i hi=>h i (by simpa only [ids]using hi)) hl⟩
 | .loc _ _ _,_,_,c=>by simpa only [mv,V]using c
 | .suf i _ _,_,h,c=>by
  simp only[mv,V]at c ⊢;rw[h i (by simp[ids])];exact c
 | .bfn _ z,_,h,c=>by simp only[mv,V,bE]at c ⊢;obtain⟨j,e,q,hl⟩:=c;exact⟨j,e,q,mN (fun i hi=>h i (by simpa only [ids]using hi)) hl⟩
theorem mN{F:Bool→Addr→Value→Prop}{ρ ρ':Nat→QW}{f:Nat→Nat}:∀ {A:List ag} {g:Nat→Value→Prop},(∀i∈bA A,ρ' i=ρ (f i))→VL F ρ (pe f A) g→VL F ρ' A g
 | [],_,_,_=>by simp only[VL]
 | x::A,_,h,c=>by simp only[pe,VL]at c ⊢;obtain⟨⟨u,C,D⟩,E⟩:=c;exact⟨⟨u,C,Lc (fun i hi=>h i (by simp[bA,hi])) D⟩,mN (fun i hi=>h i (by simp[bA,hi])) E⟩
end
def wP(h:Nat→Qz)(xs:List ag):QV :=
 bA xs++(bA xs).flatMap fun i=>match h i with
  | some (.box c)=>bA c
  | _=>[]
/-! ### e other j round -/
mutual
theorem L6{F:Bool→Addr→Value→Prop}{ρ j:Nat→QW}{f:Nat→Nat}:∀ {x:ag} {v:Value},(∀i∈ids x,j (f i)=ρ i)→V F ρ x v→V F j (mv f x) v
 | .p _ _ _,_,_,c=>by simpa only [mv,V]using c
 | .nils,_,_,c=>by simpa only [mv,V]using c
 | .nilp,_,_,c=>by simpa only [mv,V]using c
 | .lit _,_,_,c=>by simpa only [mv,V]using c
 | .unk,_,_,_=>by simp only[mv,V]
 | .sl i,_,h,c=>by
  simp only[mv,V]at c ⊢;rw[h i (by simp[ids])];exact c
 | .mp i,_,h,c=>by
  simp only[mv,V]at c ⊢;rw[h i (by simp[ids])];exact c
 | .ada i _ _ _,_,h,c=>by
  simp only[mv,V]at c ⊢;rw[h i (by simp[ids])];exact c
 | .adr i _ _ _,_,h,c=>by
  simp only[mv,V]at c ⊢;rw[h i (by simp[ids])];exact c
 | .fad _ A _,_,h,c=>by
  simp only[mv,V]at c ⊢;obtain⟨C,e,hl⟩:=c;exact⟨C,e,qR (fun i hi=>h i (by simpa only [ids]using hi)) hl⟩
 | .agg A,_,h,c=>by
  simp only[mv,V,bE]at c ⊢;obtain⟨q,e,z,hl⟩:=c;exact⟨q,e,z,qR (fun i hi=>h i (by simpa only [ids]using hi)) hl⟩
 | .tup A,_,h,c=>by
  simp only[mv,V,bE]at c ⊢;obtain⟨q,e,z,hl⟩:=c;exact⟨q,e,z,qR (fun i hi=>h i (by simpa only [ids]using hi)) hl⟩
 | .fn _ A,_,h,c=>by
  simp only[mv,V,bE]at c ⊢;obtain⟨q,e,z,hl⟩:=c;exact⟨q,e,z,qR (fun i hi=>h i (by simpa only [ids]using hi)) hl⟩
 | .lag _ _ _ A,_,h,c=>by
  simp only[mv,V,bE]at c ⊢;obtain⟨q,e,z,hl⟩:=c;exact⟨q,e,z,qR (fun i hi=>h i (by simpa only [ids]using hi)) hl⟩
 | .loc _ _ _,_,_,c=>by simpa only [mv,V]using c
 | .suf i _ _,_,h,c=>by
  simp only[mv,V]at c ⊢;rw[h i (by simp[ids])];exact c
 | .bfn _ A,_,h,c=>by simp only[mv,V,bE]at c ⊢;obtain⟨q,e,z,hl⟩:=c;exact⟨q,e,z,qR (fun i hi=>h i (by simpa only [ids]using hi)) hl⟩
theorem qR{F:Bool→Addr→Value→Prop}{ρ j:Nat→QW}{f:Nat→Nat}:∀ {B:List ag} {g:Nat→Value→Prop},(∀i∈bA B,j (f i)=ρ i)→VL F ρ B g→VL F j (pe f B) g
 | [],_,_,_=>by simp only[pe,VL]
 | x::B,_,h,c=>by simp only[pe,VL]at c ⊢;obtain⟨⟨u,D,E⟩,I⟩:=c;exact⟨⟨u,D,L6 (fun i hi=>h i (by simp[bA,hi])) E⟩,qR (fun i hi=>h i (by simp[bA,hi])) I⟩
end
theorem GM{F:Bool→Addr→Value→Prop}{ρ x:Nat→QW}{S:Nat→Prop}{w:World}{f:Nat→Nat}{e D:TypeId}{A:Ty}{z:List (List A.den)}{hole:Option (Nat×Nat)}{u:Value}
  (h:∀k id,hole=some (k,id)→x (f id)=ρ id) (N:OR F ρ S w (.mat e D A z hole) u):OR F x S w (om f (.mat e D A z hole)) u:=by
 obtain⟨E,I,hk,cells,J,L,M⟩:=N;cases hole with
 | none=>exact⟨E,I,hk,cells,J,fun i hi=>(L i hi).imp fun v q=>⟨q.1,q.2.1,q.2.2.1,fun id e=>by cases e⟩,M⟩
 | some p =>
  obtain⟨k,id⟩:=p;have c:∀i,BI (some (k,f id)) i→BI (some (k,id)) i:=fun i O V B e=>by cases e;exact O k (f id) rfl
  refine⟨E,I,fun V B e=>(by cases e;exact hk k id rfl),cells,J,fun i hi=>?_,fun i j X Y b C Z s2=>M i j X Y b C (c i Z) (c j s2)⟩;obtain⟨v,q1,q2,q3,q4⟩:=L i hi;exact⟨v,q1,q2,fun s=>q3 (c i s),fun B e=>by cases e;rw[h k id rfl];exact q4 id rfl⟩
theorem E8{F:Bool→Addr→Value→Prop}{ρ ρ':Nat→QW}{S:Nat→Prop}{w:World}{f:Nat→Nat}{e L:TypeId}{A:Ty}{x:List (List A.den)}{hole:Option (Nat×Nat)}{u:Value}
  (h:∀k id,hole=some (k,id)→ρ' id=ρ (f id)) (M:OR F ρ S w (om f (.mat e L A x hole)) u):OR F ρ' S w (.mat e L A x hole) u:=by
 cases hole with
 | none =>
  obtain⟨B,C,hk,cells,D,E,I⟩:=M;exact⟨B,C,hk,cells,D,fun i hi=>(E i hi).imp fun v q=>⟨q.1,q.2.1,q.2.2.1,fun id e=>by cases e⟩,I⟩
 | some p =>
  obtain⟨k,id⟩:=p;obtain⟨B,C,hk,cells,D,E,I⟩:=M;have c:∀i,BI (some (k,id)) i→BI (some (k,f id)) i:=fun i N O z e=>by cases e;exact N k id rfl
  refine⟨B,C,fun O z e=>(by cases e;exact hk k (f id) rfl),cells,D,fun i hi=>?_,fun i j V X b J Y Z=>I i j V X b J (c i Y) (c j Z)⟩;obtain⟨v,q1,q2,q3,q4⟩:=E i hi;exact⟨v,q1,q2,fun s=>q3 (c i s),fun z e=>by cases e;rw[h k id rfl];exact q4 (f id) rfl⟩
theorem u5{F:Bool→Addr→Value→Prop}{ρ ρ':Nat→QW}{S:Nat→Prop}{w:World}{e x:TypeId}{z:List Nd}{k i j:Nat}{g:Bool}{u:Value}
  (h:ρ' j=ρ i) (C:OR F ρ S w (.nds e x z (some (k,g,i))) u):OR F ρ' S w (.nds e x z (some (k,g,j))) u:=by
 obtain⟨D,hk,cells,E,I,J⟩:=C;have c:∀r f,nt (some (k,g,j)) r f→nt (some (k,g,i)) r f:=fun r f L M N p e=>by cases e;exact L k g j rfl
 refine⟨D,fun M N p e=>(by cases e;exact hk k g i rfl),cells,E,fun r f hi=>?_,fun r f A B O V b q X Y=>J r f A B O V b q (c r f X) (c A B Y)⟩;obtain⟨v,Z,q2,q3,q4⟩:=I r f hi;exact⟨v,Z,q2,fun s=>q3 (c r f s),fun p e=>by cases e;rw[h];exact q4 i rfl⟩
theorem vb{F:Bool→Addr→Value→Prop}{ρ ρ':Nat→QW}{S:Nat→Prop}{w:World}{e c:TypeId}{j:List Nd}{u:Value}
  (p:OR F ρ S w (.nds e c j none) u):OR F ρ' S w (.nds e c j none) u:=by
 obtain⟨x,hk,cells,z,A,B⟩:=p;exact⟨x,hk,cells,z,fun i f hi=>(A i f hi).imp fun v q=>⟨q.1,q.2.1,q.2.2.1,fun id e=>by cases e⟩,B⟩
theorem KZ{F:Bool→Addr→Value→Prop}{ρ j:Nat→QW}{S:Nat→Prop}{w:World}{f:Nat→Nat}{o:Obj}{u:Value}(h:∀i∈o8 o,j (f i)=ρ i)(c:OR F ρ S w o u):OR F j S w (om f o) u:=by
 cases o with
 | arr e A z=>exact c
 | fz A z =>
  simp only[om,OR]at c ⊢;exact rC rfl c
 | box C =>
  obtain⟨g,t,cells,e,p,q,v,x⟩:=c;exact⟨g,t,cells,e,p,q,by rw[v,bE],qR (fun i hi=>h i (by simpa only [o8]using hi)) x⟩
 | mpo K A D=>exact c
 | mpl K D=>exact c
 | mat e I A J hole=>exact GM (fun k id e=>h id (by subst e;simp[o8])) c
 | bytes e z=>exact c
 | mpq b D=>exact c
 | nds e I L hole =>
  match hole with
  | none=>exact vb c
  | some (k,g,id)=>exact u5 (h id (by simp[o8])) c
 | cutz A z =>
  simp only[om,OR]at c ⊢;exact⟨c.1,rC rfl c.2⟩
 | lmp k n z C =>
  obtain⟨g,t,cells,e,p,q,v,x,B⟩:=c;exact⟨g,t,cells,e,p,q,by rw[v,bE],x,qR (fun i hi=>h i (by simpa only [o8]using hi)) B⟩
 | vrow n sz C =>obtain⟨g,t,cells,e,p,q,v,x,B⟩:=c;exact⟨g,t,cells,e,p,q,by rw[v,bE],by rw[bE];exact x,qR (fun i hi=>h i (by simpa only [o8]using hi)) B⟩
/-! ### E M not qx -/
mutual
def jG:ag→Bool
 | .p β T _=> !T.refs || !β
 | .fad β c _=> !β && im c
 | .agg c=>im c
 | .tup c=>im c
 | .fn _ c=>im c
 | .sl _=>true
 | .mp _=>true
 | .adr _ _ _ _=>true
 | .ada _ _ _ _=>true
 | .nils=>true
 | .nilp=>true
 | .lit _=>true
 | .lag _ _ _ c=>im c
 | .loc β _ _=> !β
 | .suf _ _ _=>true
 | .bfn _ c=>im c
 | .unk=>true
def im:List ag→Bool
 | []=>true
 | x::e=>jG x && im e
end
def AO:Obj→Bool
 | .box c=>im c
 | .lmp _ _ _ c=>im c
 | .vrow _ _ c=>im c
 | _=>true
mutual
theorem wh{F:Bool→Addr→Value→Prop}{ρ:Nat→QW}:∀ {x:ag} {v:Value},jG x=true→V F ρ x v→V (fun _=>F false) ρ x v
 | .p β T y,_,h,c=>by
  simp only[V]at c ⊢;refine⟨c.1,?_⟩;cases β with
  | false=>exact c.2
  | true =>
   simp[jG]at h;exact jL h c.2
 | .nils,_,_,c=>by simpa only [V]using c
 | .nilp,_,_,c=>by simpa only [V]using c
 | .lit _,_,_,c=>by simpa only [V]using c
 | .unk,_,_,_=>by simp only[V]
 | .sl i,_,_,c=>by simpa only [V]using c
 | .mp i,_,_,c=>by simpa only [V]using c
 | .adr i _ _ _,_,_,c=>by simpa only [V]using c
 | .ada i _ _ _,_,_,c=>by simpa only [V]using c
 | .fad β q _,_,h,c=>by
  simp only[jG,Bool.and_eq_true,Bool.not_eq_true']at h;obtain⟨rfl,h⟩:=h;simp only[V]at c ⊢;obtain⟨A,e,hl⟩:=c;exact⟨A,e,hZ h hl⟩
 | .agg q,_,h,c=>by
  simp only[jG]at h;simp only[V]at c ⊢;obtain⟨f,e,j,hl⟩:=c;exact⟨f,e,j,hZ h hl⟩
 | .tup q,_,h,c=>by
  simp only[jG]at h;simp only[V]at c ⊢;obtain⟨f,e,j,hl⟩:=c;exact⟨f,e,j,hZ h hl⟩
 | .fn _ q,_,h,c=>by
  simp only[jG]at h;simp only[V]at c ⊢;obtain⟨f,e,j,hl⟩:=c;exact⟨f,e,j,hZ h hl⟩
 | .lag _ _ _ q,_,h,c=>by
  simp only[jG]at h;simp only[V]at c ⊢;obtain⟨f,e,j,hl⟩:=c;exact⟨f,e,j,hZ h hl⟩
 | .loc β _ _,_,h,c=>by
  simp only[jG,Bool.not_eq_true']at h;subst h;simpa only [V]using c
 | .suf _ _ _,_,_,c=>by simpa only [V]using c
 | .bfn _ q,_,h,c=>by simp only[jG]at h;simp only[V]at c ⊢;obtain⟨f,e,j,hl⟩:=c;exact⟨f,e,j,hZ h hl⟩
theorem hZ{F:Bool→Addr→Value→Prop}{ρ:Nat→QW}:∀ {z:List ag} {g:Nat→Value→Prop},im z=true→VL F ρ z g→VL (fun _=>F false) ρ z g
 | [],_,_,_=>by simp only[VL]
 | x::z,_,h,c=>by simp only[im,Bool.and_eq_true]at h;simp only[VL]at c ⊢;obtain⟨⟨u,B,C⟩,D⟩:=c;exact⟨⟨u,B,wh h.1 C⟩,hZ h.2 D⟩
end
theorem HE{F:Bool→Addr→Value→Prop}{ρ:Nat→QW}{S:Nat→Prop}{w:World}{o:Obj}{u:Value}(h:AO o=true)(c:OR F ρ S w o u):OR (fun _=>F false) ρ S w o u:=by
 cases o with
 | arr e A x=>exact c
 | fz A x =>
  simp only[OR]at c ⊢;exact wh (by simp[jG]) c
 | box B =>
  obtain⟨g,t,cells,e,f,j,p,q⟩:=c;exact⟨g,t,cells,e,f,j,p,hZ h q⟩
 | mpo K A C=>exact c
 | mpl K C=>exact c
 | mat e D A E hole=>exact c
 | bytes e x=>exact c
 | mpq b C=>exact c
 | nds e D I hole=>exact c
 | cutz A x =>
  simp only[OR]at c ⊢;exact⟨c.1,wh (by simp[jG]) c.2⟩
 | lmp k n x B =>
  obtain⟨g,t,cells,e,f,j,p,q,z⟩:=c;exact⟨g,t,cells,e,f,j,p,q,hZ h z⟩
 | vrow n sz B =>obtain⟨g,t,cells,e,f,j,p,q,z⟩:=c;exact⟨g,t,cells,e,f,j,p,q,hZ h z⟩
/-! ### v over -/
def JL(g:QV)(i:Nat):Nat:=g.idxOf i
def tR(g:QV)(new i:Nat):Nat:=if i<g.length then g.getD i 0 else new+(i - g.length)
def less(g:QV)(h:Nat→Qz)(i:Nat):Qz:=if g.contains i then none else h i
def zO(g:QV)(h:Nat→Qz)(x:ag):Option ag :=
 if(ids x).all (fun i=>g.contains i) && !(ids x).isEmpty then some (mv (JL g) x)else BO h x
def sn(g:QV)(h:Nat→Qz):List ag→Option (List ag)
 | []=>some []
 | x::xs=>match zO g h x,sn g h xs with
  | some y,some c=>some (y::c)
  | _,_=>none
def jW(g:QV)(h:Nat→Qz):Nat→QV→Option Qw
 | _,[]=>some []
 | i,id::r=>match h id with
  | some o=>if(o8 o).all (fun j=>g.contains j)then match jW g h (i+1) r with
   | some l=>some ((i,om (JL g) o)::l)
   | none=>none
   else none
  | none=>none
def xZ:QV→Bool
 | []=>true
 | x::c=> !c.contains x && xZ c
def vZ(g:QV)(new:Nat)(hout:Qw):hD :=
 g.map (fun i=>(i,none))++hout.map (fun p=>(tR g new p.1,some (om (tR g new) p.2)))
def vI(g:QV)(hout:Qw)(r:ag):Bool :=
 xZ g && xZ (hout.map (·.1)) && jG r && (ids r).all (fun i=>decide (i<g.length+8)) &&
  hout.all (fun p=>AO p.2 && decide (p.1<g.length+8) && (o8 p.2).all (fun i=>decide (i<g.length+8)))
structure fP(P:Program)(f:FuncId)(args:List ag)(hin:Qw)(r:ag)(hout:Qw):Prop where
 fn:∃fn,P.funcs[f]? = some fn∧(fn.name == "runtime.NumGoroutine")=false∧fn.body.isNone=false
 calls:∀(Bw:Nat→Prop) (b:cu P) (φ:Nat→Nat→Prop) (vals:QU),Mem Bw b b.pd φ (fun i=>look hin i) b.w →
  iP (Fr (own φ (fun i=>look hin i)) Bw b.w) b.pd args vals.toList→(∀i u,b.pd i=some u→i<hin.length) →
  Calls P f vals b.w fun e w'=>∃v ρ' φ',e = .returned v∧Mem Bw b ρ' φ' (fun i=>look hout i) w'∧V (Fr (own φ' (fun i=>look hout i)) Bw w') ρ' r v
structure j7(P:Program)(f:FuncId)(args:List ag)(hin:Qw)(x:Value):Prop where
 fn:∃fn,P.funcs[f]? = some fn∧(fn.name == "runtime.NumGoroutine")=false∧fn.body.isNone=false
 calls:∀(Bw:Nat→Prop) (b:cu P) (φ:Nat→Nat→Prop) (vals:QU),Mem Bw b b.pd φ (fun i=>look hin i) b.w →
  iP (Fr (own φ (fun i=>look hin i)) Bw b.w) b.pd args vals.toList→(∀i u,b.pd i=some u→i<hin.length) →
  Calls P f vals b.w fun e w'=>∃ρ' φ',e = .panicked [{ v:=x,recovered:=false }]∧Mem Bw b ρ' φ' (fun _=>none) w'
def jc(P:Program)(f:FuncId)(args:List ag)(hin:Qw):(ag×Qw)⊕Value→Prop
 | .inl p=>fP P f args hin p.1 p.2
 | .inr x=>j7 P f args hin x
section
variable{g:QV}{h:Nat→Qz}
theorem kU:∀ {l:QV},xZ l=true→l.Nodup
 | [],_=>List.nodup_nil
 | x::c,h=>by
  simp only[xZ,Bool.and_eq_true,Bool.not_eq_true',List.contains_eq_mem,decide_eq_false_iff_not]at h;exact List.nodup_cons.2 ⟨h.1,kU h.2⟩
theorem Jk{i:Nat}(hi:i∈g):JL g i<g.length:=List.idxOf_lt_length_of_mem hi
theorem BT{i:Nat}(hi:i∈g):g.getD (JL g i) 0=i:=by
 unfold JL;rw[List.getD_eq_getElem?_getD,List.getElem?_eq_getElem (List.idxOf_lt_length_of_mem hi),List.getElem_idxOf];rfl
theorem p8(hn:g.Nodup){i:Nat}(hi:i<g.length):JL g (g.getD i 0)=i:=by
 unfold JL;have e:g.getD i 0=g[i]:=by simp[List.getD_eq_getElem?_getD,hi]
 rw[e];exact List.Nodup.idxOf_getElem hn i hi
theorem kJ:∀ {l:QV} {i:Nat} {hin:Qw},jW g h i l=some hin→hin.length=l.length
 | [],_,_,e=>by cases e;rfl
 | id::r,i,hin,e=>by
  simp only[jW]at e;split at e
  ·split at e
   ·split at e
    ·rename_i c hl;cases e;simp[kJ hl]
    ·cases e
   ·cases e
  ·cases e
theorem wR:∀ {l:QV} {i:Nat} {hin:Qw},jW g h i l=some hin→∀ {j:Nat} {o:Obj},look hin j=some o →
  ∃id f,i≤j∧l[j - i]? = some id∧h id=some f∧o=om (JL g) f∧∀k∈o8 f,k∈g
 | [],_,_,e,j,o,c=>by cases e;cases c
 | id::r,i,hin,e,j,o,c=>by
  simp only[jW]at e;split at e
  ·rename_i f v;split at e
   ·rename_i p;split at e
    ·rename_i C hl;cases e;simp only[look]at c;split at c
     ·rename_i q;subst q;cases c;exact⟨id,f,Nat.le_refl _,by simp,v,rfl,fun k hk=>by simpa using List.all_eq_true.1 p k hk⟩
     ·obtain⟨u,o2,D,x,z,A,B⟩:=wR hl c;refine⟨u,o2,by omega,?_,z,A,B⟩;rw[show j - i=(j - (i+1))+1 by omega];simpa using x
    ·cases e
   ·cases e
  ·cases e
theorem xV:∀ {u:hD} {h:Nat→Qz} {i:Nat} {o:Obj},apply u h i=some o→(i,some o)∈u∨(h i=some o∧∀p∈u,p.1≠i)
 | [],h,i,o,e=> .inr ⟨e,fun p f=>by cases f⟩
 | (j,x)::u,h,i,o,e=>by
  simp only[apply]at e;rcases xV e with q | ⟨v,z⟩
  ·exact .inl (List.mem_cons_of_mem _ q)
  ·by_cases c:i=j
   ·subst c;rw[ao]at v;subst v;exact .inl (List.mem_cons_self ..)
   ·rw[aD _ _ c]at v;refine .inr ⟨v,fun p f=>?_⟩;rcases List.mem_cons.1 f with rfl | f
    ·exact fun e=>c e.symm
    ·exact z p f
theorem vB:∀ {l:Qw} {i:Nat} {o:Obj},(l.map (·.1)).Nodup→(i,o)∈l→look l i=some o
 | (j,x)::r,i,o,hn,c=>by
  simp only[List.map_cons,List.nodup_cons]at hn;simp only[look];rcases List.mem_cons.1 c with e | c
  ·cases e;rw[if_pos rfl]
  ·rw[if_neg (fun e=>hn.1 (List.mem_map.2 ⟨(i,o),c,e.symm⟩))];exact vB hn.2 c
end
section
variable{P:Program}{Bw:Nat→Prop}{w0:cu P}{ρ:Nat→QW}{φ:Nat→Nat→Prop}{h:Nat→Qz}{w:World}{new:Nat}{g:QV}
theorem tQ{i:Nat}{o:Obj}(hi:less g h i=some o):h i=some o∧i ∉ g:=by
 unfold less at hi;split at hi
 ·cases hi
 ·rename_i c;exact⟨hi,by simpa using c⟩
def tB(φ:Nat→Nat→Prop)(h:Nat→Qz)(g:QV)(k:Nat):Prop:=∃id o,id∈g∧h id=some o∧o.live=true∧φ id k
theorem gJ{f:Nat→Nat}{o:Obj}:(om f o).live=o.live:=by
 cases o with
 | mat e c A j hole=>cases hole <;> rfl
 | nds e c p hole=>cases hole <;> rfl
 | _=>rfl
theorem Hn{k:Nat}(hk:tB φ h g k):own φ h k:=by
 obtain⟨id,o,_,c,e,f⟩:=hk;exact⟨id,o,c,e,f⟩
def fe(m:Mem Bw w0 ρ φ h w)(g:QV):cu P :=
 ⟨w,fun k=>k<w.heap.size∧¬tB φ h g k,fun _ hk=>hk.1,fun i=>if i<g.length then ρ (g.getD i 0)else none,m.kp.laid,
  fun k hk=>⟨Nat.lt_of_lt_of_le (w0.lt k (w0.lk k hk)) m.kp.size,fun c=>m.ow k (Hn c) (w0.lk k hk)⟩⟩
theorem CP(m:Mem Bw w0 ρ φ h w){x y:ag}(hd:zO g (less g h) x=some y){v:Value}(f:V (Fr (own φ h) Bw w) ρ x v)
  {F':Bool→Addr→Value→Prop} (L:nj φ h Bw w (less g h) F'):V F' (fe m g).pd y v:=by
 unfold zO at hd;split at hd
 ·rename_i j;cases hd;simp only[Bool.and_eq_true,List.all_eq_true,List.contains_eq_mem,decide_eq_true_eq]at j;refine L6 (ρ:=ρ) (fun i c=>?_) (V.mono L.hA (fun _ _ h=>h) f);have:=j.1 i c;simp only[fe];rw[if_pos (Jk this),BT this]
 ·exact V.mono (fun _ _ _ h=>h) (fun _ _ e=>by cases e) (yd m L hd f)
theorem mH(m:Mem Bw w0 ρ φ h w){F':Bool→Addr→Value→Prop}(L:nj φ h Bw w (less g h) F'):
  ∀ {xs ys:List ag},sn g (less g h) xs=some ys→∀ {c:QY},iP (Fr (own φ h) Bw w) ρ xs c→iP F' (fe m g).pd ys c
 | [],ys,hd,c,e=>by
  cases hd;cases c with
  | nil=>trivial
  | cons _ _=>exact e.elim
 | x::xs,ys,hd,c,e=>by
  simp only[sn]at hd;split at hd
  ·rename_i y j p q;cases hd;cases c with
   | nil=>exact e.elim
   | cons v c=>exact⟨CP m p e.1 L,mH m L q e.2⟩
  ·cases hd
theorem rq(m:Mem Bw w0 ρ φ h w)(hn:g.Nodup){hin:Qw}(hi:jW g h 0 g=some hin):
  Mem (qx φ (less g h) Bw) (fe m g) (fe m g).pd (fun i=>φ (g.getD i 0)) (fun i=>look hin i) w ∧
  nj φ h Bw w (less g h) (Fr (own (fun i=>φ (g.getD i 0)) (fun i=>look hin i)) (qx φ (less g h) Bw) w):=by
 have c:∀i o,look hin i=some o→i<g.length∧∃B,h (g.getD i 0)=some B∧o=om (JL g) B∧∀k∈o8 B,k∈g:=fun i o e=>by obtain⟨id,B,_,z,A,E,X⟩:=wR hi e;simp only[Nat.sub_zero]at z;have p:=(List.getElem?_eq_some_iff.1 z).1;refine⟨p,B,?_,E,X⟩;rw[List.getD_eq_getElem?_getD,z];exact A
 have L:∀i,i<g.length→g.getD i 0∈g:=fun i p=>by rw[List.getD_eq_getElem?_getD,List.getElem?_eq_getElem p];exact List.getElem_mem p
 have I:∀k,own (fun i=>φ (g.getD i 0)) (fun i=>look hin i) k→tB φ h g k:=fun k ⟨i,o,C,z,A⟩=>by obtain⟨p,B,D,O,_⟩:=c i o C;subst O;rw[gJ]at z;exact⟨_,B,L i p,D,z,A⟩
 have M:∀k,tB φ h g k→own φ h k:=fun k ⟨id,o,_,z,A,E⟩=>⟨id,o,z,A,E⟩
 have J:∀k,own φ (less g h) k→own φ h k∧¬tB φ h g k:=fun k ⟨id,o,C,z,A⟩=>by obtain⟨D,O⟩:=tQ C;refine⟨⟨id,o,D,z,A⟩,fun⟨Y,B,Z,s2,s3,s4⟩=>?_⟩;have:=m.dj id Y o B k D z s2 s3 A s4;subst this;exact O Z
 have hF:∀β a v,Fr (own φ h) Bw w β a v→Fr (own (fun i=>φ (g.getD i 0)) (fun i=>look hin i)) (qx φ (less g h) Bw) w β a v:=fun β a v V =>
  ⟨fun e=>V.1 (M _ (I _ e)),fun e hk=>hk.elim (fun q=>V.1 (J _ q).1) (V.2.1 e),V.2.2⟩
 refine⟨⟨fun i o e=>?_,fun i o k C z A=>?_,fun i j o B k C z A E X q6=>?_,fun k hk=>?_,fun k hk a1=>a1.2 (I k hk),Kept.refl _,fun _ _ e=>e⟩,⟨fun i o e=>(tQ e).1,hF,fun id o a v C z A E=>?_⟩⟩
 ·obtain⟨p,B,D,rfl,r3⟩:=c i o e;obtain⟨u,Z,s2⟩:=m.ob _ _ D;refine⟨u,by simp only[fe];rw[if_pos p];exact Z,?_⟩;refine KZ (ρ:=ρ) (fun j hj=>?_) (OR.mono hF (fun _ _ h=>h) (fun _ h=>h) (fun _ _ _=>rfl) s2);have:=r3 j hj;simp only[fe];rw[if_pos (Jk this),BT this]
 ·obtain⟨p,B,D,rfl,r3⟩:=c i o C;rw[gJ]at z;exact m.lt _ _ k D z A
 ·obtain⟨p,o1,D,rfl,_⟩:=c i o C;obtain⟨N,o2,a2,rfl,_⟩:=c j B A;rw[gJ]at z E;have:=m.dj _ _ _ _ k D z a2 E X q6;rw[←p8 hn p,←p8 hn N,this]
 ·rcases hk with hk | hk
  ·obtain⟨C,z⟩:=J k hk;exact⟨m.rB C,z⟩
  ·have:=m.bw k hk;exact⟨Nat.lt_of_lt_of_le (w0.lt k this) m.kp.size,fun e=>m.ow k (M k e) this⟩
 ·obtain⟨D,O⟩:=tQ C;refine⟨fun e=>?_,fun e=>(by cases e),World.fq E⟩;exact(J _ ⟨id,o,C,z,A⟩).2 (I _ e)
theorem rG(m:Mem Bw w0 ρ φ h w)(hn:g.Nodup)(ac:∀j,j<8→ρ (new+j)=none)(hg:∀i∈g,∃o,h i=some o){hout:Qw}{r:ag}(ax:vI g hout r=true)
  {a4:Nat→QW} {N:Nat→Nat→Prop} {w':World} (m':Mem (qx φ (less g h) Bw) (fe m g) a4 N (fun i=>look hout i) w') {v:Value}
  (hv:V (Fr (own N (fun i=>look hout i)) (qx φ (less g h) Bw) w') a4 r v) :
  aG Bw w0 ρ φ h w new (mv (tR g new) r) (vZ g new hout) v w':=by
 simp only[vI,Bool.and_eq_true,List.all_eq_true,decide_eq_true_eq]at ax;obtain⟨⟨⟨⟨_,k1⟩,k2⟩,k3⟩,k4⟩:=ax;have b2:=kU k1;have aa:∀i∈g,∃u,ρ i=some u:=fun i hi=>by obtain⟨o,ho⟩:=hg i hi;obtain⟨u,q,_⟩:=m.ob i o ho;exact⟨u,q⟩
 have a7:∀i∈g,¬(new≤i∧i<new+8):=fun i hi ⟨e1,e2⟩=>by obtain⟨u,q⟩:=aa i hi;have:=ac (i - new) (by omega);rw[show new+(i - new)=i by omega,q]at this;cases this
 have a3:∀i,i<g.length→g.getD i 0∈g:=fun i O=>by rw[List.getD_eq_getElem?_getD,List.getElem?_eq_getElem O];exact List.getElem_mem O
 let Z:Nat→QW:=fun i=>if new≤i∧i<new+8 then a4 (g.length+(i - new))else ρ i
 let E:Nat→Nat→Prop:=fun i=>if new≤i∧i<new+8 then N (g.length+(i - new))else if i∈g then N (JL g i)else φ i
 have a8:∀i u,ρ i=some u→Z i=some u:=fun i u hi=>by
  simp only[Z];split
  ·rename_i hc;have:=ac (i - new) (by omega);rw[show new+(i - new)=i by omega,hi]at this;cases this
  ·exact hi
 have a5:∀i,i<g.length+8→Z (tR g new i)=a4 i:=fun i hi=>by
  unfold tR;split
  ·rename_i O;have Y:=a3 i O;simp only[Z];rw[if_neg (a7 _ Y)];obtain⟨u,q⟩:=aa _ Y;have:=m'.pd i u (by simp only[fe];rw[if_pos O];exact q);rw[q,this]
  ·simp only[Z];rw[if_pos (by omega)];congr 1;omega
 have A:∀i,i<g.length+8→E (tR g new i)=N i:=fun i hi=>by
  unfold tR;split
  ·rename_i O;have Y:=a3 i O;simp only[E];rw[if_neg (a7 _ Y),if_pos Y,p8 hn O]
  ·simp only[E];rw[if_pos (by omega)];congr 1;omega
 have b3:∀i j,i<g.length+8→j<g.length+8→tR g new i=tR g new j→i=j:=fun i j hi hj e=>by
  unfold tR at e;split at e <;> split at e
  ·rename_i Y h2;rw[←p8 hn Y,←p8 hn h2,e]
  ·rename_i Y h2;exact absurd ⟨by omega,by omega⟩ (a7 _ (a3 i Y))
  ·rename_i Y h2;exact absurd ⟨by omega,by omega⟩ (a7 _ (a3 j h2))
  ·omega
 have B:∀id o,apply (vZ g new hout) h id=some o→(id ∉ g∧h id=some o∧¬(new≤id∧id<new+8)) ∨
   ∃i z,look hout i=some z∧i<g.length+8∧(∀j∈o8 z,j<g.length+8)∧AO z=true∧id=tR g new i∧o=om (tR g new) z:=fun id o e=>by
  rcases xV e with hm | ⟨M,c⟩
  ·right
   simp only[vZ,List.mem_append,List.mem_map]at hm;rcases hm with⟨i,_,e⟩ | ⟨⟨i,z⟩,hm,e⟩
   ·simp at e
   ·simp only[Prod.mk.injEq,Option.some.injEq]at e;have:=k4 _ hm;exact⟨i,z,vB b2 hm,this.1.2,this.2,this.1.1,e.1.symm,e.2.symm⟩
  ·left
   refine⟨fun hi=>c (id,none) (by simp[vZ,hi]) rfl,M,fun hc=>?_⟩;obtain⟨u,D,_⟩:=m.ob id o M;have:=ac (id - new) (by omega);rw[show new+(id - new)=id by omega,D]at this;cases this
 have C:∀id,id ∉ g→¬(new≤id∧id<new+8)→E id=φ id:=fun id Y h2=>by simp only[E];rw[if_neg h2,if_neg Y]
 have a9:∀k,tB φ h g k→own φ h k:=fun k ⟨id,o,_,c,p,X⟩=>⟨id,o,c,p,X⟩
 have I:∀i z k,look hout i=some z→z.live=true→N i k→w.heap.size≤k∨tB φ h g k:=fun i z k M c p=>by
  have:=m'.ow k ⟨i,z,M,c,p⟩;by_cases hk:k<w.heap.size
  ·exact .inr (Classical.byContradiction fun hh=>this ⟨hk,hh⟩)
  ·exact .inl (by omega)
 have a1:∀id o k,id ∉ g→h id=some o→o.live=true→φ id k→k<w.heap.size∧¬tB φ h g k:=fun id o k M c p X=>by refine⟨m.lt id o k c p X,fun⟨a2,z,s1,s2,s3,s4⟩=>?_⟩;have:=m.dj id a2 o z k c p s2 s3 X s4;subst this;exact M s1
 have J:∀k,k<w.heap.size→¬tB φ h g k→w'.heap[k]? = w.heap[k]? :=fun k Y h2=>m'.kp.block k ⟨Y,h2⟩
 have a6:∀k,own E (apply (vZ g new hout) h) k→(∃id o,id ∉ g∧h id=some o∧o.live=true∧φ id k)∨own N (fun i=>look hout i) k:=fun k ⟨id,o,M,c,p⟩=>by
  rcases B id o M with⟨D,L,r3⟩ | ⟨i,z,D,L,r3,r4,rfl,rfl⟩
  ·rw[C id D r3]at p;exact .inl ⟨id,o,D,L,c,p⟩
  ·rw[A i L]at p;rw[gJ]at c;exact .inr ⟨i,z,D,c,p⟩
 have hF:∀β a v,Fr (own φ h) Bw w β a v→Fr (own E (apply (vZ g new hout) h)) Bw w' β a v:=fun β a v=>Fr.Ls (fun k Y h2=>J k Y fun e=>h2 (a9 k e)) (fun k hk=>by
  rcases a6 k hk with⟨id,o,_,c,p,X⟩ | ⟨i,z,M,c,p⟩
  ·exact .inl ⟨id,o,c,p,X⟩
  ·exact(I i z k M c p).elim .inr (fun e=> .inl (a9 k e))) β a v
 have b1:∀a v,Fr (own N (fun i=>look hout i)) (qx φ (less g h) Bw) w' false a v→∀β,Fr (own E (apply (vZ g new hout) h)) Bw w' β a v:=fun a v hh β=>by
  refine⟨fun e=>?_,fun _ hb=>hh.2.1 rfl (.inr hb),hh.2.2⟩;rcases a6 _ e with⟨id,o,M,c,p,X⟩ | q
  ·exact hh.2.1 rfl (.inl ⟨id,o,by unfold less;rw[if_neg (by simpa using M)];exact c,p,X⟩)
  ·exact hh.1 q
 have b4:(fe m g).w=w:=rfl;refine⟨Z,E,⟨fun id o e=>?_,fun id o k M c p=>?_,fun id a2 o z k M c p X q5 q6=>?_,m.bw,fun k hk ad=>?_,?_,fun i u hi=>a8 i u (m.pd i u hi)⟩,hF,a8,fun i u hi=>?_,?_⟩
 ·rcases B id o e with⟨D,L,r3⟩ | ⟨i,z,D,L,r3,r4,rfl,rfl⟩
  ·obtain⟨u,s1,s2⟩:=m.ob id o L;refine⟨u,a8 id u s1,?_⟩;rw[C id D r3];exact OR.mono hF a8 (fun _ h=>h) (fun hl k hk=>by
    obtain⟨t1,t2⟩:=a1 id o k D L hl hk;exact J k t1 t2) s2
  ·obtain⟨u,s1,s2⟩:=m'.ob i z D;refine⟨u,by rw[a5 i L];exact s1,?_⟩;rw[A i L];refine KZ (ρ:=a4) (fun j hj=>a5 j (r3 j hj)) ?_;exact OR.mono (fun β a v hh=>b1 a v hh β) (fun _ _ h=>h) (fun _ h=>h) (fun _ _ _=>rfl) (HE r4 s2)
 ·rcases B id o M with⟨D,L,r3⟩ | ⟨i,z,D,L,r3,r4,rfl,rfl⟩
  ·rw[C id D r3]at p;exact Nat.lt_of_lt_of_le (m.lt id o k L c p) m'.kp.size
  ·rw[A i L]at p;rw[gJ]at c;exact m'.lt i z k D c p
 ·rcases B id o M with⟨D,L,r3⟩ | ⟨i,o1,D,L,r3,r4,rfl,rfl⟩ <;> rcases B a2 z p with⟨s1,s2,s3⟩ | ⟨j,o2,s1,s2,s3,s4,rfl,rfl⟩
  ·rw[C id D r3]at q5;rw[C a2 s1 s3]at q6;exact m.dj id a2 o z k L c s2 X q5 q6
  ·rw[C id D r3]at q5;rw[A j s2]at q6;rw[gJ]at X;obtain⟨t1,t2⟩:=a1 id o k D L c q5;rcases I j o2 k s1 X q6 with t3 | t3
   ·omega
   ·exact absurd t3 t2
  ·rw[A i L]at q5;rw[C a2 s1 s3]at q6;rw[gJ]at c;obtain⟨t1,t2⟩:=a1 a2 z k s1 s2 X q6;rcases I i o1 k D c q5 with t3 | t3
   ·omega
   ·exact absurd t3 t2
  ·rw[A i L]at q5;rw[A j s2]at q6;rw[gJ]at c X;rw[m'.dj i j o1 o2 k D c s1 X q5 q6]
 ·rcases a6 k hk with⟨id,o,_,c,p,X⟩ | ⟨i,z,M,c,p⟩
  ·exact m.ow k ⟨id,o,c,p,X⟩ ad
  ·rcases I i z k M c p with t | t
   ·have:=w0.lt k ad;have:=m.kp.size;omega
   ·exact m.ow k (a9 k t) ad
 ·refine⟨m'.kp.os.trans m.kp.os,m'.kp.tape.trans m.kp.tape,m'.kp.output.trans m.kp.output,Nat.le_trans m.kp.size m'.kp.size,fun k hk=>?_⟩;rw[J k (Nat.lt_of_lt_of_le (w0.lt k hk) m.kp.size) (fun e=>m.ow k (a9 k e) hk)];exact m.kp.block k hk
 ·simp only[Z]at hi;split at hi
  ·rename_i hc;exact .inr ⟨i - new,by omega,by omega⟩
  ·exact .inl hi
 ·exact L6 (ρ:=a4) (fun i hi=>a5 i (k3 i hi)) (V.mono (fun β a v hh=>b1 a v hh β) (fun _ _ h=>h) (wh k2 hv))
theorem qn:∀ {l:QV} {i:Nat} {hin:Qw},jW g h i l=some hin→∀id∈l,∃o,h id=some o
 | [],_,_,_,id,c=>by cases c
 | x::r,i,hin,e,id,c=>by
  simp only[jW]at e;split at e
  ·rename_i j p;split at e
   ·split at e
    ·rename_i q hl;rcases List.mem_cons.1 c with rfl | c
     ·exact⟨j,p⟩
     ·exact qn hl id c
    ·cases e
   ·cases e
  ·cases e
theorem H4(m:Mem Bw w0 ρ φ h w)(Z:∀j,j<8→ρ (new+j)=none){o:Oper}{a:Act}{fo:Operand}{q:Array Operand}{a1:Array TypeId}(ho:o.op = .call { callee:= .value fo,args:=q,argTypes:=a1 })
  {f:FuncId} {z:List ag} (hf:V (Fr (own φ h) Bw w) ρ (.fn f z) (a.eval fo)) {xs:List ag} (hx:iP (Fr (own φ h) Bw w) ρ xs (q.toList.map a.eval)) {args:List ag} (hl:sn g (less g h) (xs++z)=some args)
  {hin:Qw} (hi:jW g h 0 g=some hin) {r:ag} {hout:Qw} (D:vI g hout r=true)
  (hp:fP P f args hin r hout):Good P o a w (aG Bw w0 ρ φ h w new (mv (tR g new) r) (vZ g new hout)):=by
 simp only[V]at hf;obtain⟨Y,a2,a3,E⟩:=hf;obtain⟨fn,a4,I,B⟩:=hp.fn;have J:∀(O:List ag) (p:QY),p.length=O.length→VL (Fr (own φ h) Bw w) ρ O (fun k u=>p[k]? = some u)→iP (Fr (own φ h) Bw w) ρ O p:=fun O=>by
  induction O with
  | nil=>intro p hl _;cases p with | nil=>trivial | cons _ _=>simp at hl
  | cons c O ih =>
   intro p hl C;cases p with
   | nil=>simp at hl
   | cons u p =>simp only[VL]at C;obtain⟨⟨u',q1,q2⟩,q3⟩:=C;simp at q1;subst q1;exact⟨q2,ih p (by simpa using hl) (VL.mono (fun _ _ _ h=>h) (fun _ _ h=>h) (fun k u hk=>by simpa using hk) q3)⟩
 have X:∀(xs:List ag) (p:QY),iP (Fr (own φ h) Bw w) ρ xs p→iP (Fr (own φ h) Bw w) ρ (xs++z) (p++Y.toList):=fun xs=>by
  induction xs with
  | nil =>
   intro p C;cases p with
   | nil=>exact J z Y.toList (by simpa using a3) (VL.mono (fun _ _ _ h=>h) (fun _ _ h=>h) (fun k u hk=>by simpa using hk) E)
   | cons _ _=>exact C.elim
  | cons x xs ih =>
   intro p C;cases p with
   | nil=>exact C.elim
   | cons u p=>exact⟨C.1,ih p C.2⟩
 have hn:g.Nodup:=by simp only[vI,Bool.and_eq_true]at D;exact kU D.1.1.1.1
 obtain⟨mc,L⟩:=rq m hn hi;have M:=mH m L hl (X xs _ hx);have N:=hp.calls (qx φ (less g h) Bw) (fe m g) (fun i=>φ (g.getD i 0)) (q.map a.eval++Y) mc (by rw[Array.toList_append,Array.toList_map];exact M) (fun i u e=>by
  rw[kJ hi];simp only[fe]at e;split at e
  ·assumption
  ·cases e)
 refine Good.td (f:=f) (args:=q.map a.eval++Y) (w':=w) ?_ (N.mono fun e w' ⟨v,a6,a7,he,a5,C⟩=>⟨v,he,?_⟩)
 ·have n1:¬fn.name = "runtime.NumGoroutine" :=by simpa using I
  have n2:¬fn.body=none:=fun e=>by rw[e]at B;cases B
  simp[execOp,ho,resolve,a2,Deferred.ofValue,invoke,callFunc,a4,n1,n2]
 ·exact rG m hn Z (qn hi) D a5 C
theorem Kh(m:Mem Bw w0 ρ φ h w)(Z:∀j,j<8→ρ (new+j)=none){o:Oper}{a:Act}{fo:Operand}{q:Array Operand}{a1:Array TypeId}(ho:o.op = .call { callee:= .value fo,args:=q,argTypes:=a1 })
  {f:FuncId} {z:List ag} (hf:V (Fr (own φ h) Bw w) ρ (.fn f z) (a.eval fo)) {B:List ag} (hx:iP (Fr (own φ h) Bw w) ρ B (q.toList.map a.eval)) {args:List ag} (hl:sn g (less g h) (B++z)=some args)
  {hin:Qw} (hi:jW g h 0 g=some hin) (D:vI g [] .unk=true) {x:Value}
  (hp:j7 P f args hin x):Mx P o a w x (fun w'=>∃v,aG Bw w0 ρ φ h w new .unk (vZ g new []) v w'):=by
 simp only[V]at hf;obtain⟨Y,a2,a3,E⟩:=hf;obtain⟨fn,a4,I,A⟩:=hp.fn;have J:∀(O:List ag) (p:QY),p.length=O.length→VL (Fr (own φ h) Bw w) ρ O (fun k u=>p[k]? = some u)→iP (Fr (own φ h) Bw w) ρ O p:=fun O=>by
  induction O with
  | nil=>intro p hl _;cases p with | nil=>trivial | cons _ _=>simp at hl
  | cons c O ih =>
   intro p hl C;cases p with
   | nil=>simp at hl
   | cons u p =>simp only[VL]at C;obtain⟨⟨u',q1,q2⟩,q3⟩:=C;simp at q1;subst q1;exact⟨q2,ih p (by simpa using hl) (VL.mono (fun _ _ _ h=>h) (fun _ _ h=>h) (fun k u hk=>by simpa using hk) q3)⟩
 have X:∀(B:List ag) (p:QY),iP (Fr (own φ h) Bw w) ρ B p→iP (Fr (own φ h) Bw w) ρ (B++z) (p++Y.toList):=fun B=>by
  induction B with
  | nil =>
   intro p C;cases p with
   | nil=>exact J z Y.toList (by simpa using a3) (VL.mono (fun _ _ _ h=>h) (fun _ _ h=>h) (fun k u hk=>by simpa using hk) E)
   | cons _ _=>exact C.elim
  | cons x B ih =>
   intro p C;cases p with
   | nil=>exact C.elim
   | cons u p=>exact⟨C.1,ih p C.2⟩
 have hn:g.Nodup:=by simp only[vI,Bool.and_eq_true]at D;exact kU D.1.1.1.1
 obtain⟨mc,L⟩:=rq m hn hi;have M:=mH m L hl (X B _ hx);have N:=hp.calls (qx φ (less g h) Bw) (fe m g) (fun i=>φ (g.getD i 0)) (q.map a.eval++Y) mc (by rw[Array.toList_append,Array.toList_map];exact M) (fun i u e=>by
  rw[kJ hi];simp only[fe]at e;split at e
  ·assumption
  ·cases e)
 refine Mx.td (f:=f) (args:=q.map a.eval++Y) (w':=w) ?_ (N.mono fun e w' ⟨a6,a7,he,a5⟩=>⟨he,undef,?_⟩)
 ·have n1:¬fn.name = "runtime.NumGoroutine" :=by simpa using I
  have n2:¬fn.body=none:=fun e=>by rw[e]at A;cases A
  simp[execOp,ho,resolve,a2,Deferred.ofValue,invoke,callFunc,a4,n1,n2]
 ·exact rG m hn Z (qn hi) (r:= .unk) D a5 trivial
end
end Go.Tv
