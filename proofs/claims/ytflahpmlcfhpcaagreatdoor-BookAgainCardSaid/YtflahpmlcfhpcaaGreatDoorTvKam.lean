import Derived.Test.YtflahpmlcfhpcaaGreatDoorTvK
namespace Go.Tv
open Go Go.RowKit
def look{α:Type}:List (Nat×α)→Nat→Option α
 | [],_=>none
 | (k,x)::r,i=>if k=i then some x else look r i
theorem mW{α:Type}:∀ {l:List (Nat×α)} {t:Nat} {x:α},look l t=some x→(t,x)∈l
 | [],_,_,h=>by cases h
 | (k,y)::r,t,x,h=>by
  simp only[look]at h;split at h
  ·rename_i e;cases h;subst e;simp
  ·exact List.mem_cons_of_mem _ (mW h)
mutual
def ids:ag→QV
 | .sl i=>[i]
 | .mp i=>[i]
 | .adr i _ _ _=>[i]
 | .ada i _ _ _=>[i]
 | .fad _ cs _=>bz cs
 | .agg cs=>bz cs
 | .tup cs=>bz cs
 | .fn _ cs=>bz cs
 | .p _ _ _=>[]
 | .nils=>[]
 | .nilp=>[]
 | .lit _=>[]
 | .lag _ _ _ cs=>bz cs
 | .loc _ _ _=>[]
 | .suf i _ _=>[i]
 | .bfn _ cs=>bz cs
 | .unk=>[]
def bz:List ag→QV
 | []=>[]
 | x::xs=>ids x++bz xs
end
theorem cK{i:Nat}:∀ {xs:List ag},i∈bz xs↔∃x∈xs,i∈ids x
 | []=>by simp[bz]
 | x::xs=>by simp[bz,cK (xs:=xs)]
def n9:Obj→QV
 | .box e=>bz e
 | .lmp _ _ _ e=>bz e
 | .vrow _ _ e=>bz e
 | .mat _ _ _ _ (some (_,id))=>[id]
 | .nds _ _ _ (some (_,_,id))=>[id]
 | _=>[]
mutual
def lT(f:Nat→Nat):ag→ag
 | .sl i=> .sl (f i)
 | .mp i=> .mp (f i)
 | .adr i k sz off=> .adr (f i) k sz off
 | .ada i b n k=> .ada (f i) b n k
 | .fad β e off=> .fad β (oZ f e) off
 | .agg e=> .agg (oZ f e)
 | .tup e=> .tup (oZ f e)
 | .fn g e=> .fn g (oZ f e)
 | .p β T x=> .p β T x
 | .nils=> .nils
 | .nilp=> .nilp
 | .lit v=> .lit v
 | .lag k n j e=> .lag k n j (oZ f e)
 | .loc β T x=> .loc β T x
 | .suf i q sz=> .suf (f i) q sz
 | .bfn g e=> .bfn g (oZ f e)
 | .unk=> .unk
def oZ(f:Nat→Nat):List ag→List ag
 | []=>[]
 | x::j=>lT f x::oZ f j
end
theorem bD(f:Nat→Nat):∀e:List ag,(oZ f e).length=e.length
 | []=>rfl
 | x::e=>by simp[oZ,bD f e]
def nb(f:Nat→Nat):Obj→Obj
 | .box j=> .box (oZ f j)
 | .lmp k n u j=> .lmp k n u (oZ f j)
 | .vrow n sz j=> .vrow n sz (oZ f j)
 | .mat e p A q (some (k,id))=> .mat e p A q (some (k,f id))
 | .nds e p v (some (k,g,id))=> .nds e p v (some (k,g,f id))
 | o=>o
mutual
theorem IU{F:Bool→Addr→Value→Prop}{ρ ρ':Nat→QW}{f:Nat→Nat}:∀ {x:ag} {v:Value},(∀i∈ids x,ρ' i=ρ (f i))→V F ρ (lT f x) v→V F ρ' x v
 | .p _ _ _,_,_,j=>by simpa only [lT,V]using j
 | .nils,_,_,j=>by simpa only [lT,V]using j
 | .nilp,_,_,j=>by simpa only [lT,V]using j
 | .lit _,_,_,j=>by simpa only [lT,V]using j
 | .unk,_,_,_=>by simp only[V]
 | .sl i,_,h,j=>by
  simp only[lT,V]at j ⊢;rw[h i (by simp[ids])];exact j
 | .mp i,_,h,j=>by
  simp only[lT,V]at j ⊢;rw[h i (by simp[ids])];exact j
 | .ada i _ _ _,_,h,j=>by
  simp only[lT,V]at j ⊢;rw[h i (by simp[ids])];exact j
 | .adr i _ _ _,_,h,j=>by
  simp only[lT,V]at j ⊢;rw[h i (by simp[ids])];exact j
 | .fad _ A _,_,h,j=>by
  simp only[lT,V]at j ⊢;obtain⟨C,e,hl⟩:=j;exact⟨C,e,mr (fun i hi=>h i (by simpa only [ids]using hi)) hl⟩
 | .agg A,_,h,j=>by
  simp only[lT,V,bD]at j ⊢;obtain⟨q,e,z,hl⟩:=j;exact⟨q,e,z,mr (fun i hi=>h i (by simpa only [ids]using hi)) hl⟩
 | .tup A,_,h,j=>by
  simp only[lT,V,bD]at j ⊢;obtain⟨q,e,z,hl⟩:=j;exact⟨q,e,z,mr (fun i hi=>h i (by simpa only [ids]using hi)) hl⟩
 | .fn _ A,_,h,j=>by
  simp only[lT,V,bD]at j ⊢;obtain⟨q,e,z,hl⟩:=j;exact⟨q,e,z,mr (fun i hi=>h i (by simpa only [ids]using hi)) hl⟩
 | .lag _ _ _ A,_,h,j=>by
  simp only[lT,V,bD]at j ⊢;obtain⟨q,e,z,hl⟩:=j;exact⟨q,e,z,mr (fun i hi=>h i (by simpa only [ids]using hi)) hl⟩
 | .loc _ _ _,_,_,j=>by simpa only [lT,V]using j
 | .suf i _ _,_,h,j=>by
  simp only[lT,V]at j ⊢;rw[h i (by simp[ids])];exact j
 | .bfn _ A,_,h,j=>by simp only[lT,V,bD]at j ⊢;obtain⟨q,e,z,hl⟩:=j;exact⟨q,e,z,mr (fun i hi=>h i (by simpa only [ids]using hi)) hl⟩
theorem mr{F:Bool→Addr→Value→Prop}{ρ ρ':Nat→QW}{f:Nat→Nat}:∀ {B:List ag} {g:Nat→Value→Prop},(∀i∈bz B,ρ' i=ρ (f i))→VL F ρ (oZ f B) g→VL F ρ' B g
 | [],_,_,_=>by simp only[VL]
 | x::B,_,h,j=>by simp only[oZ,VL]at j ⊢;obtain⟨⟨u,D,E⟩,I⟩:=j;exact⟨⟨u,D,IU (fun i hi=>h i (by simp[bz,hi])) E⟩,mr (fun i hi=>h i (by simp[bz,hi])) I⟩
end
def vE(h:Nat→Qz)(xs:List ag):QV :=
 bz xs++(bz xs).flatMap fun i=>match h i with
  | some (.box e)=>bz e
  | _=>[]
/-! ### j other p round -/
mutual
theorem JL{F:Bool→Addr→Value→Prop}{ρ q:Nat→QW}{f:Nat→Nat}:∀ {x:ag} {v:Value},(∀i∈ids x,q (f i)=ρ i)→V F ρ x v→V F q (lT f x) v
 | .p _ _ _,_,_,j=>by simpa only [lT,V]using j
 | .nils,_,_,j=>by simpa only [lT,V]using j
 | .nilp,_,_,j=>by simpa only [lT,V]using j
 | .lit _,_,_,j=>by simpa only [lT,V]using j
 | .unk,_,_,_=>by simp only[lT,V]
 | .sl i,_,h,j=>by
  simp only[lT,V]at j ⊢;rw[h i (by simp[ids])];exact j
 | .mp i,_,h,j=>by
  simp only[lT,V]at j ⊢;rw[h i (by simp[ids])];exact j
 | .ada i _ _ _,_,h,j=>by
  simp only[lT,V]at j ⊢;rw[h i (by simp[ids])];exact j
 | .adr i _ _ _,_,h,j=>by
  simp only[lT,V]at j ⊢;rw[h i (by simp[ids])];exact j
 | .fad _ B _,_,h,j=>by
  simp only[lT,V]at j ⊢;obtain⟨D,e,hl⟩:=j;exact⟨D,e,pQ (fun i hi=>h i (by simpa only [ids]using hi)) hl⟩
 | .agg B,_,h,j=>by
  simp only[lT,V,bD]at j ⊢;obtain⟨z,e,A,hl⟩:=j;exact⟨z,e,A,pQ (fun i hi=>h i (by simpa only [ids]using hi)) hl⟩
 | .tup B,_,h,j=>by
  simp only[lT,V,bD]at j ⊢;obtain⟨z,e,A,hl⟩:=j;exact⟨z,e,A,pQ (fun i hi=>h i (by simpa only [ids]using hi)) hl⟩
 | .fn _ B,_,h,j=>by
  simp only[lT,V,bD]at j ⊢;obtain⟨z,e,A,hl⟩:=j;exact⟨z,e,A,pQ (fun i hi=>h i (by simpa only [ids]using hi)) hl⟩
 | .lag _ _ _ B,_,h,j=>by
  simp only[lT,V,bD]at j ⊢;obtain⟨z,e,A,hl⟩:=j;exact⟨z,e,A,pQ (fun i hi=>h i (by simpa only [ids]using hi)) hl⟩
 | .loc _ _ _,_,_,j=>by simpa only [lT,V]using j
 | .suf i _ _,_,h,j=>by
  simp only[lT,V]at j ⊢;rw[h i (by simp[ids])];exact j
 | .bfn _ B,_,h,j=>by simp only[lT,V,bD]at j ⊢;obtain⟨z,e,A,hl⟩:=j;exact⟨z,e,A,pQ (fun i hi=>h i (by simpa only [ids]using hi)) hl⟩
theorem pQ{F:Bool→Addr→Value→Prop}{ρ q:Nat→QW}{f:Nat→Nat}:∀ {C:List ag} {g:Nat→Value→Prop},(∀i∈bz C,q (f i)=ρ i)→VL F ρ C g→VL F q (oZ f C) g
 | [],_,_,_=>by simp only[oZ,VL]
 | x::C,_,h,j=>by simp only[oZ,VL]at j ⊢;obtain⟨⟨u,E,I⟩,J⟩:=j;exact⟨⟨u,E,JL (fun i hi=>h i (by simp[bz,hi])) I⟩,pQ (fun i hi=>h i (by simp[bz,hi])) J⟩
end
theorem E2{F:Bool→Addr→Value→Prop}{ρ z:Nat→QW}{S:Nat→Prop}{w:World}{f:Nat→Nat}{e E:TypeId}{A:Ty}{B:List (List A.den)}{hole:Option (Nat×Nat)}{u:Value}
  (h:∀k id,hole=some (k,id)→z (f id)=ρ id) (O:OR F ρ S w (.mat e E A B hole) u):OR F z S w (nb f (.mat e E A B hole)) u:=by
 obtain⟨I,J,hk,cells,L,M,N⟩:=O;cases hole with
 | none=>exact⟨I,J,hk,cells,L,fun i hi=>(M i hi).imp fun v q=>⟨q.1,q.2.1,q.2.2.1,fun id e=>by cases e⟩,N⟩
 | some p =>
  obtain⟨k,id⟩:=p;have x:∀i,Ai (some (k,f id)) i→Ai (some (k,id)) i:=fun i V X C e=>by cases e;exact V k (f id) rfl
  refine⟨I,J,fun X C e=>(by cases e;exact hk k id rfl),cells,L,fun i hi=>?_,fun i j Y Z b D s1 s2=>N i j Y Z b D (x i s1) (x j s2)⟩;obtain⟨v,q1,q2,q3,q4⟩:=M i hi;exact⟨v,q1,q2,fun s=>q3 (x i s),fun C e=>by cases e;rw[h k id rfl];exact q4 id rfl⟩
theorem Cu{F:Bool→Addr→Value→Prop}{ρ ρ':Nat→QW}{S:Nat→Prop}{w:World}{f:Nat→Nat}{e M:TypeId}{A:Ty}{z:List (List A.den)}{hole:Option (Nat×Nat)}{u:Value}
  (h:∀k id,hole=some (k,id)→ρ' id=ρ (f id)) (N:OR F ρ S w (nb f (.mat e M A z hole)) u):OR F ρ' S w (.mat e M A z hole) u:=by
 cases hole with
 | none =>
  obtain⟨C,D,hk,cells,E,I,J⟩:=N;exact⟨C,D,hk,cells,E,fun i hi=>(I i hi).imp fun v q=>⟨q.1,q.2.1,q.2.2.1,fun id e=>by cases e⟩,J⟩
 | some p =>
  obtain⟨k,id⟩:=p;obtain⟨C,D,hk,cells,E,I,J⟩:=N;have x:∀i,Ai (some (k,id)) i→Ai (some (k,f id)) i:=fun i O V B e=>by cases e;exact O k id rfl
  refine⟨C,D,fun V B e=>(by cases e;exact hk k (f id) rfl),cells,E,fun i hi=>?_,fun i j X Y b L Z s2=>J i j X Y b L (x i Z) (x j s2)⟩;obtain⟨v,q1,q2,q3,q4⟩:=I i hi;exact⟨v,q1,q2,fun s=>q3 (x i s),fun B e=>by cases e;rw[h k id rfl];exact q4 (f id) rfl⟩
theorem tp{F:Bool→Addr→Value→Prop}{ρ ρ':Nat→QW}{S:Nat→Prop}{w:World}{e z:TypeId}{A:List Nd}{k i j:Nat}{g:Bool}{u:Value}
  (h:ρ' j=ρ i) (D:OR F ρ S w (.nds e z A (some (k,g,i))) u):OR F ρ' S w (.nds e z A (some (k,g,j))) u:=by
 obtain⟨E,hk,cells,I,J,L⟩:=D;have p:∀r f,mL (some (k,g,j)) r f→mL (some (k,g,i)) r f:=fun r f M N O q e=>by cases e;exact M k g j rfl
 refine⟨E,fun N O q e=>(by cases e;exact hk k g i rfl),cells,I,fun r f hi=>?_,fun r f B C V X b x Y Z=>L r f B C V X b x (p r f Y) (p B C Z)⟩;obtain⟨v,q1,q2,q3,q4⟩:=J r f hi;exact⟨v,q1,q2,fun s=>q3 (p r f s),fun q e=>by cases e;rw[h];exact q4 i rfl⟩
theorem tS{F:Bool→Addr→Value→Prop}{ρ ρ':Nat→QW}{S:Nat→Prop}{w:World}{e j:TypeId}{p:List Nd}{u:Value}
  (x:OR F ρ S w (.nds e j p none) u):OR F ρ' S w (.nds e j p none) u:=by
 obtain⟨z,hk,cells,A,B,C⟩:=x;exact⟨z,hk,cells,A,fun i f hi=>(B i f hi).imp fun v q=>⟨q.1,q.2.1,q.2.2.1,fun id e=>by cases e⟩,C⟩
theorem IP{F:Bool→Addr→Value→Prop}{ρ p:Nat→QW}{S:Nat→Prop}{w:World}{f:Nat→Nat}{o:Obj}{u:Value}(h:∀i∈n9 o,p (f i)=ρ i)(j:OR F ρ S w o u):OR F p S w (nb f o) u:=by
 cases o with
 | arr e A B=>exact j
 | fz A B =>
  simp only[nb,OR]at j ⊢;exact qd rfl j
 | box D =>
  obtain⟨g,t,cells,e,q,v,x,z⟩:=j;exact⟨g,t,cells,e,q,v,by rw[x,bD],pQ (fun i hi=>h i (by simpa only [n9]using hi)) z⟩
 | mpo K A E=>exact j
 | mpl K E=>exact j
 | mat e J A L hole=>exact E2 (fun k id e=>h id (by subst e;simp[n9])) j
 | bytes e B=>exact j
 | mpq b E=>exact j
 | nds e J M hole =>
  match hole with
  | none=>exact tS j
  | some (k,g,id)=>exact tp (h id (by simp[n9])) j
 | cutz A B =>
  simp only[nb,OR]at j ⊢;exact⟨j.1,qd rfl j.2⟩
 | lmp k n B D =>
  obtain⟨g,t,cells,e,q,v,x,z,C⟩:=j;exact⟨g,t,cells,e,q,v,by rw[x,bD],z,pQ (fun i hi=>h i (by simpa only [n9]using hi)) C⟩
 | vrow n sz D =>obtain⟨g,t,cells,e,q,v,x,z,C⟩:=j;exact⟨g,t,cells,e,q,v,by rw[x,bD],by rw[bD];exact z,pQ (fun i hi=>h i (by simpa only [n9]using hi)) C⟩
/-! ### I N not pG -/
mutual
def js:ag→Bool
 | .p β T _=> !T.refs || !β
 | .fad β e _=> !β && ik e
 | .agg e=>ik e
 | .tup e=>ik e
 | .fn _ e=>ik e
 | .sl _=>true
 | .mp _=>true
 | .adr _ _ _ _=>true
 | .ada _ _ _ _=>true
 | .nils=>true
 | .nilp=>true
 | .lit _=>true
 | .lag _ _ _ e=>ik e
 | .loc β _ _=> !β
 | .suf _ _ _=>true
 | .bfn _ e=>ik e
 | .unk=>true
def ik:List ag→Bool
 | []=>true
 | x::f=>js x && ik f
end
def yX:Obj→Bool
 | .box e=>ik e
 | .lmp _ _ _ e=>ik e
 | .vrow _ _ e=>ik e
 | _=>true
mutual
theorem ux{F:Bool→Addr→Value→Prop}{ρ:Nat→QW}:∀ {x:ag} {v:Value},js x=true→V F ρ x v→V (fun _=>F false) ρ x v
 | .p β T y,_,h,f=>by
  simp only[V]at f ⊢;refine⟨f.1,?_⟩;cases β with
  | false=>exact f.2
  | true =>
   simp[js]at h;exact jE h f.2
 | .nils,_,_,f=>by simpa only [V]using f
 | .nilp,_,_,f=>by simpa only [V]using f
 | .lit _,_,_,f=>by simpa only [V]using f
 | .unk,_,_,_=>by simp only[V]
 | .sl i,_,_,f=>by simpa only [V]using f
 | .mp i,_,_,f=>by simpa only [V]using f
 | .adr i _ _ _,_,_,f=>by simpa only [V]using f
 | .ada i _ _ _,_,_,f=>by simpa only [V]using f
 | .fad β z _,_,h,f=>by
  simp only[js,Bool.and_eq_true,Bool.not_eq_true']at h;obtain⟨rfl,h⟩:=h;simp only[V]at f ⊢;obtain⟨B,e,hl⟩:=f;exact⟨B,e,ic h hl⟩
 | .agg z,_,h,f=>by
  simp only[js]at h;simp only[V]at f ⊢;obtain⟨j,e,q,hl⟩:=f;exact⟨j,e,q,ic h hl⟩
 | .tup z,_,h,f=>by
  simp only[js]at h;simp only[V]at f ⊢;obtain⟨j,e,q,hl⟩:=f;exact⟨j,e,q,ic h hl⟩
 | .fn _ z,_,h,f=>by
  simp only[js]at h;simp only[V]at f ⊢;obtain⟨j,e,q,hl⟩:=f;exact⟨j,e,q,ic h hl⟩
 | .lag _ _ _ z,_,h,f=>by
  simp only[js]at h;simp only[V]at f ⊢;obtain⟨j,e,q,hl⟩:=f;exact⟨j,e,q,ic h hl⟩
 | .loc β _ _,_,h,f=>by
  simp only[js,Bool.not_eq_true']at h;subst h;simpa only [V]using f
 | .suf _ _ _,_,_,f=>by simpa only [V]using f
 | .bfn _ z,_,h,f=>by simp only[js]at h;simp only[V]at f ⊢;obtain⟨j,e,q,hl⟩:=f;exact⟨j,e,q,ic h hl⟩
theorem ic{F:Bool→Addr→Value→Prop}{ρ:Nat→QW}:∀ {A:List ag} {g:Nat→Value→Prop},ik A=true→VL F ρ A g→VL (fun _=>F false) ρ A g
 | [],_,_,_=>by simp only[VL]
 | x::A,_,h,f=>by simp only[ik,Bool.and_eq_true]at h;simp only[VL]at f ⊢;obtain⟨⟨u,C,D⟩,E⟩:=f;exact⟨⟨u,C,ux h.1 D⟩,ic h.2 E⟩
end
theorem FT{F:Bool→Addr→Value→Prop}{ρ:Nat→QW}{S:Nat→Prop}{w:World}{o:Obj}{u:Value}(h:yX o=true)(f:OR F ρ S w o u):OR (fun _=>F false) ρ S w o u:=by
 cases o with
 | arr e A z=>exact f
 | fz A z =>
  simp only[OR]at f ⊢;exact ux (by simp[js]) f
 | box C =>
  obtain⟨g,t,cells,e,j,p,q,v⟩:=f;exact⟨g,t,cells,e,j,p,q,ic h v⟩
 | mpo K A D=>exact f
 | mpl K D=>exact f
 | mat e E A I hole=>exact f
 | bytes e z=>exact f
 | mpq b D=>exact f
 | nds e E J hole=>exact f
 | cutz A z =>
  simp only[OR]at f ⊢;exact⟨f.1,ux (by simp[js]) f.2⟩
 | lmp k n z C =>
  obtain⟨g,t,cells,e,j,p,q,v,B⟩:=f;exact⟨g,t,cells,e,j,p,q,v,ic h B⟩
 | vrow n sz C =>obtain⟨g,t,cells,e,j,p,q,v,B⟩:=f;exact⟨g,t,cells,e,j,p,q,v,ic h B⟩
/-! ### x over -/
def Hs(g:QV)(i:Nat):Nat:=g.idxOf i
def rS(g:QV)(new i:Nat):Nat:=if i<g.length then g.getD i 0 else new+(i - g.length)
def less(g:QV)(h:Nat→Qz)(i:Nat):Qz:=if g.contains i then none else h i
def yl(g:QV)(h:Nat→Qz)(x:ag):Option ag :=
 if(ids x).all (fun i=>g.contains i) && !(ids x).isEmpty then some (lT (Hs g) x)else AL h x
def rK(g:QV)(h:Nat→Qz):List ag→Option (List ag)
 | []=>some []
 | x::xs=>match yl g h x,rK g h xs with
  | some y,some e=>some (y::e)
  | _,_=>none
def jU(g:QV)(h:Nat→Qz):Nat→QV→Option Qw
 | _,[]=>some []
 | i,id::r=>match h id with
  | some o=>if(n9 o).all (fun j=>g.contains j)then match jU g h (i+1) r with
   | some l=>some ((i,nb (Hs g) o)::l)
   | none=>none
   else none
  | none=>none
def wb:QV→Bool
 | []=>true
 | x::e=> !e.contains x && wb e
def uk(g:QV)(new:Nat)(hout:Qw):gZ :=
 g.map (fun i=>(i,none))++hout.map (fun p=>(rS g new p.1,some (nb (rS g new) p.2)))
def tI(g:QV)(hout:Qw)(r:ag):Bool :=
 wb g && wb (hout.map (·.1)) && js r && (ids r).all (fun i=>decide (i<g.length+8)) &&
  hout.all (fun p=>yX p.2 && decide (p.1<g.length+8) && (n9 p.2).all (fun i=>decide (i<g.length+8)))
structure hY(P:Program)(f:FuncId)(args:List ag)(hin:Qw)(r:ag)(hout:Qw):Prop where
 fn:∃fn,P.funcs[f]? = some fn∧(fn.name == "runtime.NumGoroutine")=false∧fn.body.isNone=false
 calls:∀(Bw:Nat→Prop) (b:cw P) (φ:Nat→Nat→Prop) (vals:QU),Mem Bw b b.pc φ (fun i=>look hin i) b.w →
  iL (Fr (own φ (fun i=>look hin i)) Bw b.w) b.pc args vals.toList→(∀i u,b.pc i=some u→i<hin.length) →
  Calls P f vals b.w fun e w'=>∃v ρ' φ',e = .returned v∧Mem Bw b ρ' φ' (fun i=>look hout i) w'∧V (Fr (own φ' (fun i=>look hout i)) Bw w') ρ' r v
structure jK(P:Program)(f:FuncId)(args:List ag)(hin:Qw)(x:Value):Prop where
 fn:∃fn,P.funcs[f]? = some fn∧(fn.name == "runtime.NumGoroutine")=false∧fn.body.isNone=false
 calls:∀(Bw:Nat→Prop) (b:cw P) (φ:Nat→Nat→Prop) (vals:QU),Mem Bw b b.pc φ (fun i=>look hin i) b.w →
  iL (Fr (own φ (fun i=>look hin i)) Bw b.w) b.pc args vals.toList→(∀i u,b.pc i=some u→i<hin.length) →
  Calls P f vals b.w fun e w'=>∃ρ' φ',e = .panicked [{ v:=x,recovered:=false }]∧Mem Bw b ρ' φ' (fun _=>none) w'
def iQ(P:Program)(f:FuncId)(args:List ag)(hin:Qw):(ag×Qw)⊕Value→Prop
 | .inl p=>hY P f args hin p.1 p.2
 | .inr x=>jK P f args hin x
section
variable{g:QV}{h:Nat→Qz}
theorem kD:∀ {l:QV},wb l=true→l.Nodup
 | [],_=>List.nodup_nil
 | x::e,h=>by
  simp only[wb,Bool.and_eq_true,Bool.not_eq_true',List.contains_eq_mem,decide_eq_false_iff_not]at h;exact List.nodup_cons.2 ⟨h.1,kD h.2⟩
theorem G7{i:Nat}(hi:i∈g):Hs g i<g.length:=List.idxOf_lt_length_of_mem hi
theorem Bk{i:Nat}(hi:i∈g):g.getD (Hs g i) 0=i:=by
 unfold Hs;rw[List.getD_eq_getElem?_getD,List.getElem?_eq_getElem (List.idxOf_lt_length_of_mem hi),List.getElem_idxOf];rfl
theorem oI(hn:g.Nodup){i:Nat}(hi:i<g.length):Hs g (g.getD i 0)=i:=by
 unfold Hs;have e:g.getD i 0=g[i]:=by simp[List.getD_eq_getElem?_getD,hi]
 rw[e];exact List.Nodup.idxOf_getElem hn i hi
theorem kI:∀ {l:QV} {i:Nat} {hin:Qw},jU g h i l=some hin→hin.length=l.length
 | [],_,_,e=>by cases e;rfl
 | id::r,i,hin,e=>by
  simp only[jU]at e;split at e
  ·split at e
   ·split at e
    ·rename_i j hl;cases e;simp[kI hl]
    ·cases e
   ·cases e
  ·cases e
theorem uK:∀ {l:QV} {i:Nat} {hin:Qw},jU g h i l=some hin→∀ {j:Nat} {o:Obj},look hin j=some o →
  ∃id p,i≤j∧l[j - i]? = some id∧h id=some p∧o=nb (Hs g) p∧∀k∈n9 p,k∈g
 | [],_,_,e,j,o,f=>by cases e;cases f
 | id::r,i,hin,e,j,o,f=>by
  simp only[jU]at e;split at e
  ·rename_i p x;split at e
   ·rename_i q;split at e
    ·rename_i D hl;cases e;simp only[look]at f;split at f
     ·rename_i u;subst u;cases f;exact⟨id,p,Nat.le_refl _,by simp,x,rfl,fun k hk=>by simpa using List.all_eq_true.1 q k hk⟩
     ·obtain⟨v,o2,E,z,A,B,C⟩:=uK hl f;refine⟨v,o2,by omega,?_,A,B,C⟩;rw[show j - i=(j - (i+1))+1 by omega];simpa using z
    ·cases e
   ·cases e
  ·cases e
theorem wD:∀ {v:gZ} {h:Nat→Qz} {i:Nat} {o:Obj},apply v h i=some o→(i,some o)∈v∨(h i=some o∧∀p∈v,p.1≠i)
 | [],h,i,o,e=> .inr ⟨e,fun p u=>by cases u⟩
 | (j,x)::v,h,i,o,e=>by
  simp only[apply]at e;rcases wD e with q | ⟨z,A⟩
  ·exact .inl (List.mem_cons_of_mem _ q)
  ·by_cases f:i=j
   ·subst f;rw[aB]at z;subst z;exact .inl (List.mem_cons_self ..)
   ·rw[aQ _ _ f]at z;refine .inr ⟨z,fun p u=>?_⟩;rcases List.mem_cons.1 u with rfl | u
    ·exact fun e=>f e.symm
    ·exact A p u
theorem tC:∀ {l:Qw} {i:Nat} {o:Obj},(l.map (·.1)).Nodup→(i,o)∈l→look l i=some o
 | (j,x)::r,i,o,hn,f=>by
  simp only[List.map_cons,List.nodup_cons]at hn;simp only[look];rcases List.mem_cons.1 f with e | f
  ·cases e;rw[if_pos rfl]
  ·rw[if_neg (fun e=>hn.1 (List.mem_map.2 ⟨(i,o),f,e.symm⟩))];exact tC hn.2 f
end
section
variable{P:Program}{Bw:Nat→Prop}{w0:cw P}{ρ:Nat→QW}{φ:Nat→Nat→Prop}{h:Nat→Qz}{w:World}{new:Nat}{g:QV}
theorem qE{i:Nat}{o:Obj}(hi:less g h i=some o):h i=some o∧i ∉ g:=by
 unfold less at hi;split at hi
 ·cases hi
 ·rename_i hc;exact⟨hi,by simpa using hc⟩
def rD(φ:Nat→Nat→Prop)(h:Nat→Qz)(g:QV)(k:Nat):Prop:=∃id o,id∈g∧h id=some o∧o.live=true∧φ id k
theorem gH{f:Nat→Nat}{o:Obj}:(nb f o).live=o.live:=by
 cases o with
 | mat e j A p hole=>cases hole <;> rfl
 | nds e j q hole=>cases hole <;> rfl
 | _=>rfl
theorem EV{k:Nat}(hk:rD φ h g k):own φ h k:=by
 obtain⟨id,o,_,e,f,j⟩:=hk;exact⟨id,o,e,f,j⟩
def fm(m:Mem Bw w0 ρ φ h w)(g:QV):cw P :=
 ⟨w,fun k=>k<w.heap.size∧¬rD φ h g k,fun _ hk=>hk.1,fun i=>if i<g.length then ρ (g.getD i 0)else none,m.kp.laid,
  fun k hk=>⟨Nat.lt_of_lt_of_le (w0.lt k (w0.lk k hk)) m.kp.size,fun e=>m.ow k (EV e) (w0.lk k hk)⟩⟩
theorem zN(m:Mem Bw w0 ρ φ h w){x y:ag}(hd:yl g (less g h) x=some y){v:Value}(j:V (Fr (own φ h) Bw w) ρ x v)
  {F':Bool→Addr→Value→Prop} (L:mV φ h Bw w (less g h) F'):V F' (fm m g).pc y v:=by
 unfold yl at hd;split at hd
 ·rename_i hc;cases hd;simp only[Bool.and_eq_true,List.all_eq_true,List.contains_eq_mem,decide_eq_true_eq]at hc;refine JL (ρ:=ρ) (fun i f=>?_) (V.mono L.hA (fun _ _ h=>h) j);have:=hc.1 i f;simp only[fm];rw[if_pos (G7 this),Bk this]
 ·exact V.mono (fun _ _ _ h=>h) (fun _ _ e=>by cases e) (vf m L hd j)
theorem lN(m:Mem Bw w0 ρ φ h w){F':Bool→Addr→Value→Prop}(L:mV φ h Bw w (less g h) F'):
  ∀ {xs ys:List ag},rK g (less g h) xs=some ys→∀ {e:QY},iL (Fr (own φ h) Bw w) ρ xs e→iL F' (fm m g).pc ys e
 | [],ys,hd,e,j=>by
  cases hd;cases e with
  | nil=>trivial
  | cons _ _=>exact j.elim
 | x::xs,ys,hd,e,j=>by
  simp only[rK]at hd;split at hd
  ·rename_i y p q u;cases hd;cases e with
   | nil=>exact j.elim
   | cons v e=>exact⟨zN m q j.1 L,lN m L u j.2⟩
  ·cases hd
theorem qe(m:Mem Bw w0 ρ φ h w)(hn:g.Nodup){hin:Qw}(hi:jU g h 0 g=some hin):
  Mem (pG φ (less g h) Bw) (fm m g) (fm m g).pc (fun i=>φ (g.getD i 0)) (fun i=>look hin i) w ∧
  mV φ h Bw w (less g h) (Fr (own (fun i=>φ (g.getD i 0)) (fun i=>look hin i)) (pG φ (less g h) Bw) w):=by
 have p:∀i o,look hin i=some o→i<g.length∧∃C,h (g.getD i 0)=some C∧o=nb (Hs g) C∧∀k∈n9 C,k∈g:=fun i o e=>by obtain⟨id,C,_,A,B,I,Y⟩:=uK hi e;simp only[Nat.sub_zero]at A;have z:=(List.getElem?_eq_some_iff.1 A).1;refine⟨z,C,?_,I,Y⟩;rw[List.getD_eq_getElem?_getD,A];exact B
 have M:∀i,i<g.length→g.getD i 0∈g:=fun i z=>by rw[List.getD_eq_getElem?_getD,List.getElem?_eq_getElem z];exact List.getElem_mem z
 have J:∀k,own (fun i=>φ (g.getD i 0)) (fun i=>look hin i) k→rD φ h g k:=fun k ⟨i,o,D,A,B⟩=>by obtain⟨z,C,E,V,_⟩:=p i o D;subst V;rw[gH]at A;exact⟨_,C,M i z,E,A,B⟩
 have N:∀k,rD φ h g k→own φ h k:=fun k ⟨id,o,_,A,B,I⟩=>⟨id,o,A,B,I⟩
 have L:∀k,own φ (less g h) k→own φ h k∧¬rD φ h g k:=fun k ⟨id,o,D,A,B⟩=>by obtain⟨E,V⟩:=qE D;refine⟨⟨id,o,E,A,B⟩,fun⟨Z,C,s1,s2,s3,s4⟩=>?_⟩;have:=m.dj id Z o C k E A s2 s3 B s4;subst this;exact V s1
 have hF:∀β a v,Fr (own φ h) Bw w β a v→Fr (own (fun i=>φ (g.getD i 0)) (fun i=>look hin i)) (pG φ (less g h) Bw) w β a v:=fun β a v X =>
  ⟨fun e=>X.1 (N _ (J _ e)),fun e hk=>hk.elim (fun q=>X.1 (L _ q).1) (X.2.1 e),X.2.2⟩
 refine⟨⟨fun i o e=>?_,fun i o k D A B=>?_,fun i j o C k D A B I Y q6=>?_,fun k hk=>?_,fun k hk a1=>a1.2 (J k hk),Kept.refl _,fun _ _ e=>e⟩,⟨fun i o e=>(qE e).1,hF,fun id o a v D A B I=>?_⟩⟩
 ·obtain⟨z,C,E,rfl,r3⟩:=p i o e;obtain⟨u,s1,s2⟩:=m.ob _ _ E;refine⟨u,by simp only[fm];rw[if_pos z];exact s1,?_⟩;refine IP (ρ:=ρ) (fun j hj=>?_) (OR.mono hF (fun _ _ h=>h) (fun _ h=>h) (fun _ _ _=>rfl) s2);have:=r3 j hj;simp only[fm];rw[if_pos (G7 this),Bk this]
 ·obtain⟨z,C,E,rfl,r3⟩:=p i o D;rw[gH]at A;exact m.lt _ _ k E A B
 ·obtain⟨z,o1,E,rfl,_⟩:=p i o D;obtain⟨O,o2,a2,rfl,_⟩:=p j C B;rw[gH]at A I;have:=m.dj _ _ _ _ k E A a2 I Y q6;rw[←oI hn z,←oI hn O,this]
 ·rcases hk with hk | hk
  ·obtain⟨D,A⟩:=L k hk;exact⟨m.uT D,A⟩
  ·have:=m.bw k hk;exact⟨Nat.lt_of_lt_of_le (w0.lt k this) m.kp.size,fun e=>m.ow k (N k e) this⟩
 ·obtain⟨E,V⟩:=qE D;refine⟨fun e=>?_,fun e=>(by cases e),World.fx I⟩;exact(L _ ⟨id,o,D,A,B⟩).2 (J _ e)
theorem ql(m:Mem Bw w0 ρ φ h w)(hn:g.Nodup)(ad:∀j,j<8→ρ (new+j)=none)(hg:∀i∈g,∃o,h i=some o){hout:Qw}{r:ag}(b1:tI g hout r=true)
  {a5:Nat→QW} {O:Nat→Nat→Prop} {w':World} (m':Mem (pG φ (less g h) Bw) (fm m g) a5 O (fun i=>look hout i) w') {v:Value}
  (hv:V (Fr (own O (fun i=>look hout i)) (pG φ (less g h) Bw) w') a5 r v) :
  aF Bw w0 ρ φ h w new (lT (rS g new) r) (uk g new hout) v w':=by
 simp only[tI,Bool.and_eq_true,List.all_eq_true,decide_eq_true_eq]at b1;obtain⟨⟨⟨⟨_,k1⟩,k2⟩,k3⟩,k4⟩:=b1;have b3:=kD k1;have ac:∀i∈g,∃u,ρ i=some u:=fun i hi=>by obtain⟨o,ho⟩:=hg i hi;obtain⟨u,q,_⟩:=m.ob i o ho;exact⟨u,q⟩
 have a8:∀i∈g,¬(new≤i∧i<new+8):=fun i hi ⟨e1,e2⟩=>by obtain⟨u,q⟩:=ac i hi;have:=ad (i - new) (by omega);rw[show new+(i - new)=i by omega,q]at this;cases this
 have a4:∀i,i<g.length→g.getD i 0∈g:=fun i X=>by rw[List.getD_eq_getElem?_getD,List.getElem?_eq_getElem X];exact List.getElem_mem X
 let a1:Nat→QW:=fun i=>if new≤i∧i<new+8 then a5 (g.length+(i - new))else ρ i
 let I:Nat→Nat→Prop:=fun i=>if new≤i∧i<new+8 then O (g.length+(i - new))else if i∈g then O (Hs g i)else φ i
 have a9:∀i u,ρ i=some u→a1 i=some u:=fun i u hi=>by
  simp only[a1];split
  ·rename_i hc;have:=ad (i - new) (by omega);rw[show new+(i - new)=i by omega,hi]at this;cases this
  ·exact hi
 have a6:∀i,i<g.length+8→a1 (rS g new i)=a5 i:=fun i hi=>by
  unfold rS;split
  ·rename_i X;have Z:=a4 i X;simp only[a1];rw[if_neg (a8 _ Z)];obtain⟨u,q⟩:=ac _ Z;have:=m'.pc i u (by simp only[fm];rw[if_pos X];exact q);rw[q,this]
  ·simp only[a1];rw[if_pos (by omega)];congr 1;omega
 have B:∀i,i<g.length+8→I (rS g new i)=O i:=fun i hi=>by
  unfold rS;split
  ·rename_i X;have Z:=a4 i X;simp only[I];rw[if_neg (a8 _ Z),if_pos Z,oI hn X]
  ·simp only[I];rw[if_pos (by omega)];congr 1;omega
 have b4:∀i j,i<g.length+8→j<g.length+8→rS g new i=rS g new j→i=j:=fun i j hi hj e=>by
  unfold rS at e;split at e <;> split at e
  ·rename_i Z h2;rw[←oI hn Z,←oI hn h2,e]
  ·rename_i Z h2;exact absurd ⟨by omega,by omega⟩ (a8 _ (a4 i Z))
  ·rename_i Z h2;exact absurd ⟨by omega,by omega⟩ (a8 _ (a4 j h2))
  ·omega
 have C:∀id o,apply (uk g new hout) h id=some o→(id ∉ g∧h id=some o∧¬(new≤id∧id<new+8)) ∨
   ∃i A,look hout i=some A∧i<g.length+8∧(∀j∈n9 A,j<g.length+8)∧yX A=true∧id=rS g new i∧o=nb (rS g new) A:=fun id o e=>by
  rcases wD e with hm | ⟨N,p⟩
  ·right
   simp only[uk,List.mem_append,List.mem_map]at hm;rcases hm with⟨i,_,e⟩ | ⟨⟨i,A⟩,hm,e⟩
   ·simp at e
   ·simp only[Prod.mk.injEq,Option.some.injEq]at e;have:=k4 _ hm;exact⟨i,A,tC b3 hm,this.1.2,this.2,this.1.1,e.1.symm,e.2.symm⟩
  ·left
   refine⟨fun hi=>p (id,none) (by simp[uk,hi]) rfl,N,fun hc=>?_⟩;obtain⟨u,E,_⟩:=m.ob id o N;have:=ad (id - new) (by omega);rw[show new+(id - new)=id by omega,E]at this;cases this
 have D:∀id,id ∉ g→¬(new≤id∧id<new+8)→I id=φ id:=fun id Z h2=>by simp only[I];rw[if_neg h2,if_neg Z]
 have aa:∀k,rD φ h g k→own φ h k:=fun k ⟨id,o,_,p,z,Y⟩=>⟨id,o,p,z,Y⟩
 have J:∀i A k,look hout i=some A→A.live=true→O i k→w.heap.size≤k∨rD φ h g k:=fun i A k N p z=>by
  have:=m'.ow k ⟨i,A,N,p,z⟩;by_cases hk:k<w.heap.size
  ·exact .inr (Classical.byContradiction fun hh=>this ⟨hk,hh⟩)
  ·exact .inl (by omega)
 have a2:∀id o k,id ∉ g→h id=some o→o.live=true→φ id k→k<w.heap.size∧¬rD φ h g k:=fun id o k N p z Y=>by refine⟨m.lt id o k p z Y,fun⟨a3,A,s1,s2,s3,s4⟩=>?_⟩;have:=m.dj id a3 o A k p z s2 s3 Y s4;subst this;exact N s1
 have L:∀k,k<w.heap.size→¬rD φ h g k→w'.heap[k]? = w.heap[k]? :=fun k Z h2=>m'.kp.block k ⟨Z,h2⟩
 have a7:∀k,own I (apply (uk g new hout) h) k→(∃id o,id ∉ g∧h id=some o∧o.live=true∧φ id k)∨own O (fun i=>look hout i) k:=fun k ⟨id,o,N,p,z⟩=>by
  rcases C id o N with⟨E,M,r3⟩ | ⟨i,A,E,M,r3,r4,rfl,rfl⟩
  ·rw[D id E r3]at z;exact .inl ⟨id,o,E,M,p,z⟩
  ·rw[B i M]at z;rw[gH]at p;exact .inr ⟨i,A,E,p,z⟩
 have hF:∀β a v,Fr (own φ h) Bw w β a v→Fr (own I (apply (uk g new hout) h)) Bw w' β a v:=fun β a v=>Fr.Jo (fun k Z h2=>L k Z fun e=>h2 (aa k e)) (fun k hk=>by
  rcases a7 k hk with⟨id,o,_,p,z,Y⟩ | ⟨i,A,N,p,z⟩
  ·exact .inl ⟨id,o,p,z,Y⟩
  ·exact(J i A k N p z).elim .inr (fun e=> .inl (aa k e))) β a v
 have b2:∀a v,Fr (own O (fun i=>look hout i)) (pG φ (less g h) Bw) w' false a v→∀β,Fr (own I (apply (uk g new hout) h)) Bw w' β a v:=fun a v hh β=>by
  refine⟨fun e=>?_,fun _ hb=>hh.2.1 rfl (.inr hb),hh.2.2⟩;rcases a7 _ e with⟨id,o,N,p,z,Y⟩ | q
  ·exact hh.2.1 rfl (.inl ⟨id,o,by unfold less;rw[if_neg (by simpa using N)];exact p,z,Y⟩)
  ·exact hh.1 q
 have b5:(fm m g).w=w:=rfl;refine⟨a1,I,⟨fun id o e=>?_,fun id o k N p z=>?_,fun id a3 o A k N p z Y q5 q6=>?_,m.bw,fun k hk ax=>?_,?_,fun i u hi=>a9 i u (m.pc i u hi)⟩,hF,a9,fun i u hi=>?_,?_⟩
 ·rcases C id o e with⟨E,M,r3⟩ | ⟨i,A,E,M,r3,r4,rfl,rfl⟩
  ·obtain⟨u,s1,s2⟩:=m.ob id o M;refine⟨u,a9 id u s1,?_⟩;rw[D id E r3];exact OR.mono hF a9 (fun _ h=>h) (fun hl k hk=>by
    obtain⟨t1,t2⟩:=a2 id o k E M hl hk;exact L k t1 t2) s2
  ·obtain⟨u,s1,s2⟩:=m'.ob i A E;refine⟨u,by rw[a6 i M];exact s1,?_⟩;rw[B i M];refine IP (ρ:=a5) (fun j hj=>a6 j (r3 j hj)) ?_;exact OR.mono (fun β a v hh=>b2 a v hh β) (fun _ _ h=>h) (fun _ h=>h) (fun _ _ _=>rfl) (FT r4 s2)
 ·rcases C id o N with⟨E,M,r3⟩ | ⟨i,A,E,M,r3,r4,rfl,rfl⟩
  ·rw[D id E r3]at z;exact Nat.lt_of_lt_of_le (m.lt id o k M p z) m'.kp.size
  ·rw[B i M]at z;rw[gH]at p;exact m'.lt i A k E p z
 ·rcases C id o N with⟨E,M,r3⟩ | ⟨i,o1,E,M,r3,r4,rfl,rfl⟩ <;> rcases C a3 A z with⟨s1,s2,s3⟩ | ⟨j,o2,s1,s2,s3,s4,rfl,rfl⟩
  ·rw[D id E r3]at q5;rw[D a3 s1 s3]at q6;exact m.dj id a3 o A k M p s2 Y q5 q6
  ·rw[D id E r3]at q5;rw[B j s2]at q6;rw[gH]at Y;obtain⟨t1,t2⟩:=a2 id o k E M p q5;rcases J j o2 k s1 Y q6 with t3 | t3
   ·omega
   ·exact absurd t3 t2
  ·rw[B i M]at q5;rw[D a3 s1 s3]at q6;rw[gH]at p;obtain⟨t1,t2⟩:=a2 a3 A k s1 s2 Y q6;rcases J i o1 k E p q5 with t3 | t3
   ·omega
   ·exact absurd t3 t2
  ·rw[B i M]at q5;rw[B j s2]at q6;rw[gH]at p Y;rw[m'.dj i j o1 o2 k E p s1 Y q5 q6]
 ·rcases a7 k hk with⟨id,o,_,p,z,Y⟩ | ⟨i,A,N,p,z⟩
  ·exact m.ow k ⟨id,o,p,z,Y⟩ ax
  ·rcases J i A k N p z with t | t
   ·have:=w0.lt k ax;have:=m.kp.size;omega
   ·exact m.ow k (aa k t) ax
 ·refine⟨m'.kp.os.trans m.kp.os,m'.kp.tape.trans m.kp.tape,m'.kp.output.trans m.kp.output,Nat.le_trans m.kp.size m'.kp.size,fun k hk=>?_⟩;rw[L k (Nat.lt_of_lt_of_le (w0.lt k hk) m.kp.size) (fun e=>m.ow k (aa k e) hk)];exact m.kp.block k hk
 ·simp only[a1]at hi;split at hi
  ·rename_i hc;exact .inr ⟨i - new,by omega,by omega⟩
  ·exact .inl hi
 ·exact JL (ρ:=a5) (fun i hi=>a6 i (k3 i hi)) (V.mono (fun β a v hh=>b2 a v hh β) (fun _ _ h=>h) (ux k2 hv))
theorem pw:∀ {l:QV} {i:Nat} {hin:Qw},jU g h i l=some hin→∀id∈l,∃o,h id=some o
 | [],_,_,_,id,j=>by cases j
 | x::r,i,hin,e,id,j=>by
  simp only[jU]at e;split at e
  ·rename_i p q;split at e
   ·split at e
    ·rename_i u hl;rcases List.mem_cons.1 j with rfl | j
     ·exact⟨p,q⟩
     ·exact pw hl id j
    ·cases e
   ·cases e
  ·cases e
theorem Gv(m:Mem Bw w0 ρ φ h w)(Z:∀j,j<8→ρ (new+j)=none){o:Oper}{a:Act}{fo:Operand}{q:Array Operand}{a1:Array TypeId}(ho:o.op = .call { callee:= .value fo,args:=q,argTypes:=a1 })
  {f:FuncId} {z:List ag} (hf:V (Fr (own φ h) Bw w) ρ (.fn f z) (a.eval fo)) {xs:List ag} (hx:iL (Fr (own φ h) Bw w) ρ xs (q.toList.map a.eval)) {args:List ag} (hl:rK g (less g h) (xs++z)=some args)
  {hin:Qw} (hi:jU g h 0 g=some hin) {r:ag} {hout:Qw} (D:tI g hout r=true)
  (hp:hY P f args hin r hout):Good P o a w (aF Bw w0 ρ φ h w new (lT (rS g new) r) (uk g new hout)):=by
 simp only[V]at hf;obtain⟨Y,a2,a3,E⟩:=hf;obtain⟨fn,a4,I,B⟩:=hp.fn;have J:∀(O:List ag) (p:QY),p.length=O.length→VL (Fr (own φ h) Bw w) ρ O (fun k u=>p[k]? = some u)→iL (Fr (own φ h) Bw w) ρ O p:=fun O=>by
  induction O with
  | nil=>intro p hl _;cases p with | nil=>trivial | cons _ _=>simp at hl
  | cons c O ih =>
   intro p hl C;cases p with
   | nil=>simp at hl
   | cons u p =>simp only[VL]at C;obtain⟨⟨u',q1,q2⟩,q3⟩:=C;simp at q1;subst q1;exact⟨q2,ih p (by simpa using hl) (VL.mono (fun _ _ _ h=>h) (fun _ _ h=>h) (fun k u hk=>by simpa using hk) q3)⟩
 have X:∀(xs:List ag) (p:QY),iL (Fr (own φ h) Bw w) ρ xs p→iL (Fr (own φ h) Bw w) ρ (xs++z) (p++Y.toList):=fun xs=>by
  induction xs with
  | nil =>
   intro p C;cases p with
   | nil=>exact J z Y.toList (by simpa using a3) (VL.mono (fun _ _ _ h=>h) (fun _ _ h=>h) (fun k u hk=>by simpa using hk) E)
   | cons _ _=>exact C.elim
  | cons x xs ih =>
   intro p C;cases p with
   | nil=>exact C.elim
   | cons u p=>exact⟨C.1,ih p C.2⟩
 have hn:g.Nodup:=by simp only[tI,Bool.and_eq_true]at D;exact kD D.1.1.1.1
 obtain⟨mc,L⟩:=qe m hn hi;have M:=lN m L hl (X xs _ hx);have N:=hp.calls (pG φ (less g h) Bw) (fm m g) (fun i=>φ (g.getD i 0)) (q.map a.eval++Y) mc (by rw[Array.toList_append,Array.toList_map];exact M) (fun i u e=>by
  rw[kI hi];simp only[fm]at e;split at e
  ·assumption
  ·cases e)
 refine Good.sc (f:=f) (args:=q.map a.eval++Y) (w':=w) ?_ (N.mono fun e w' ⟨v,a6,a7,he,a5,C⟩=>⟨v,he,?_⟩)
 ·have n1:¬fn.name = "runtime.NumGoroutine" :=by simpa using I
  have n2:¬fn.body=none:=fun e=>by rw[e]at B;cases B
  simp[execOp,ho,resolve,a2,Deferred.ofValue,invoke,callFunc,a4,n1,n2]
 ·exact ql m hn Z (pw hi) D a5 C
theorem It(m:Mem Bw w0 ρ φ h w)(Z:∀j,j<8→ρ (new+j)=none){o:Oper}{a:Act}{fo:Operand}{q:Array Operand}{a1:Array TypeId}(ho:o.op = .call { callee:= .value fo,args:=q,argTypes:=a1 })
  {f:FuncId} {z:List ag} (hf:V (Fr (own φ h) Bw w) ρ (.fn f z) (a.eval fo)) {B:List ag} (hx:iL (Fr (own φ h) Bw w) ρ B (q.toList.map a.eval)) {args:List ag} (hl:rK g (less g h) (B++z)=some args)
  {hin:Qw} (hi:jU g h 0 g=some hin) (D:tI g [] .unk=true) {x:Value}
  (hp:jK P f args hin x):Ki P o a w x (fun w'=>∃v,aF Bw w0 ρ φ h w new .unk (uk g new []) v w'):=by
 simp only[V]at hf;obtain⟨Y,a2,a3,E⟩:=hf;obtain⟨fn,a4,I,A⟩:=hp.fn;have J:∀(O:List ag) (p:QY),p.length=O.length→VL (Fr (own φ h) Bw w) ρ O (fun k u=>p[k]? = some u)→iL (Fr (own φ h) Bw w) ρ O p:=fun O=>by
  induction O with
  | nil=>intro p hl _;cases p with | nil=>trivial | cons _ _=>simp at hl
  | cons c O ih =>
   intro p hl C;cases p with
   | nil=>simp at hl
   | cons u p =>simp only[VL]at C;obtain⟨⟨u',q1,q2⟩,q3⟩:=C;simp at q1;subst q1;exact⟨q2,ih p (by simpa using hl) (VL.mono (fun _ _ _ h=>h) (fun _ _ h=>h) (fun k u hk=>by simpa using hk) q3)⟩
 have X:∀(B:List ag) (p:QY),iL (Fr (own φ h) Bw w) ρ B p→iL (Fr (own φ h) Bw w) ρ (B++z) (p++Y.toList):=fun B=>by
  induction B with
  | nil =>
   intro p C;cases p with
   | nil=>exact J z Y.toList (by simpa using a3) (VL.mono (fun _ _ _ h=>h) (fun _ _ h=>h) (fun k u hk=>by simpa using hk) E)
   | cons _ _=>exact C.elim
  | cons x B ih =>
   intro p C;cases p with
   | nil=>exact C.elim
   | cons u p=>exact⟨C.1,ih p C.2⟩
 have hn:g.Nodup:=by simp only[tI,Bool.and_eq_true]at D;exact kD D.1.1.1.1
 obtain⟨mc,L⟩:=qe m hn hi;have M:=lN m L hl (X B _ hx);have N:=hp.calls (pG φ (less g h) Bw) (fm m g) (fun i=>φ (g.getD i 0)) (q.map a.eval++Y) mc (by rw[Array.toList_append,Array.toList_map];exact M) (fun i u e=>by
  rw[kI hi];simp only[fm]at e;split at e
  ·assumption
  ·cases e)
 refine Ki.sc (f:=f) (args:=q.map a.eval++Y) (w':=w) ?_ (N.mono fun e w' ⟨a6,a7,he,a5⟩=>⟨he,undef,?_⟩)
 ·have n1:¬fn.name = "runtime.NumGoroutine" :=by simpa using I
  have n2:¬fn.body=none:=fun e=>by rw[e]at A;cases A
  simp[execOp,ho,resolve,a2,Deferred.ofValue,invoke,callFunc,a4,n1,n2]
 ·exact ql m hn Z (pw hi) (r:= .unk) D a5 trivial
end
end Go.Tv
