import Derived.Test.YtobbjfkfmdiklaaGreatDoorTvK
namespace Go.Tv
open Go Go.RowKit
def look{α:Type}:List (Nat×α)→Nat→Option α
 | [],_=>none
 | (k,x)::r,i=>if k=i then some x else look r i
theorem nc{α:Type}:∀ {l:List (Nat×α)} {t:Nat} {x:α},look l t=some x→(t,x)∈l
 | [],_,_,h=>by cases h
 | (k,y)::r,t,x,h=>by
  simp only[look]at h;split at h
  ·rename_i e;cases h;subst e;simp
  ·exact List.mem_cons_of_mem _ (nc h)
mutual
def ids:ag→QV
 | .sl i=>[i]
 | .mp i=>[i]
 | .adr i _ _ _=>[i]
 | .ada i _ _ _=>[i]
 | .fad _ cs _=>bu cs
 | .agg cs=>bu cs
 | .tup cs=>bu cs
 | .fn _ cs=>bu cs
 | .p _ _ _=>[]
 | .nils=>[]
 | .nilp=>[]
 | .lit _=>[]
 | .lag _ _ _ cs=>bu cs
 | .loc _ _ _=>[]
 | .suf i _ _=>[i]
 | .bfn _ cs=>bu cs
 | .unk=>[]
def bu:List ag→QV
 | []=>[]
 | x::xs=>ids x++bu xs
end
theorem cI{i:Nat}:∀ {xs:List ag},i∈bu xs↔∃x∈xs,i∈ids x
 | []=>by simp[bu]
 | x::xs=>by simp[bu,cI (xs:=xs)]
def ot:Obj→QV
 | .box j=>bu j
 | .lmp _ _ _ j=>bu j
 | .vrow _ _ j=>bu j
 | .mat _ _ _ _ (some (_,id))=>[id]
 | .nds _ _ _ (some (_,_,id))=>[id]
 | _=>[]
mutual
def lV(f:Nat→Nat):ag→ag
 | .sl i=> .sl (f i)
 | .mp i=> .mp (f i)
 | .adr i k sz off=> .adr (f i) k sz off
 | .ada i b n k=> .ada (f i) b n k
 | .fad β j off=> .fad β (pj f j) off
 | .agg j=> .agg (pj f j)
 | .tup j=> .tup (pj f j)
 | .fn g j=> .fn g (pj f j)
 | .p β T x=> .p β T x
 | .nils=> .nils
 | .nilp=> .nilp
 | .lit v=> .lit v
 | .lag k n q j=> .lag k n q (pj f j)
 | .loc β T x=> .loc β T x
 | .suf i u sz=> .suf (f i) u sz
 | .bfn g j=> .bfn g (pj f j)
 | .unk=> .unk
def pj(f:Nat→Nat):List ag→List ag
 | []=>[]
 | x::q=>lV f x::pj f q
end
theorem bD(f:Nat→Nat):∀j:List ag,(pj f j).length=j.length
 | []=>rfl
 | x::j=>by simp[pj,bD f j]
def ny(f:Nat→Nat):Obj→Obj
 | .box j=> .box (pj f j)
 | .lmp k n u j=> .lmp k n u (pj f j)
 | .vrow n sz j=> .vrow n sz (pj f j)
 | .mat e p A q (some (k,id))=> .mat e p A q (some (k,f id))
 | .nds e p v (some (k,g,id))=> .nds e p v (some (k,g,f id))
 | o=>o
mutual
theorem Ki{F:Bool→Addr→Value→Prop}{ρ ρ':Nat→QW}{f:Nat→Nat}:∀ {x:ag} {v:Value},(∀i∈ids x,ρ' i=ρ (f i))→V F ρ (lV f x) v→V F ρ' x v
 | .p _ _ _,_,_,j=>by simpa only [lV,V]using j
 | .nils,_,_,j=>by simpa only [lV,V]using j
 | .nilp,_,_,j=>by simpa only [lV,V]using j
 | .lit _,_,_,j=>by simpa only [lV,V]using j
 | .unk,_,_,_=>by simp only[V]
 | .sl i,_,h,j=>by
  simp only[lV,V]at j ⊢;rw[h i (by simp[ids])];exact j
 | .mp i,_,h,j=>by
  simp only[lV,V]at j ⊢;rw[h i (by simp[ids])];exact j
 | .ada i _ _ _,_,h,j=>by
  simp only[lV,V]at j ⊢;rw[h i (by simp[ids])];exact j
 | .adr i _ _ _,_,h,j=>by
  simp only[lV,V]at j ⊢;rw[h i (by simp[ids])];exact j
 | .fad _ A _,_,h,j=>by
  simp only[lV,V]at j ⊢;obtain⟨C,e,hl⟩:=j;exact⟨C,e,mI (fun i hi=>h i (by simpa only [ids]using hi)) hl⟩
 | .agg A,_,h,j=>by
  simp only[lV,V,bD]at j ⊢;obtain⟨q,e,z,hl⟩:=j;exact⟨q,e,z,mI (fun i hi=>h i (by simpa only [ids]using hi)) hl⟩
 | .tup A,_,h,j=>by
  simp only[lV,V,bD]at j ⊢;obtain⟨q,e,z,hl⟩:=j;exact⟨q,e,z,mI (fun i hi=>h i (by simpa only [ids]using hi)) hl⟩
 | .fn _ A,_,h,j=>by
  simp only[lV,V,bD]at j ⊢;obtain⟨q,e,z,hl⟩:=j;exact⟨q,e,z,mI (fun i hi=>h i (by simpa only [ids]using hi)) hl⟩
 | .lag _ _ _ A,_,h,j=>by
  simp only[lV,V,bD]at j ⊢;obtain⟨q,e,z,hl⟩:=j;exact⟨q,e,z,mI (fun i hi=>h i (by simpa only [ids]using hi)) hl⟩
 | .loc _ _ _,_,_,j=>by simpa only [lV,V]using j
 | .suf i _ _,_,h,j=>by
  simp only[lV,V]at j ⊢;rw[h i (by simp[ids])];exact j
 | .bfn _ A,_,h,j=>by simp only[lV,V,bD]at j ⊢;obtain⟨q,e,z,hl⟩:=j;exact⟨q,e,z,mI (fun i hi=>h i (by simpa only [ids]using hi)) hl⟩
theorem mI{F:Bool→Addr→Value→Prop}{ρ ρ':Nat→QW}{f:Nat→Nat}:∀ {B:List ag} {g:Nat→Value→Prop},(∀i∈bu B,ρ' i=ρ (f i))→VL F ρ (pj f B) g→VL F ρ' B g
 | [],_,_,_=>by simp only[VL]
 | x::B,_,h,j=>by simp only[pj,VL]at j ⊢;obtain⟨⟨u,D,E⟩,I⟩:=j;exact⟨⟨u,D,Ki (fun i hi=>h i (by simp[bu,hi])) E⟩,mI (fun i hi=>h i (by simp[bu,hi])) I⟩
end
def xg(h:Nat→Qz)(xs:List ag):QV :=
 bu xs++(bu xs).flatMap fun i=>match h i with
  | some (.box j)=>bu j
  | _=>[]
/-! ### p other q round -/
mutual
theorem KN{F:Bool→Addr→Value→Prop}{ρ q:Nat→QW}{f:Nat→Nat}:∀ {x:ag} {v:Value},(∀i∈ids x,q (f i)=ρ i)→V F ρ x v→V F q (lV f x) v
 | .p _ _ _,_,_,j=>by simpa only [lV,V]using j
 | .nils,_,_,j=>by simpa only [lV,V]using j
 | .nilp,_,_,j=>by simpa only [lV,V]using j
 | .lit _,_,_,j=>by simpa only [lV,V]using j
 | .unk,_,_,_=>by simp only[lV,V]
 | .sl i,_,h,j=>by
  simp only[lV,V]at j ⊢;rw[h i (by simp[ids])];exact j
 | .mp i,_,h,j=>by
  simp only[lV,V]at j ⊢;rw[h i (by simp[ids])];exact j
 | .ada i _ _ _,_,h,j=>by
  simp only[lV,V]at j ⊢;rw[h i (by simp[ids])];exact j
 | .adr i _ _ _,_,h,j=>by
  simp only[lV,V]at j ⊢;rw[h i (by simp[ids])];exact j
 | .fad _ B _,_,h,j=>by
  simp only[lV,V]at j ⊢;obtain⟨D,e,hl⟩:=j;exact⟨D,e,qc (fun i hi=>h i (by simpa only [ids]using hi)) hl⟩
 | .agg B,_,h,j=>by
  simp only[lV,V,bD]at j ⊢;obtain⟨z,e,A,hl⟩:=j;exact⟨z,e,A,qc (fun i hi=>h i (by simpa only [ids]using hi)) hl⟩
 | .tup B,_,h,j=>by
  simp only[lV,V,bD]at j ⊢;obtain⟨z,e,A,hl⟩:=j;exact⟨z,e,A,qc (fun i hi=>h i (by simpa only [ids]using hi)) hl⟩
 | .fn _ B,_,h,j=>by
  simp only[lV,V,bD]at j ⊢;obtain⟨z,e,A,hl⟩:=j;exact⟨z,e,A,qc (fun i hi=>h i (by simpa only [ids]using hi)) hl⟩
 | .lag _ _ _ B,_,h,j=>by
  simp only[lV,V,bD]at j ⊢;obtain⟨z,e,A,hl⟩:=j;exact⟨z,e,A,qc (fun i hi=>h i (by simpa only [ids]using hi)) hl⟩
 | .loc _ _ _,_,_,j=>by simpa only [lV,V]using j
 | .suf i _ _,_,h,j=>by
  simp only[lV,V]at j ⊢;rw[h i (by simp[ids])];exact j
 | .bfn _ B,_,h,j=>by simp only[lV,V,bD]at j ⊢;obtain⟨z,e,A,hl⟩:=j;exact⟨z,e,A,qc (fun i hi=>h i (by simpa only [ids]using hi)) hl⟩
theorem qc{F:Bool→Addr→Value→Prop}{ρ q:Nat→QW}{f:Nat→Nat}:∀ {C:List ag} {g:Nat→Value→Prop},(∀i∈bu C,q (f i)=ρ i)→VL F ρ C g→VL F q (pj f C) g
 | [],_,_,_=>by simp only[pj,VL]
 | x::C,_,h,j=>by simp only[pj,VL]at j ⊢;obtain⟨⟨u,E,I⟩,J⟩:=j;exact⟨⟨u,E,KN (fun i hi=>h i (by simp[bu,hi])) I⟩,qc (fun i hi=>h i (by simp[bu,hi])) J⟩
end
theorem Fc{F:Bool→Addr→Value→Prop}{ρ z:Nat→QW}{S:Nat→Prop}{w:World}{f:Nat→Nat}{e E:TypeId}{A:Ty}{B:List (List A.den)}{hole:Option (Nat×Nat)}{u:Value}
  (h:∀k id,hole=some (k,id)→z (f id)=ρ id) (M:OR F ρ S w (.mat e E A B hole) u):OR F z S w (ny f (.mat e E A B hole)) u:=by
 obtain⟨I,J,hk,cells,h1,h2,L⟩:=M;cases hole with
 | none=>exact⟨I,J,hk,cells,h1,fun i hi=>(h2 i hi).imp fun v q=>⟨q.1,q.2.1,q.2.2.1,fun id e=>by cases e⟩,L⟩
 | some p =>
  obtain⟨k,id⟩:=p;have x:∀i,BQ (some (k,f id)) i→BQ (some (k,id)) i:=fun i N O C e=>by cases e;exact N k (f id) rfl
  refine⟨I,J,fun O C e=>(by cases e;exact hk k id rfl),cells,h1,fun i hi=>?_,fun i j V X b D Y Z=>L i j V X b D (x i Y) (x j Z)⟩;obtain⟨v,q1,q2,q3,q4⟩:=h2 i hi;exact⟨v,q1,q2,fun s=>q3 (x i s),fun C e=>by cases e;rw[h k id rfl];exact q4 id rfl⟩
theorem C1{F:Bool→Addr→Value→Prop}{ρ ρ':Nat→QW}{S:Nat→Prop}{w:World}{f:Nat→Nat}{e J:TypeId}{A:Ty}{z:List (List A.den)}{hole:Option (Nat×Nat)}{u:Value}
  (h:∀k id,hole=some (k,id)→ρ' id=ρ (f id)) (L:OR F ρ S w (ny f (.mat e J A z hole)) u):OR F ρ' S w (.mat e J A z hole) u:=by
 cases hole with
 | none =>
  obtain⟨C,D,hk,cells,h1,h2,E⟩:=L;exact⟨C,D,hk,cells,h1,fun i hi=>(h2 i hi).imp fun v q=>⟨q.1,q.2.1,q.2.2.1,fun id e=>by cases e⟩,E⟩
 | some p =>
  obtain⟨k,id⟩:=p;obtain⟨C,D,hk,cells,h1,h2,E⟩:=L;have x:∀i,BQ (some (k,id)) i→BQ (some (k,f id)) i:=fun i M N B e=>by cases e;exact M k id rfl
  refine⟨C,D,fun N B e=>(by cases e;exact hk k (f id) rfl),cells,h1,fun i hi=>?_,fun i j O V b I X Y=>E i j O V b I (x i X) (x j Y)⟩;obtain⟨v,Z,q2,q3,q4⟩:=h2 i hi;exact⟨v,Z,q2,fun s=>q3 (x i s),fun B e=>by cases e;rw[h k id rfl];exact q4 (f id) rfl⟩
theorem uz{F:Bool→Addr→Value→Prop}{ρ ρ':Nat→QW}{S:Nat→Prop}{w:World}{e z:TypeId}{A:List Nd}{k i j:Nat}{g:Bool}{u:Value}
  (h:ρ' j=ρ i) (D:OR F ρ S w (.nds e z A (some (k,g,i))) u):OR F ρ' S w (.nds e z A (some (k,g,j))) u:=by
 obtain⟨E,hk,cells,h1,h2,I⟩:=D;have p:∀r f,m7 (some (k,g,j)) r f→m7 (some (k,g,i)) r f:=fun r f J L M q e=>by cases e;exact J k g j rfl
 refine⟨E,fun L M q e=>(by cases e;exact hk k g i rfl),cells,h1,fun r f hi=>?_,fun r f B C N O b x V X=>I r f B C N O b x (p r f V) (p B C X)⟩;obtain⟨v,Y,Z,q3,q4⟩:=h2 r f hi;exact⟨v,Y,Z,fun s=>q3 (p r f s),fun q e=>by cases e;rw[h];exact q4 i rfl⟩
theorem tH{F:Bool→Addr→Value→Prop}{ρ ρ':Nat→QW}{S:Nat→Prop}{w:World}{e j:TypeId}{p:List Nd}{u:Value}
  (x:OR F ρ S w (.nds e j p none) u):OR F ρ' S w (.nds e j p none) u:=by
 obtain⟨z,hk,cells,h1,h2,A⟩:=x;exact⟨z,hk,cells,h1,fun i f hi=>(h2 i f hi).imp fun v q=>⟨q.1,q.2.1,q.2.2.1,fun id e=>by cases e⟩,A⟩
theorem J9{F:Bool→Addr→Value→Prop}{ρ p:Nat→QW}{S:Nat→Prop}{w:World}{f:Nat→Nat}{o:Obj}{u:Value}(h:∀i∈ot o,p (f i)=ρ i)(j:OR F ρ S w o u):OR F p S w (ny f o) u:=by
 cases o with
 | arr e A B=>exact j
 | fz A B =>
  simp only[ny,OR]at j ⊢;exact qj rfl j
 | box D =>
  obtain⟨g,t,cells,e,q,v,x,z⟩:=j;exact⟨g,t,cells,e,q,v,by rw[x,bD],qc (fun i hi=>h i (by simpa only [ot]using hi)) z⟩
 | mpo K A E=>exact j
 | mpl K E=>exact j
 | mat e J A L hole=>exact Fc (fun k id e=>h id (by subst e;simp[ot])) j
 | bytes e B=>exact j
 | mpq b E=>exact j
 | nds e J M hole =>
  match hole with
  | none=>exact tH j
  | some (k,g,id)=>exact uz (h id (by simp[ot])) j
 | cutz A B =>
  simp only[ny,OR]at j ⊢;exact⟨j.1,qj rfl j.2⟩
 | lmp k n B D =>
  obtain⟨g,t,cells,e,q,v,x,z,C⟩:=j;exact⟨g,t,cells,e,q,v,by rw[x,bD],z,qc (fun i hi=>h i (by simpa only [ot]using hi)) C⟩
 | vrow n sz D =>obtain⟨g,t,cells,e,q,v,x,z,C⟩:=j;exact⟨g,t,cells,e,q,v,by rw[x,bD],by rw[bD];exact z,qc (fun i hi=>h i (by simpa only [ot]using hi)) C⟩
/-! ### I N not pS -/
mutual
def jy:ag→Bool
 | .p β T _=> !T.refs || !β
 | .fad β j _=> !β && im j
 | .agg j=>im j
 | .tup j=>im j
 | .fn _ j=>im j
 | .sl _=>true
 | .mp _=>true
 | .adr _ _ _ _=>true
 | .ada _ _ _ _=>true
 | .nils=>true
 | .nilp=>true
 | .lit _=>true
 | .lag _ _ _ j=>im j
 | .loc β _ _=> !β
 | .suf _ _ _=>true
 | .bfn _ j=>im j
 | .unk=>true
def im:List ag→Bool
 | []=>true
 | x::q=>jy x && im q
end
def zT:Obj→Bool
 | .box j=>im j
 | .lmp _ _ _ j=>im j
 | .vrow _ _ j=>im j
 | _=>true
mutual
theorem u3{F:Bool→Addr→Value→Prop}{ρ:Nat→QW}:∀ {x:ag} {v:Value},jy x=true→V F ρ x v→V (fun _=>F false) ρ x v
 | .p β T y,_,h,j=>by
  simp only[V]at j ⊢;refine⟨j.1,?_⟩;cases β with
  | false=>exact j.2
  | true =>
   simp[jy]at h;exact jO h j.2
 | .nils,_,_,j=>by simpa only [V]using j
 | .nilp,_,_,j=>by simpa only [V]using j
 | .lit _,_,_,j=>by simpa only [V]using j
 | .unk,_,_,_=>by simp only[V]
 | .sl i,_,_,j=>by simpa only [V]using j
 | .mp i,_,_,j=>by simpa only [V]using j
 | .adr i _ _ _,_,_,j=>by simpa only [V]using j
 | .ada i _ _ _,_,_,j=>by simpa only [V]using j
 | .fad β A _,_,h,j=>by
  simp only[jy,Bool.and_eq_true,Bool.not_eq_true']at h;obtain⟨rfl,h⟩:=h;simp only[V]at j ⊢;obtain⟨C,e,hl⟩:=j;exact⟨C,e,hI h hl⟩
 | .agg A,_,h,j=>by
  simp only[jy]at h;simp only[V]at j ⊢;obtain⟨q,e,z,hl⟩:=j;exact⟨q,e,z,hI h hl⟩
 | .tup A,_,h,j=>by
  simp only[jy]at h;simp only[V]at j ⊢;obtain⟨q,e,z,hl⟩:=j;exact⟨q,e,z,hI h hl⟩
 | .fn _ A,_,h,j=>by
  simp only[jy]at h;simp only[V]at j ⊢;obtain⟨q,e,z,hl⟩:=j;exact⟨q,e,z,hI h hl⟩
 | .lag _ _ _ A,_,h,j=>by
  simp only[jy]at h;simp only[V]at j ⊢;obtain⟨q,e,z,hl⟩:=j;exact⟨q,e,z,hI h hl⟩
 | .loc β _ _,_,h,j=>by
  simp only[jy,Bool.not_eq_true']at h;subst h;simpa only [V]using j
 | .suf _ _ _,_,_,j=>by simpa only [V]using j
 | .bfn _ A,_,h,j=>by simp only[jy]at h;simp only[V]at j ⊢;obtain⟨q,e,z,hl⟩:=j;exact⟨q,e,z,hI h hl⟩
theorem hI{F:Bool→Addr→Value→Prop}{ρ:Nat→QW}:∀ {B:List ag} {g:Nat→Value→Prop},im B=true→VL F ρ B g→VL (fun _=>F false) ρ B g
 | [],_,_,_=>by simp only[VL]
 | x::B,_,h,j=>by simp only[im,Bool.and_eq_true]at h;simp only[VL]at j ⊢;obtain⟨⟨u,D,E⟩,I⟩:=j;exact⟨⟨u,D,u3 h.1 E⟩,hI h.2 I⟩
end
theorem HG{F:Bool→Addr→Value→Prop}{ρ:Nat→QW}{S:Nat→Prop}{w:World}{o:Obj}{u:Value}(h:zT o=true)(j:OR F ρ S w o u):OR (fun _=>F false) ρ S w o u:=by
 cases o with
 | arr e A B=>exact j
 | fz A B =>
  simp only[OR]at j ⊢;exact u3 (by simp[jy]) j
 | box D =>
  obtain⟨g,t,cells,e,p,q,v,x⟩:=j;exact⟨g,t,cells,e,p,q,v,hI h x⟩
 | mpo K A E=>exact j
 | mpl K E=>exact j
 | mat e I A J hole=>exact j
 | bytes e B=>exact j
 | mpq b E=>exact j
 | nds e I L hole=>exact j
 | cutz A B =>
  simp only[OR]at j ⊢;exact⟨j.1,u3 (by simp[jy]) j.2⟩
 | lmp k n B D =>
  obtain⟨g,t,cells,e,p,q,v,x,C⟩:=j;exact⟨g,t,cells,e,p,q,v,x,hI h C⟩
 | vrow n sz D =>obtain⟨g,t,cells,e,p,q,v,x,C⟩:=j;exact⟨g,t,cells,e,p,q,v,x,hI h C⟩
/-! ### z over -/
def IK(g:QV)(i:Nat):Nat:=g.idxOf i
def qT(g:QV)(new i:Nat):Nat:=if i<g.length then g.getD i 0 else new+(i - g.length)
def less(g:QV)(h:Nat→Qz)(i:Nat):Qz:=if g.contains i then none else h i
def y3(g:QV)(h:Nat→Qz)(x:ag):Option ag :=
 if(ids x).all (fun i=>g.contains i) && !(ids x).isEmpty then some (lV (IK g) x)else Cj h x
def qO(g:QV)(h:Nat→Qz):List ag→Option (List ag)
 | []=>some []
 | x::xs=>match y3 g h x,qO g h xs with
  | some y,some j=>some (y::j)
  | _,_=>none
def jR(g:QV)(h:Nat→Qz):Nat→QV→Option Qw
 | _,[]=>some []
 | i,id::r=>match h id with
  | some o=>if(ot o).all (fun j=>g.contains j)then match jR g h (i+1) r with
   | some l=>some ((i,ny (IK g) o)::l)
   | none=>none
   else none
  | none=>none
def wW:QV→Bool
 | []=>true
 | x::j=> !j.contains x && wW j
def uL(g:QV)(new:Nat)(hout:Qw):gX :=
 g.map (fun i=>(i,none))++hout.map (fun p=>(qT g new p.1,some (ny (qT g new) p.2)))
def ue(g:QV)(hout:Qw)(r:ag):Bool :=
 wW g && wW (hout.map (·.1)) && jy r && (ids r).all (fun i=>decide (i<g.length+8)) &&
  hout.all (fun p=>zT p.2 && decide (p.1<g.length+8) && (ot p.2).all (fun i=>decide (i<g.length+8)))
structure jD(P:Program)(f:FuncId)(args:List ag)(hin:Qw)(r:ag)(hout:Qw):Prop where
 fn:∃fn,P.funcs[f]? = some fn∧(fn.name == "runtime.NumGoroutine")=false∧fn.body.isNone=false
 calls:∀(Bw:Nat→Prop) (b:cC P) (φ:Nat→Nat→Prop) (vals:QU),Mem Bw b b.pc φ (fun i=>look hin i) b.w →
  iS (Fr (own φ (fun i=>look hin i)) Bw b.w) b.pc args vals.toList→(∀i u,b.pc i=some u→i<hin.length) →
  Calls P f vals b.w fun e w'=>∃v ρ' φ',e = .returned v∧Mem Bw b ρ' φ' (fun i=>look hout i) w'∧V (Fr (own φ' (fun i=>look hout i)) Bw w') ρ' r v
structure jV(P:Program)(f:FuncId)(args:List ag)(hin:Qw)(x:Value):Prop where
 fn:∃fn,P.funcs[f]? = some fn∧(fn.name == "runtime.NumGoroutine")=false∧fn.body.isNone=false
 calls:∀(Bw:Nat→Prop) (b:cC P) (φ:Nat→Nat→Prop) (vals:QU),Mem Bw b b.pc φ (fun i=>look hin i) b.w →
  iS (Fr (own φ (fun i=>look hin i)) Bw b.w) b.pc args vals.toList→(∀i u,b.pc i=some u→i<hin.length) →
  Calls P f vals b.w fun e w'=>∃ρ' φ',e = .panicked [{ v:=x,recovered:=false }]∧Mem Bw b ρ' φ' (fun _=>none) w'
def iV(P:Program)(f:FuncId)(args:List ag)(hin:Qw):(ag×Qw)⊕Value→Prop
 | .inl p=>jD P f args hin p.1 p.2
 | .inr x=>jV P f args hin x
section
variable{g:QV}{h:Nat→Qz}
theorem kJ:∀ {l:QV},wW l=true→l.Nodup
 | [],_=>List.nodup_nil
 | x::j,h=>by
  simp only[wW,Bool.and_eq_true,Bool.not_eq_true',List.contains_eq_mem,decide_eq_false_iff_not]at h;exact List.nodup_cons.2 ⟨h.1,kJ h.2⟩
theorem G1{i:Nat}(hi:i∈g):IK g i<g.length:=List.idxOf_lt_length_of_mem hi
theorem Cd{i:Nat}(hi:i∈g):g.getD (IK g i) 0=i:=by
 unfold IK;rw[List.getD_eq_getElem?_getD,List.getElem?_eq_getElem (List.idxOf_lt_length_of_mem hi),List.getElem_idxOf];rfl
theorem oK(hn:g.Nodup){i:Nat}(hi:i<g.length):IK g (g.getD i 0)=i:=by
 unfold IK;have e:g.getD i 0=g[i]:=by simp[List.getD_eq_getElem?_getD,hi]
 rw[e];exact List.Nodup.idxOf_getElem hn i hi
theorem kM:∀ {l:QV} {i:Nat} {hin:Qw},jR g h i l=some hin→hin.length=l.length
 | [],_,_,e=>by cases e;rfl
 | id::r,i,hin,e=>by
  simp only[jR]at e;split at e
  ·split at e
   ·split at e
    ·rename_i j hl;cases e;simp[kM hl]
    ·cases e
   ·cases e
  ·cases e
theorem w8:∀ {l:QV} {i:Nat} {hin:Qw},jR g h i l=some hin→∀ {j:Nat} {o:Obj},look hin j=some o →
  ∃id q,i≤j∧l[j - i]? = some id∧h id=some q∧o=ny (IK g) q∧∀k∈ot q,k∈g
 | [],_,_,e,j,o,p=>by cases e;cases p
 | id::r,i,hin,e,j,o,p=>by
  simp only[jR]at e;split at e
  ·rename_i q z;split at e
   ·rename_i u;split at e
    ·rename_i E hl;cases e;simp only[look]at p;split at p
     ·rename_i v;subst v;cases p;exact⟨id,q,Nat.le_refl _,by simp,z,rfl,fun k hk=>by simpa using List.all_eq_true.1 u k hk⟩
     ·obtain⟨x,o2,I,A,B,C,D⟩:=w8 hl p;refine⟨x,o2,by omega,?_,B,C,D⟩;rw[show j - i=(j - (i+1))+1 by omega];simpa using A
    ·cases e
   ·cases e
  ·cases e
theorem wB:∀ {v:gX} {h:Nat→Qz} {i:Nat} {o:Obj},apply v h i=some o→(i,some o)∈v∨(h i=some o∧∀p∈v,p.1≠i)
 | [],h,i,o,e=> .inr ⟨e,fun p hp=>by cases hp⟩
 | (j,x)::v,h,i,o,e=>by
  simp only[apply]at e;rcases wB e with q | ⟨z,A⟩
  ·exact .inl (List.mem_cons_of_mem _ q)
  ·by_cases u:i=j
   ·subst u;rw[aB]at z;subst z;exact .inl (List.mem_cons_self ..)
   ·rw[aR _ _ u]at z;refine .inr ⟨z,fun p hp=>?_⟩;rcases List.mem_cons.1 hp with rfl | hp
    ·exact fun e=>u e.symm
    ·exact A p hp
theorem uE:∀ {l:Qw} {i:Nat} {o:Obj},(l.map (·.1)).Nodup→(i,o)∈l→look l i=some o
 | (j,x)::r,i,o,hn,hm=>by
  simp only[List.map_cons,List.nodup_cons]at hn;simp only[look];rcases List.mem_cons.1 hm with e | hm
  ·cases e;rw[if_pos rfl]
  ·rw[if_neg (fun e=>hn.1 (List.mem_map.2 ⟨(i,o),hm,e.symm⟩))];exact uE hn.2 hm
end
section
variable{P:Program}{Bw:Nat→Prop}{w0:cC P}{ρ:Nat→QW}{φ:Nat→Nat→Prop}{h:Nat→Qz}{w:World}{new:Nat}{g:QV}
theorem qS{i:Nat}{o:Obj}(hi:less g h i=some o):h i=some o∧i ∉ g:=by
 unfold less at hi;split at hi
 ·cases hi
 ·rename_i hc;exact⟨hi,by simpa using hc⟩
def qU(φ:Nat→Nat→Prop)(h:Nat→Qz)(g:QV)(k:Nat):Prop:=∃id o,id∈g∧h id=some o∧o.live=true∧φ id k
theorem gP{f:Nat→Nat}{o:Obj}:(ny f o).live=o.live:=by
 cases o with
 | mat e j A p hole=>cases hole <;> rfl
 | nds e j q hole=>cases hole <;> rfl
 | _=>rfl
theorem Gd{k:Nat}(hk:qU φ h g k):own φ h k:=by
 obtain⟨id,o,_,h1,h2,j⟩:=hk;exact⟨id,o,h1,h2,j⟩
def fp(m:Mem Bw w0 ρ φ h w)(g:QV):cC P :=
 ⟨w,fun k=>k<w.heap.size∧¬qU φ h g k,fun _ hk=>hk.1,fun i=>if i<g.length then ρ (g.getD i 0)else none,m.kp.laid,
  fun k hk=>⟨Nat.lt_of_lt_of_le (w0.lt k (w0.lk k hk)) m.kp.size,fun hm=>m.ow k (Gd hm) (w0.lk k hk)⟩⟩
theorem AB(m:Mem Bw w0 ρ φ h w){x y:ag}(hd:y3 g (less g h) x=some y){v:Value}(p:V (Fr (own φ h) Bw w) ρ x v)
  {F':Bool→Addr→Value→Prop} (L:mO φ h Bw w (less g h) F'):V F' (fp m g).pc y v:=by
 unfold y3 at hd;split at hd
 ·rename_i hc;cases hd;simp only[Bool.and_eq_true,List.all_eq_true,List.contains_eq_mem,decide_eq_true_eq]at hc;refine KN (ρ:=ρ) (fun i j=>?_) (V.mono L.hA (fun _ _ h=>h) p);have:=hc.1 i j;simp only[fp];rw[if_pos (G1 this),Cd this]
 ·exact V.mono (fun _ _ _ h=>h) (fun _ _ e=>by cases e) (wK m L hd p)
theorem mh(m:Mem Bw w0 ρ φ h w){F':Bool→Addr→Value→Prop}(L:mO φ h Bw w (less g h) F'):
  ∀ {xs ys:List ag},qO g (less g h) xs=some ys→∀ {j:QY},iS (Fr (own φ h) Bw w) ρ xs j→iS F' (fp m g).pc ys j
 | [],ys,hd,j,p=>by
  cases hd;cases j with
  | nil=>trivial
  | cons _ _=>exact p.elim
 | x::xs,ys,hd,j,p=>by
  simp only[qO]at hd;split at hd
  ·rename_i y q h1 h2;cases hd;cases j with
   | nil=>exact p.elim
   | cons v j=>exact⟨AB m h1 p.1 L,mh m L h2 p.2⟩
  ·cases hd
theorem qy(m:Mem Bw w0 ρ φ h w)(hn:g.Nodup){hin:Qw}(hi:jR g h 0 g=some hin):
  Mem (pS φ (less g h) Bw) (fp m g) (fp m g).pc (fun i=>φ (g.getD i 0)) (fun i=>look hin i) w ∧
  mO φ h Bw w (less g h) (Fr (own (fun i=>φ (g.getD i 0)) (fun i=>look hin i)) (pS φ (less g h) Bw) w):=by
 have p:∀i o,look hin i=some o→i<g.length∧∃C,h (g.getD i 0)=some C∧o=ny (IK g) C∧∀k∈ot C,k∈g:=fun i o e=>by obtain⟨id,C,_,A,B,I,Y⟩:=w8 hi e;simp only[Nat.sub_zero]at A;have z:=(List.getElem?_eq_some_iff.1 A).1;refine⟨z,C,?_,I,Y⟩;rw[List.getD_eq_getElem?_getD,A];exact B
 have M:∀i,i<g.length→g.getD i 0∈g:=fun i z=>by rw[List.getD_eq_getElem?_getD,List.getElem?_eq_getElem z];exact List.getElem_mem z
 have J:∀k,own (fun i=>φ (g.getD i 0)) (fun i=>look hin i) k→qU φ h g k:=fun k ⟨i,o,D,A,B⟩=>by obtain⟨z,C,E,V,_⟩:=p i o D;subst V;rw[gP]at A;exact⟨_,C,M i z,E,A,B⟩
 have N:∀k,qU φ h g k→own φ h k:=fun k ⟨id,o,_,A,B,I⟩=>⟨id,o,A,B,I⟩
 have L:∀k,own φ (less g h) k→own φ h k∧¬qU φ h g k:=fun k ⟨id,o,D,A,B⟩=>by obtain⟨E,V⟩:=qS D;refine⟨⟨id,o,E,A,B⟩,fun⟨Z,C,s1,s2,s3,s4⟩=>?_⟩;have:=m.dj id Z o C k E A s2 s3 B s4;subst this;exact V s1
 have hF:∀β a v,Fr (own φ h) Bw w β a v→Fr (own (fun i=>φ (g.getD i 0)) (fun i=>look hin i)) (pS φ (less g h) Bw) w β a v:=fun β a v X =>
  ⟨fun e=>X.1 (N _ (J _ e)),fun e hk=>hk.elim (fun q=>X.1 (L _ q).1) (X.2.1 e),X.2.2⟩
 refine⟨⟨fun i o e=>?_,fun i o k D A B=>?_,fun i j o C k D A B I Y q6=>?_,fun k hk=>?_,fun k hk a1=>a1.2 (J k hk),Kept.refl _,fun _ _ e=>e⟩,⟨fun i o e=>(qS e).1,hF,fun id o a v D A B I=>?_⟩⟩
 ·obtain⟨z,C,E,rfl,r3⟩:=p i o e;obtain⟨u,s1,s2⟩:=m.ob _ _ E;refine⟨u,by simp only[fp];rw[if_pos z];exact s1,?_⟩;refine J9 (ρ:=ρ) (fun j hj=>?_) (OR.mono hF (fun _ _ h=>h) (fun _ h=>h) (fun _ _ _=>rfl) s2);have:=r3 j hj;simp only[fp];rw[if_pos (G1 this),Cd this]
 ·obtain⟨z,C,E,rfl,r3⟩:=p i o D;rw[gP]at A;exact m.lt _ _ k E A B
 ·obtain⟨z,o1,E,rfl,_⟩:=p i o D;obtain⟨O,o2,a2,rfl,_⟩:=p j C B;rw[gP]at A I;have:=m.dj _ _ _ _ k E A a2 I Y q6;rw[←oK hn z,←oK hn O,this]
 ·rcases hk with hk | hk
  ·obtain⟨D,A⟩:=L k hk;exact⟨m.wS D,A⟩
  ·have:=m.bw k hk;exact⟨Nat.lt_of_lt_of_le (w0.lt k this) m.kp.size,fun e=>m.ow k (N k e) this⟩
 ·obtain⟨E,V⟩:=qS D;refine⟨fun e=>?_,fun e=>(by cases e),World.fB I⟩;exact(L _ ⟨id,o,D,A,B⟩).2 (J _ e)
theorem qA(m:Mem Bw w0 ρ φ h w)(hn:g.Nodup)(ac:∀j,j<8→ρ (new+j)=none)(hg:∀i∈g,∃o,h i=some o){hout:Qw}{r:ag}(ax:ue g hout r=true)
  {a4:Nat→QW} {O:Nat→Nat→Prop} {w':World} (m':Mem (pS φ (less g h) Bw) (fp m g) a4 O (fun i=>look hout i) w') {v:Value}
  (hv:V (Fr (own O (fun i=>look hout i)) (pS φ (less g h) Bw) w') a4 r v) :
  aF Bw w0 ρ φ h w new (lV (qT g new) r) (uL g new hout) v w':=by
 simp only[ue,Bool.and_eq_true,List.all_eq_true,decide_eq_true_eq]at ax;obtain⟨⟨⟨⟨_,k1⟩,k2⟩,k3⟩,k4⟩:=ax;have b2:=kJ k1;have aa:∀i∈g,∃u,ρ i=some u:=fun i hi=>by obtain⟨o,ho⟩:=hg i hi;obtain⟨u,q,_⟩:=m.ob i o ho;exact⟨u,q⟩
 have a7:∀i∈g,¬(new≤i∧i<new+8):=fun i hi ⟨e1,e2⟩=>by obtain⟨u,q⟩:=aa i hi;have:=ac (i - new) (by omega);rw[show new+(i - new)=i by omega,q]at this;cases this
 have a3:∀i,i<g.length→g.getD i 0∈g:=fun i X=>by rw[List.getD_eq_getElem?_getD,List.getElem?_eq_getElem X];exact List.getElem_mem X
 let Z:Nat→QW:=fun i=>if new≤i∧i<new+8 then a4 (g.length+(i - new))else ρ i
 let I:Nat→Nat→Prop:=fun i=>if new≤i∧i<new+8 then O (g.length+(i - new))else if i∈g then O (IK g i)else φ i
 have a8:∀i u,ρ i=some u→Z i=some u:=fun i u hi=>by
  simp only[Z];split
  ·rename_i hc;have:=ac (i - new) (by omega);rw[show new+(i - new)=i by omega,hi]at this;cases this
  ·exact hi
 have a5:∀i,i<g.length+8→Z (qT g new i)=a4 i:=fun i hi=>by
  unfold qT;split
  ·rename_i X;have h1:=a3 i X;simp only[Z];rw[if_neg (a7 _ h1)];obtain⟨u,q⟩:=aa _ h1;have:=m'.pc i u (by simp only[fp];rw[if_pos X];exact q);rw[q,this]
  ·simp only[Z];rw[if_pos (by omega)];congr 1;omega
 have B:∀i,i<g.length+8→I (qT g new i)=O i:=fun i hi=>by
  unfold qT;split
  ·rename_i X;have h1:=a3 i X;simp only[I];rw[if_neg (a7 _ h1),if_pos h1,oK hn X]
  ·simp only[I];rw[if_pos (by omega)];congr 1;omega
 have b3:∀i j,i<g.length+8→j<g.length+8→qT g new i=qT g new j→i=j:=fun i j hi hj e=>by
  unfold qT at e;split at e <;> split at e
  ·rename_i h1 h2;rw[←oK hn h1,←oK hn h2,e]
  ·rename_i h1 h2;exact absurd ⟨by omega,by omega⟩ (a7 _ (a3 i h1))
  ·rename_i h1 h2;exact absurd ⟨by omega,by omega⟩ (a7 _ (a3 j h2))
  ·omega
 have C:∀id o,apply (uL g new hout) h id=some o→(id ∉ g∧h id=some o∧¬(new≤id∧id<new+8)) ∨
   ∃i A,look hout i=some A∧i<g.length+8∧(∀j∈ot A,j<g.length+8)∧zT A=true∧id=qT g new i∧o=ny (qT g new) A:=fun id o e=>by
  rcases wB e with hm | ⟨N,p⟩
  ·right
   simp only[uL,List.mem_append,List.mem_map]at hm;rcases hm with⟨i,_,e⟩ | ⟨⟨i,A⟩,hm,e⟩
   ·simp at e
   ·simp only[Prod.mk.injEq,Option.some.injEq]at e;have:=k4 _ hm;exact⟨i,A,uE b2 hm,this.1.2,this.2,this.1.1,e.1.symm,e.2.symm⟩
  ·left
   refine⟨fun hi=>p (id,none) (by simp[uL,hi]) rfl,N,fun hc=>?_⟩;obtain⟨u,E,_⟩:=m.ob id o N;have:=ac (id - new) (by omega);rw[show new+(id - new)=id by omega,E]at this;cases this
 have D:∀id,id ∉ g→¬(new≤id∧id<new+8)→I id=φ id:=fun id h1 h2=>by simp only[I];rw[if_neg h2,if_neg h1]
 have a9:∀k,qU φ h g k→own φ h k:=fun k ⟨id,o,_,p,z,Y⟩=>⟨id,o,p,z,Y⟩
 have J:∀i A k,look hout i=some A→A.live=true→O i k→w.heap.size≤k∨qU φ h g k:=fun i A k N p z=>by
  have:=m'.ow k ⟨i,A,N,p,z⟩;by_cases hk:k<w.heap.size
  ·exact .inr (Classical.byContradiction fun hh=>this ⟨hk,hh⟩)
  ·exact .inl (by omega)
 have a1:∀id o k,id ∉ g→h id=some o→o.live=true→φ id k→k<w.heap.size∧¬qU φ h g k:=fun id o k N p z Y=>by refine⟨m.lt id o k p z Y,fun⟨a2,A,s1,s2,s3,s4⟩=>?_⟩;have:=m.dj id a2 o A k p z s2 s3 Y s4;subst this;exact N s1
 have L:∀k,k<w.heap.size→¬qU φ h g k→w'.heap[k]? = w.heap[k]? :=fun k h1 h2=>m'.kp.block k ⟨h1,h2⟩
 have a6:∀k,own I (apply (uL g new hout) h) k→(∃id o,id ∉ g∧h id=some o∧o.live=true∧φ id k)∨own O (fun i=>look hout i) k:=fun k ⟨id,o,N,p,z⟩=>by
  rcases C id o N with⟨E,M,r3⟩ | ⟨i,A,E,M,r3,r4,rfl,rfl⟩
  ·rw[D id E r3]at z;exact .inl ⟨id,o,E,M,p,z⟩
  ·rw[B i M]at z;rw[gP]at p;exact .inr ⟨i,A,E,p,z⟩
 have hF:∀β a v,Fr (own φ h) Bw w β a v→Fr (own I (apply (uL g new hout) h)) Bw w' β a v:=fun β a v=>Fr.KR (fun k h1 h2=>L k h1 fun e=>h2 (a9 k e)) (fun k hk=>by
  rcases a6 k hk with⟨id,o,_,p,z,Y⟩ | ⟨i,A,N,p,z⟩
  ·exact .inl ⟨id,o,p,z,Y⟩
  ·exact(J i A k N p z).elim .inr (fun e=> .inl (a9 k e))) β a v
 have b1:∀a v,Fr (own O (fun i=>look hout i)) (pS φ (less g h) Bw) w' false a v→∀β,Fr (own I (apply (uL g new hout) h)) Bw w' β a v:=fun a v hh β=>by
  refine⟨fun e=>?_,fun _ hb=>hh.2.1 rfl (.inr hb),hh.2.2⟩;rcases a6 _ e with⟨id,o,N,p,z,Y⟩ | q
  ·exact hh.2.1 rfl (.inl ⟨id,o,by unfold less;rw[if_neg (by simpa using N)];exact p,z,Y⟩)
  ·exact hh.1 q
 have b4:(fp m g).w=w:=rfl;refine⟨Z,I,⟨fun id o e=>?_,fun id o k N p z=>?_,fun id a2 o A k N p z Y q5 q6=>?_,m.bw,fun k hk ad=>?_,?_,fun i u hi=>a8 i u (m.pc i u hi)⟩,hF,a8,fun i u hi=>?_,?_⟩
 ·rcases C id o e with⟨E,M,r3⟩ | ⟨i,A,E,M,r3,r4,rfl,rfl⟩
  ·obtain⟨u,s1,s2⟩:=m.ob id o M;refine⟨u,a8 id u s1,?_⟩;rw[D id E r3];exact OR.mono hF a8 (fun _ h=>h) (fun hl k hk=>by
    obtain⟨t1,t2⟩:=a1 id o k E M hl hk;exact L k t1 t2) s2
  ·obtain⟨u,s1,s2⟩:=m'.ob i A E;refine⟨u,by rw[a5 i M];exact s1,?_⟩;rw[B i M];refine J9 (ρ:=a4) (fun j hj=>a5 j (r3 j hj)) ?_;exact OR.mono (fun β a v hh=>b1 a v hh β) (fun _ _ h=>h) (fun _ h=>h) (fun _ _ _=>rfl) (HG r4 s2)
 ·rcases C id o N with⟨E,M,r3⟩ | ⟨i,A,E,M,r3,r4,rfl,rfl⟩
  ·rw[D id E r3]at z;exact Nat.lt_of_lt_of_le (m.lt id o k M p z) m'.kp.size
  ·rw[B i M]at z;rw[gP]at p;exact m'.lt i A k E p z
 ·rcases C id o N with⟨E,M,r3⟩ | ⟨i,o1,E,M,r3,r4,rfl,rfl⟩ <;> rcases C a2 A z with⟨s1,s2,s3⟩ | ⟨j,o2,s1,s2,s3,s4,rfl,rfl⟩
  ·rw[D id E r3]at q5;rw[D a2 s1 s3]at q6;exact m.dj id a2 o A k M p s2 Y q5 q6
  ·rw[D id E r3]at q5;rw[B j s2]at q6;rw[gP]at Y;obtain⟨t1,t2⟩:=a1 id o k E M p q5;rcases J j o2 k s1 Y q6 with t3 | t3
   ·omega
   ·exact absurd t3 t2
  ·rw[B i M]at q5;rw[D a2 s1 s3]at q6;rw[gP]at p;obtain⟨t1,t2⟩:=a1 a2 A k s1 s2 Y q6;rcases J i o1 k E p q5 with t3 | t3
   ·omega
   ·exact absurd t3 t2
  ·rw[B i M]at q5;rw[B j s2]at q6;rw[gP]at p Y;rw[m'.dj i j o1 o2 k E p s1 Y q5 q6]
 ·rcases a6 k hk with⟨id,o,_,p,z,Y⟩ | ⟨i,A,N,p,z⟩
  ·exact m.ow k ⟨id,o,p,z,Y⟩ ad
  ·rcases J i A k N p z with t | t
   ·have:=w0.lt k ad;have:=m.kp.size;omega
   ·exact m.ow k (a9 k t) ad
 ·refine⟨m'.kp.os.trans m.kp.os,m'.kp.tape.trans m.kp.tape,m'.kp.output.trans m.kp.output,Nat.le_trans m.kp.size m'.kp.size,fun k hk=>?_⟩;rw[L k (Nat.lt_of_lt_of_le (w0.lt k hk) m.kp.size) (fun e=>m.ow k (a9 k e) hk)];exact m.kp.block k hk
 ·simp only[Z]at hi;split at hi
  ·rename_i hc;exact .inr ⟨i - new,by omega,by omega⟩
  ·exact .inl hi
 ·exact KN (ρ:=a4) (fun i hi=>a5 i (k3 i hi)) (V.mono (fun β a v hh=>b1 a v hh β) (fun _ _ h=>h) (u3 k2 hv))
theorem pD:∀ {l:QV} {i:Nat} {hin:Qw},jR g h i l=some hin→∀id∈l,∃o,h id=some o
 | [],_,_,_,id,hm=>by cases hm
 | x::r,i,hin,e,id,hm=>by
  simp only[jR]at e;split at e
  ·rename_i j p;split at e
   ·split at e
    ·rename_i q hl;rcases List.mem_cons.1 hm with rfl | hm
     ·exact⟨j,p⟩
     ·exact pD hl id hm
    ·cases e
   ·cases e
  ·cases e
theorem G3(m:Mem Bw w0 ρ φ h w)(Y:∀j,j<8→ρ (new+j)=none){o:Oper}{a:Act}{fo:Operand}{q:Array Operand}{Z:Array TypeId}(ho:o.op = .call { callee:= .value fo,args:=q,argTypes:=Z })
  {f:FuncId} {z:List ag} (hf:V (Fr (own φ h) Bw w) ρ (.fn f z) (a.eval fo)) {xs:List ag} (hx:iS (Fr (own φ h) Bw w) ρ xs (q.toList.map a.eval)) {args:List ag} (hl:qO g (less g h) (xs++z)=some args)
  {hin:Qw} (hi:jR g h 0 g=some hin) {r:ag} {hout:Qw} (D:ue g hout r=true)
  (hp:jD P f args hin r hout):Good P o a w (aF Bw w0 ρ φ h w new (lV (qT g new) r) (uL g new hout)):=by
 simp only[V]at hf;obtain⟨X,a1,a2,E⟩:=hf;obtain⟨fn,a3,hname,B⟩:=hp.fn;have I:∀(N:List ag) (p:QY),p.length=N.length→VL (Fr (own φ h) Bw w) ρ N (fun k u=>p[k]? = some u)→iS (Fr (own φ h) Bw w) ρ N p:=fun N=>by
  induction N with
  | nil=>intro p hl _;cases p with | nil=>trivial | cons _ _=>simp at hl
  | cons c N ih =>
   intro p hl C;cases p with
   | nil=>simp at hl
   | cons u p =>simp only[VL]at C;obtain⟨⟨u',q1,q2⟩,q3⟩:=C;simp at q1;subst q1;exact⟨q2,ih p (by simpa using hl) (VL.mono (fun _ _ _ h=>h) (fun _ _ h=>h) (fun k u hk=>by simpa using hk) q3)⟩
 have O:∀(xs:List ag) (p:QY),iS (Fr (own φ h) Bw w) ρ xs p→iS (Fr (own φ h) Bw w) ρ (xs++z) (p++X.toList):=fun xs=>by
  induction xs with
  | nil =>
   intro p C;cases p with
   | nil=>exact I z X.toList (by simpa using a2) (VL.mono (fun _ _ _ h=>h) (fun _ _ h=>h) (fun k u hk=>by simpa using hk) E)
   | cons _ _=>exact C.elim
  | cons x xs ih =>
   intro p C;cases p with
   | nil=>exact C.elim
   | cons u p=>exact⟨C.1,ih p C.2⟩
 have hn:g.Nodup:=by simp only[ue,Bool.and_eq_true]at D;exact kJ D.1.1.1.1
 obtain⟨mc,L⟩:=qy m hn hi;have J:=mh m L hl (O xs _ hx);have M:=hp.calls (pS φ (less g h) Bw) (fp m g) (fun i=>φ (g.getD i 0)) (q.map a.eval++X) mc (by rw[Array.toList_append,Array.toList_map];exact J) (fun i u e=>by
  rw[kM hi];simp only[fp]at e;split at e
  ·assumption
  ·cases e)
 refine Good.sn (f:=f) (args:=q.map a.eval++X) (w':=w) ?_ (M.mono fun e w' ⟨v,a5,a6,he,a4,C⟩=>⟨v,he,?_⟩)
 ·have n1:¬fn.name = "runtime.NumGoroutine" :=by simpa using hname
  have n2:¬fn.body=none:=fun e=>by rw[e]at B;cases B
  simp[execOp,ho,resolve,a1,Deferred.ofValue,invoke,callFunc,a3,n1,n2]
 ·exact qA m hn Y (pD hi) D a4 C
theorem JW(m:Mem Bw w0 ρ φ h w)(Y:∀j,j<8→ρ (new+j)=none){o:Oper}{a:Act}{fo:Operand}{q:Array Operand}{Z:Array TypeId}(ho:o.op = .call { callee:= .value fo,args:=q,argTypes:=Z })
  {f:FuncId} {z:List ag} (hf:V (Fr (own φ h) Bw w) ρ (.fn f z) (a.eval fo)) {B:List ag} (hx:iS (Fr (own φ h) Bw w) ρ B (q.toList.map a.eval)) {args:List ag} (hl:qO g (less g h) (B++z)=some args)
  {hin:Qw} (hi:jR g h 0 g=some hin) (D:ue g [] .unk=true) {x:Value}
  (hp:jV P f args hin x):LO P o a w x (fun w'=>∃v,aF Bw w0 ρ φ h w new .unk (uL g new []) v w'):=by
 simp only[V]at hf;obtain⟨X,a1,a2,E⟩:=hf;obtain⟨fn,a3,hname,A⟩:=hp.fn;have I:∀(N:List ag) (p:QY),p.length=N.length→VL (Fr (own φ h) Bw w) ρ N (fun k u=>p[k]? = some u)→iS (Fr (own φ h) Bw w) ρ N p:=fun N=>by
  induction N with
  | nil=>intro p hl _;cases p with | nil=>trivial | cons _ _=>simp at hl
  | cons c N ih =>
   intro p hl C;cases p with
   | nil=>simp at hl
   | cons u p =>simp only[VL]at C;obtain⟨⟨u',q1,q2⟩,q3⟩:=C;simp at q1;subst q1;exact⟨q2,ih p (by simpa using hl) (VL.mono (fun _ _ _ h=>h) (fun _ _ h=>h) (fun k u hk=>by simpa using hk) q3)⟩
 have O:∀(B:List ag) (p:QY),iS (Fr (own φ h) Bw w) ρ B p→iS (Fr (own φ h) Bw w) ρ (B++z) (p++X.toList):=fun B=>by
  induction B with
  | nil =>
   intro p C;cases p with
   | nil=>exact I z X.toList (by simpa using a2) (VL.mono (fun _ _ _ h=>h) (fun _ _ h=>h) (fun k u hk=>by simpa using hk) E)
   | cons _ _=>exact C.elim
  | cons x B ih =>
   intro p C;cases p with
   | nil=>exact C.elim
   | cons u p=>exact⟨C.1,ih p C.2⟩
 have hn:g.Nodup:=by simp only[ue,Bool.and_eq_true]at D;exact kJ D.1.1.1.1
 obtain⟨mc,L⟩:=qy m hn hi;have J:=mh m L hl (O B _ hx);have M:=hp.calls (pS φ (less g h) Bw) (fp m g) (fun i=>φ (g.getD i 0)) (q.map a.eval++X) mc (by rw[Array.toList_append,Array.toList_map];exact J) (fun i u e=>by
  rw[kM hi];simp only[fp]at e;split at e
  ·assumption
  ·cases e)
 refine LO.sn (f:=f) (args:=q.map a.eval++X) (w':=w) ?_ (M.mono fun e w' ⟨a5,a6,he,a4⟩=>⟨he,undef,?_⟩)
 ·have n1:¬fn.name = "runtime.NumGoroutine" :=by simpa using hname
  have n2:¬fn.body=none:=fun e=>by rw[e]at A;cases A
  simp[execOp,ho,resolve,a1,Deferred.ofValue,invoke,callFunc,a3,n1,n2]
 ·exact qA m hn Y (pD hi) (r:= .unk) D a4 trivial
end
end Go.Tv
