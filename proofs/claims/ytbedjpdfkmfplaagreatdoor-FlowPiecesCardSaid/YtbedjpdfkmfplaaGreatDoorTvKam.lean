import Derived.Test.YtbedjpdfkmfplaaGreatDoorTvK
namespace Go.Tv
open Go Go.RowKit
def look{α:Type}:List (Nat×α)→Nat→Option α
 | [],_=>none
 | (k,x)::r,i=>if k=i then some x else look r i
theorem nf{α:Type}:∀ {l:List (Nat×α)} {t:Nat} {x:α},look l t=some x→(t,x)∈l
 | [],_,_,h=>by cases h
 | (k,y)::r,t,x,h=>by
  simp only[look]at h;split at h
  ·rename_i e;cases h;subst e;simp
  ·exact List.mem_cons_of_mem _ (nf h)
mutual
def ids:ag→QV
 | .sl i=>[i]
 | .mp i=>[i]
 | .adr i _ _ _=>[i]
 | .ada i _ _ _=>[i]
 | .fad _ cs _=>bA cs
 | .agg cs=>bA cs
 | .tup cs=>bA cs
 | .fn _ cs=>bA cs
 | .p _ _ _=>[]
 | .nils=>[]
 | .nilp=>[]
 | .lit _=>[]
 | .lag _ _ _ cs=>bA cs
 | .loc _ _ _=>[]
 | .suf i _ _=>[i]
 | .bfn _ cs=>bA cs
 | .unk=>[]
def bA:List ag→QV
 | []=>[]
 | x::xs=>ids x++bA xs
end
theorem cO{i:Nat}:∀ {xs:List ag},i∈bA xs↔∃x∈xs,i∈ids x
 | []=>by simp[bA]
 | x::xs=>by simp[bA,cO (xs:=xs)]
def ph:Obj→QV
 | .box e=>bA e
 | .lmp _ _ _ e=>bA e
 | .vrow _ _ e=>bA e
 | .mat _ _ _ _ (some (_,id))=>[id]
 | .nds _ _ _ (some (_,_,id))=>[id]
 | _=>[]
mutual
def mM(f:Nat→Nat):ag→ag
 | .sl i=> .sl (f i)
 | .mp i=> .mp (f i)
 | .adr i k sz off=> .adr (f i) k sz off
 | .ada i b n k=> .ada (f i) b n k
 | .fad β e off=> .fad β (pE f e) off
 | .agg e=> .agg (pE f e)
 | .tup e=> .tup (pE f e)
 | .fn g e=> .fn g (pE f e)
 | .p β T x=> .p β T x
 | .nils=> .nils
 | .nilp=> .nilp
 | .lit v=> .lit v
 | .lag k n j e=> .lag k n j (pE f e)
 | .loc β T x=> .loc β T x
 | .suf i q sz=> .suf (f i) q sz
 | .bfn g e=> .bfn g (pE f e)
 | .unk=> .unk
def pE(f:Nat→Nat):List ag→List ag
 | []=>[]
 | x::j=>mM f x::pE f j
end
theorem bE(f:Nat→Nat):∀e:List ag,(pE f e).length=e.length
 | []=>rfl
 | x::e=>by simp[pE,bE f e]
def oL(f:Nat→Nat):Obj→Obj
 | .box j=> .box (pE f j)
 | .lmp k n v j=> .lmp k n v (pE f j)
 | .vrow n sz j=> .vrow n sz (pE f j)
 | .mat e q A u (some (k,id))=> .mat e q A u (some (k,f id))
 | .nds e q z (some (k,g,id))=> .nds e q z (some (k,g,f id))
 | o=>o
mutual
theorem Li{F:Bool→Addr→Value→Prop}{ρ ρ':Nat→QW}{f:Nat→Nat}:∀ {x:ag} {v:Value},(∀i∈ids x,ρ' i=ρ (f i))→V F ρ (mM f x) v→V F ρ' x v
 | .p _ _ _,_,_,j=>by simpa only [mM,V]using j
 | .nils,_,_,j=>by simpa only [mM,V]using j
 | .nilp,_,_,j=>by simpa only [mM,V]using j
 | .lit _,_,_,j=>by simpa only [mM,V]using j
 | .unk,_,_,_=>by simp only[V]
 | .sl i,_,h,j=>by
  simp_all [mM,V,ids]
 | .mp i,_,h,j=>by
  simp_all [mM,V,ids]
 | .ada i _ _ _,_,h,j=>by
  simp_all [mM,V,ids]
 | .adr i _ _ _,_,h,j=>by
  simp_all [mM,V,ids]
 | .fad _ A _,_,h,j=>by
  simp only[mM,V]at j ⊢;obtain⟨C,e,hl⟩:=j;exact⟨C,e,m9 (fun i hi=>h i (by simpa only [ids]using hi)) hl⟩
 | .agg A,_,h,j=>by
  simp only[mM,V,bE]at j ⊢;obtain⟨q,e,z,hl⟩:=j;exact⟨q,e,z,m9 (fun i hi=>h i (by simpa only [ids]using hi)) hl⟩
 | .tup A,_,h,j=>by
  simp only[mM,V,bE]at j ⊢;obtain⟨q,e,z,hl⟩:=j;exact⟨q,e,z,m9 (fun i hi=>h i (by simpa only [ids]using hi)) hl⟩
 | .fn _ A,_,h,j=>by
  simp only[mM,V,bE]at j ⊢;obtain⟨q,e,z,hl⟩:=j;exact⟨q,e,z,m9 (fun i hi=>h i (by simpa only [ids]using hi)) hl⟩
 | .lag _ _ _ A,_,h,j=>by
  simp only[mM,V,bE]at j ⊢;obtain⟨q,e,z,hl⟩:=j;exact⟨q,e,z,m9 (fun i hi=>h i (by simpa only [ids]using hi)) hl⟩
 | .loc _ _ _,_,_,j=>by simpa only [mM,V]using j
 | .suf i _ _,_,h,j=>by
  simp_all [mM,V,ids]
 | .bfn _ A,_,h,j=>by simp only[mM,V,bE]at j ⊢;obtain⟨q,e,z,hl⟩:=j;exact⟨q,e,z,m9 (fun i hi=>h i (by simpa only [ids]using hi)) hl⟩
theorem m9{F:Bool→Addr→Value→Prop}{ρ ρ':Nat→QW}{f:Nat→Nat}:∀ {B:List ag} {g:Nat→Value→Prop},(∀i∈bA B,ρ' i=ρ (f i))→VL F ρ (pE f B) g→VL F ρ' B g
 | [],_,_,_=>by simp only[VL]
 | x::B,_,h,j=>by simp only[pE,VL]at j ⊢;obtain⟨⟨u,D,E⟩,I⟩:=j;exact⟨⟨u,D,Li (fun i hi=>h i (by simp[bA,hi])) E⟩,m9 (fun i hi=>h i (by simp[bA,hi])) I⟩
end
def ym(h:Nat→Qz)(xs:List ag):QV :=
 bA xs++(bA xs).flatMap fun i=>match h i with
  | some (.box e)=>bA e
  | _=>[]
/-! ### j other q round -/
mutual
theorem LU{F:Bool→Addr→Value→Prop}{ρ q:Nat→QW}{f:Nat→Nat}:∀ {x:ag} {v:Value},(∀i∈ids x,q (f i)=ρ i)→V F ρ x v→V F q (mM f x) v
 | .p _ _ _,_,_,j=>by simpa only [mM,V]using j
 | .nils,_,_,j=>by simpa only [mM,V]using j
 | .nilp,_,_,j=>by simpa only [mM,V]using j
 | .lit _,_,_,j=>by simpa only [mM,V]using j
 | .unk,_,_,_=>by simp only[mM,V]
 | .sl i,_,h,j=>by
  simp_all [mM,V,ids]
 | .mp i,_,h,j=>by
  simp_all [mM,V,ids]
 | .ada i _ _ _,_,h,j=>by
  simp_all [mM,V,ids]
 | .adr i _ _ _,_,h,j=>by
  simp_all [mM,V,ids]
 | .fad _ B _,_,h,j=>by
  simp only[mM,V]at j ⊢;obtain⟨D,e,hl⟩:=j;exact⟨D,e,qU (fun i hi=>h i (by simpa only [ids]using hi)) hl⟩
 | .agg B,_,h,j=>by
  simp only[mM,V,bE]at j ⊢;obtain⟨z,e,A,hl⟩:=j;exact⟨z,e,A,qU (fun i hi=>h i (by simpa only [ids]using hi)) hl⟩
 | .tup B,_,h,j=>by
  simp only[mM,V,bE]at j ⊢;obtain⟨z,e,A,hl⟩:=j;exact⟨z,e,A,qU (fun i hi=>h i (by simpa only [ids]using hi)) hl⟩
 | .fn _ B,_,h,j=>by
  simp only[mM,V,bE]at j ⊢;obtain⟨z,e,A,hl⟩:=j;exact⟨z,e,A,qU (fun i hi=>h i (by simpa only [ids]using hi)) hl⟩
 | .lag _ _ _ B,_,h,j=>by
  simp only[mM,V,bE]at j ⊢;obtain⟨z,e,A,hl⟩:=j;exact⟨z,e,A,qU (fun i hi=>h i (by simpa only [ids]using hi)) hl⟩
 | .loc _ _ _,_,_,j=>by simpa only [mM,V]using j
 | .suf i _ _,_,h,j=>by
  simp_all [mM,V,ids]
 | .bfn _ B,_,h,j=>by simp only[mM,V,bE]at j ⊢;obtain⟨z,e,A,hl⟩:=j;exact⟨z,e,A,qU (fun i hi=>h i (by simpa only [ids]using hi)) hl⟩
theorem qU{F:Bool→Addr→Value→Prop}{ρ q:Nat→QW}{f:Nat→Nat}:∀ {C:List ag} {g:Nat→Value→Prop},(∀i∈bA C,q (f i)=ρ i)→VL F ρ C g→VL F q (pE f C) g
 | [],_,_,_=>by simp only[pE,VL]
 | x::C,_,h,j=>by simp only[pE,VL]at j ⊢;obtain⟨⟨u,E,I⟩,J⟩:=j;exact⟨⟨u,E,LU (fun i hi=>h i (by simp[bA,hi])) I⟩,qU (fun i hi=>h i (by simp[bA,hi])) J⟩
end
theorem GQ{F:Bool→Addr→Value→Prop}{ρ B:Nat→QW}{S:Nat→Prop}{w:World}{f:Nat→Nat}{e I:TypeId}{A:Ty}{C:List (List A.den)}{hole:Option (Nat×Nat)}{u:Value}
  (h:∀k id,hole=some (k,id)→B (f id)=ρ id) (V:OR F ρ S w (.mat e I A C hole) u):OR F B S w (oL f (.mat e I A C hole)) u:=by
 obtain⟨J,L,hk,cells,M,N,O⟩:=V;cases hole with
 | none=>exact⟨J,L,hk,cells,M,fun i hi=>(N i hi).imp fun v q=>⟨q.1,q.2.1,q.2.2.1,fun id e=>by cases e⟩,O⟩
 | some p =>
  obtain⟨k,id⟩:=p;have z:∀i,Dq (some (k,f id)) i→Dq (some (k,id)) i:=fun i X Y D e=>by cases e;exact X k (f id) rfl
  refine⟨J,L,fun Y D e=>(by cases e;exact hk k id rfl),cells,M,fun i hi=>?_,fun i j Z vj b E s1 s2=>O i j Z vj b E (z i s1) (z j s2)⟩;obtain⟨v,q1,q2,q3,q4⟩:=N i hi;exact⟨v,q1,q2,fun s=>q3 (z i s),fun D e=>by cases e;rw[h k id rfl];exact q4 id rfl⟩
theorem E5{F:Bool→Addr→Value→Prop}{ρ ρ':Nat→QW}{S:Nat→Prop}{w:World}{f:Nat→Nat}{e N:TypeId}{A:Ty}{B:List (List A.den)}{hole:Option (Nat×Nat)}{u:Value}
  (h:∀k id,hole=some (k,id)→ρ' id=ρ (f id)) (O:OR F ρ S w (oL f (.mat e N A B hole)) u):OR F ρ' S w (.mat e N A B hole) u:=by
 cases hole with
 | none =>
  obtain⟨D,E,hk,cells,I,J,L⟩:=O;exact⟨D,E,hk,cells,I,fun i hi=>(J i hi).imp fun v q=>⟨q.1,q.2.1,q.2.2.1,fun id e=>by cases e⟩,L⟩
 | some p =>
  obtain⟨k,id⟩:=p;obtain⟨D,E,hk,cells,I,J,L⟩:=O;have z:∀i,Dq (some (k,id)) i→Dq (some (k,f id)) i:=fun i V X C e=>by cases e;exact V k id rfl
  refine⟨D,E,fun X C e=>(by cases e;exact hk k (f id) rfl),cells,I,fun i hi=>?_,fun i j Y Z b M s1 s2=>L i j Y Z b M (z i s1) (z j s2)⟩;obtain⟨v,q1,q2,q3,q4⟩:=J i hi;exact⟨v,q1,q2,fun s=>q3 (z i s),fun C e=>by cases e;rw[h k id rfl];exact q4 (f id) rfl⟩
theorem vG{F:Bool→Addr→Value→Prop}{ρ ρ':Nat→QW}{S:Nat→Prop}{w:World}{e B:TypeId}{C:List Nd}{k i j:Nat}{g:Bool}{u:Value}
  (h:ρ' j=ρ i) (I:OR F ρ S w (.nds e B C (some (k,g,i))) u):OR F ρ' S w (.nds e B C (some (k,g,j))) u:=by
 obtain⟨J,hk,cells,L,M,N⟩:=I;have q:∀r f,nJ (some (k,g,j)) r f→nJ (some (k,g,i)) r f:=fun r f O V X z e=>by cases e;exact O k g j rfl
 refine⟨J,fun V X z e=>(by cases e;exact hk k g i rfl),cells,L,fun r f hi=>?_,fun r f D E Y Z b A s1 s2=>N r f D E Y Z b A (q r f s1) (q D E s2)⟩;obtain⟨v,q1,q2,q3,q4⟩:=M r f hi;exact⟨v,q1,q2,fun s=>q3 (q r f s),fun z e=>by cases e;rw[h];exact q4 i rfl⟩
theorem u3{F:Bool→Addr→Value→Prop}{ρ ρ':Nat→QW}{S:Nat→Prop}{w:World}{e j:TypeId}{z:List Nd}{u:Value}
  (A:OR F ρ S w (.nds e j z none) u):OR F ρ' S w (.nds e j z none) u:=by
 obtain⟨B,hk,cells,C,D,E⟩:=A;exact⟨B,hk,cells,C,fun i f hi=>(D i f hi).imp fun v q=>⟨q.1,q.2.1,q.2.2.1,fun id e=>by cases e⟩,E⟩
theorem K5{F:Bool→Addr→Value→Prop}{ρ q:Nat→QW}{S:Nat→Prop}{w:World}{f:Nat→Nat}{o:Obj}{u:Value}(h:∀i∈ph o,q (f i)=ρ i)(j:OR F ρ S w o u):OR F q S w (oL f o) u:=by
 cases o with
 | arr e A D=>exact j
 | fz A D =>
  simp only[oL,OR]at j ⊢;exact rE rfl j
 | box I =>
  obtain⟨g,t,cells,e,v,z,B,C⟩:=j;exact⟨g,t,cells,e,v,z,by rw[B,bE],qU (fun i hi=>h i (by simpa only [ph]using hi)) C⟩
 | mpo K A J=>exact j
 | mpl K J=>exact j
 | mat e M A N hole=>exact GQ (fun k id e=>h id (by subst e;simp[ph])) j
 | bytes e D=>exact j
 | mpq b J=>exact j
 | nds e M O hole =>
  match hole with
  | none=>exact u3 j
  | some (k,g,id)=>exact vG (h id (by simp[ph])) j
 | cutz A D =>
  simp only[oL,OR]at j ⊢;exact⟨j.1,rE rfl j.2⟩
 | lmp k n D I =>
  obtain⟨g,t,cells,e,v,z,B,C,E⟩:=j;exact⟨g,t,cells,e,v,z,by rw[B,bE],C,qU (fun i hi=>h i (by simpa only [ph]using hi)) E⟩
 | vrow n sz I =>obtain⟨g,t,cells,e,v,z,B,C,E⟩:=j;exact⟨g,t,cells,e,v,z,by rw[B,bE],by rw[bE];exact C,qU (fun i hi=>h i (by simpa only [ph]using hi)) E⟩
/-! ### L V not qK -/
mutual
def jR:ag→Bool
 | .p β T _=> !T.refs || !β
 | .fad β e _=> !β && iJ e
 | .agg e=>iJ e
 | .tup e=>iJ e
 | .fn _ e=>iJ e
 | .sl _=>true
 | .mp _=>true
 | .adr _ _ _ _=>true
 | .ada _ _ _ _=>true
 | .nils=>true
 | .nilp=>true
 | .lit _=>true
 | .lag _ _ _ e=>iJ e
 | .loc β _ _=> !β
 | .suf _ _ _=>true
 | .bfn _ e=>iJ e
 | .unk=>true
def iJ:List ag→Bool
 | []=>true
 | x::f=>jR x && iJ f
end
def Aj:Obj→Bool
 | .box e=>iJ e
 | .lmp _ _ _ e=>iJ e
 | .vrow _ _ e=>iJ e
 | _=>true
mutual
theorem wk{F:Bool→Addr→Value→Prop}{ρ:Nat→QW}:∀ {x:ag} {v:Value},jR x=true→V F ρ x v→V (fun _=>F false) ρ x v
 | .p β T y,_,h,f=>by
  grind (splits:=6) (ematch:=4) [V,jR,jW]
 | .nils,_,_,f=>by simpa only [V]using f
 | .nilp,_,_,f=>by simpa only [V]using f
 | .lit _,_,_,f=>by simpa only [V]using f
 | .unk,_,_,_=>by simp only[V]
 | .sl i,_,_,f=>by simpa only [V]using f
 | .mp i,_,_,f=>by simpa only [V]using f
 | .adr i _ _ _,_,_,f=>by simpa only [V]using f
 | .ada i _ _ _,_,_,f=>by simpa only [V]using f
 | .fad β z _,_,h,f=>by
  simp only[jR,Bool.and_eq_true,Bool.not_eq_true']at h;obtain⟨rfl,h⟩:=h;simp only[V]at f ⊢;obtain⟨B,e,hl⟩:=f;exact⟨B,e,iD h hl⟩
 | .agg z,_,h,f=>by
  simp only[jR]at h;simp only[V]at f ⊢;obtain⟨j,e,q,hl⟩:=f;exact⟨j,e,q,iD h hl⟩
 | .tup z,_,h,f=>by
  simp only[jR]at h;simp only[V]at f ⊢;obtain⟨j,e,q,hl⟩:=f;exact⟨j,e,q,iD h hl⟩
 | .fn _ z,_,h,f=>by
  simp only[jR]at h;simp only[V]at f ⊢;obtain⟨j,e,q,hl⟩:=f;exact⟨j,e,q,iD h hl⟩
 | .lag _ _ _ z,_,h,f=>by
  simp only[jR]at h;simp only[V]at f ⊢;obtain⟨j,e,q,hl⟩:=f;exact⟨j,e,q,iD h hl⟩
 | .loc β _ _,_,h,f=>by
  simp_all [jR,V]
 | .suf _ _ _,_,_,f=>by simpa only [V]using f
 | .bfn _ z,_,h,f=>by simp only[jR]at h;simp only[V]at f ⊢;obtain⟨j,e,q,hl⟩:=f;exact⟨j,e,q,iD h hl⟩
theorem iD{F:Bool→Addr→Value→Prop}{ρ:Nat→QW}:∀ {A:List ag} {g:Nat→Value→Prop},iJ A=true→VL F ρ A g→VL (fun _=>F false) ρ A g
 | [],_,_,_=>by simp only[VL]
 | x::A,_,h,f=>by simp only[iJ,Bool.and_eq_true]at h;simp only[VL]at f ⊢;obtain⟨⟨u,C,D⟩,E⟩:=f;exact⟨⟨u,C,wk h.1 D⟩,iD h.2 E⟩
end
theorem I3{F:Bool→Addr→Value→Prop}{ρ:Nat→QW}{S:Nat→Prop}{w:World}{o:Obj}{u:Value}(h:Aj o=true)(f:OR F ρ S w o u):OR (fun _=>F false) ρ S w o u:=by
 cases o with
 | arr e A C=>exact f
 | fz A C =>
  simp only[OR]at f ⊢;exact wk (by simp[jR]) f
 | box E =>
  obtain⟨g,t,cells,e,j,q,v,z⟩:=f;exact⟨g,t,cells,e,j,q,v,iD h z⟩
 | mpo K A I=>exact f
 | mpl K I=>exact f
 | mat e J A L hole=>exact f
 | bytes e C=>exact f
 | mpq b I=>exact f
 | nds e J M hole=>exact f
 | cutz A C =>
  simp only[OR]at f ⊢;exact⟨f.1,wk (by simp[jR]) f.2⟩
 | lmp k n C E =>
  obtain⟨g,t,cells,e,j,q,v,z,D⟩:=f;exact⟨g,t,cells,e,j,q,v,z,iD h D⟩
 | vrow n sz E =>obtain⟨g,t,cells,e,j,q,v,z,D⟩:=f;exact⟨g,t,cells,e,j,q,v,z,iD h D⟩
/-! ### B over -/
def JM(g:QV)(i:Nat):Nat:=g.idxOf i
def sa(g:QV)(new i:Nat):Nat:=if i<g.length then g.getD i 0 else new+(i - g.length)
def less(g:QV)(h:Nat→Qz)(i:Nat):Qz:=if g.contains i then none else h i
def zv(g:QV)(h:Nat→Qz)(x:ag):Option ag :=
 if(ids x).all (fun i=>g.contains i) && !(ids x).isEmpty then some (mM (JM g) x)else BV h x
def tY(g:QV)(h:Nat→Qz):List ag→Option (List ag)
 | []=>some []
 | x::xs=>match zv g h x,tY g h xs with
  | some y,some e=>some (y::e)
  | _,_=>none
def j8(g:QV)(h:Nat→Qz):Nat→QV→Option Qw
 | _,[]=>some []
 | i,id::r=>match h id with
  | some o=>if(ph o).all (fun j=>g.contains j)then match j8 g h (i+1) r with
   | some l=>some ((i,oL (JM g) o)::l)
   | none=>none
   else none
  | none=>none
def wV:QV→Bool
 | []=>true
 | x::e=> !e.contains x && wV e
def vL(g:QV)(new:Nat)(hout:Qw):iu :=
 g.map (fun i=>(i,none))++hout.map (fun p=>(sa g new p.1,some (oL (sa g new) p.2)))
def uR(g:QV)(hout:Qw)(r:ag):Bool :=
 wV g && wV (hout.map (·.1)) && jR r && (ids r).all (fun i=>decide (i<g.length+8)) &&
  hout.all (fun p=>Aj p.2 && decide (p.1<g.length+8) && (ph p.2).all (fun i=>decide (i<g.length+8)))
structure gN(P:Program)(f:FuncId)(args:List ag)(hin:Qw)(r:ag)(hout:Qw):Prop where
 fn:∃fn,P.funcs[f]? = some fn∧(fn.name == "runtime.NumGoroutine")=false∧fn.body.isNone=false
 calls:∀(Bw:Nat→Prop) (b:cE P) (φ:Nat→Nat→Prop) (vals:QU),Mem Bw b b.pk φ (fun i=>look hin i) b.w →
  jf (Fr (own φ (fun i=>look hin i)) Bw b.w) b.pk args vals.toList→(∀i u,b.pk i=some u→i<hin.length) →
  Calls P f vals b.w fun e w'=>∃v ρ' φ',e = .returned v∧Mem Bw b ρ' φ' (fun i=>look hout i) w'∧V (Fr (own φ' (fun i=>look hout i)) Bw w') ρ' r v
structure kg(P:Program)(f:FuncId)(args:List ag)(hin:Qw)(x:Value):Prop where
 fn:∃fn,P.funcs[f]? = some fn∧(fn.name == "runtime.NumGoroutine")=false∧fn.body.isNone=false
 calls:∀(Bw:Nat→Prop) (b:cE P) (φ:Nat→Nat→Prop) (vals:QU),Mem Bw b b.pk φ (fun i=>look hin i) b.w →
  jf (Fr (own φ (fun i=>look hin i)) Bw b.w) b.pk args vals.toList→(∀i u,b.pk i=some u→i<hin.length) →
  Calls P f vals b.w fun e w'=>∃ρ' φ',e = .panicked [{ v:=x,recovered:=false }]∧Mem Bw b ρ' φ' (fun _=>none) w'
def jt(P:Program)(f:FuncId)(args:List ag)(hin:Qw):(ag×Qw)⊕Value→Prop
 | .inl p=>gN P f args hin p.1 p.2
 | .inr x=>kg P f args hin x
section
variable{g:QV}{h:Nat→Qz}
theorem lb:∀ {l:QV},wV l=true→l.Nodup
 | [],_=>List.nodup_nil
 | x::e,h=>by
  simp only[wV,Bool.and_eq_true,Bool.not_eq_true',List.contains_eq_mem,decide_eq_false_iff_not]at h;exact List.nodup_cons.2 ⟨h.1,lb h.2⟩
theorem Io{i:Nat}(hi:i∈g):JM g i<g.length:=List.idxOf_lt_length_of_mem hi
theorem BK{i:Nat}(hi:i∈g):g.getD (JM g i) 0=i:=by
 simp_all [JM,List.idxOf_lt_length_of_mem,List.getElem_idxOf]
theorem sV(hn:g.Nodup){i:Nat}(hi:i<g.length):JM g (g.getD i 0)=i:=by
 simp_all [JM]
theorem lg:∀ {l:QV} {i:Nat} {hin:Qw},j8 g h i l=some hin→hin.length=l.length
 | [],_,_,e=>by cases e;rfl
 | id::r,i,hin,e=>by
  simp only[j8]at e;split at e
  ·split at e
   ·split at e
    ·rename_i j hl;cases e;simp[lg hl]
    ·cases e
   ·cases e
  ·cases e
theorem wE:∀ {l:QV} {i:Nat} {hin:Qw},j8 g h i l=some hin→∀ {j:Nat} {o:Obj},look hin j=some o →
  ∃id q,i≤j∧l[j - i]? = some id∧h id=some q∧o=oL (JM g) q∧∀k∈ph q,k∈g
 | [],_,_,e,j,o,f=>by cases e;cases f
 | id::r,i,hin,e,j,o,f=>by
  simp only[j8]at e;split at e
  ·rename_i q D;split at e
   ·rename_i v;split at e
    ·rename_i E hl;cases e;simp only[look]at f;split at f
     ·simp_all
     ·obtain⟨u,o2,I,z,A,B,C⟩:=wE hl f;refine⟨u,o2,by omega,?_,A,B,C⟩;rw[show j - i=(j - (i+1))+1 by omega];simpa using z
    ·cases e
   ·cases e
  ·cases e
theorem xr:∀ {f:iu} {h:Nat→Qz} {i:Nat} {o:Obj},apply f h i=some o→(i,some o)∈f∨(h i=some o∧∀p∈f,p.1≠i)
 | [],h,i,o,e=> .inr ⟨e,fun p u=>by cases u⟩
 | (j,x)::f,h,i,o,e=>by
  simp only[apply]at e;rcases xr e with q | ⟨v,z⟩
  ·exact .inl (List.mem_cons_of_mem _ q)
  ·grind (splits:=6) (ematch:=4) [av,List.mem_cons_self,aD]
theorem vI:∀ {l:Qw} {i:Nat} {o:Obj},(l.map (·.1)).Nodup→(i,o)∈l→look l i=some o
 | (j,x)::r,i,o,hn,f=>by
  simp only[List.map_cons,List.nodup_cons]at hn;simp only[look];rcases List.mem_cons.1 f with e | f
  ·cases e;rw[if_pos rfl]
  ·rw[if_neg (fun e=>hn.1 (List.mem_map.2 ⟨(i,o),f,e.symm⟩))];exact vI hn.2 f
end
section
variable{P:Program}{Bw:Nat→Prop}{w0:cE P}{ρ:Nat→QW}{φ:Nat→Nat→Prop}{h:Nat→Qz}{w:World}{new:Nat}{g:QV}
theorem tT{i:Nat}{o:Obj}(hi:less g h i=some o):h i=some o∧i ∉ g:=by
 simp_all [less]
def tH(φ:Nat→Nat→Prop)(h:Nat→Qz)(g:QV)(k:Nat):Prop:=∃id o,id∈g∧h id=some o∧o.live=true∧φ id k
theorem gZ{f:Nat→Nat}{o:Obj}:(oL f o).live=o.live:=by
 cases o with
 | mat e j A q hole=>cases hole <;> rfl
 | nds e j u hole=>cases hole <;> rfl
 | _=>rfl
theorem Hs{k:Nat}(hk:tH φ h g k):own φ h k:=by
 obtain⟨id,o,_,e,f,j⟩:=hk;exact⟨id,o,e,f,j⟩
def fH(m:Mem Bw w0 ρ φ h w)(g:QV):cE P :=
 ⟨w,fun k=>k<w.heap.size∧¬tH φ h g k,fun _ hk=>hk.1,fun i=>if i<g.length then ρ (g.getD i 0)else none,m.kp.laid,
  fun k hk=>⟨Nat.lt_of_lt_of_le (w0.lt k (w0.lk k hk)) m.kp.size,fun e=>m.ow k (Hs e) (w0.lk k hk)⟩⟩
theorem Dc(m:Mem Bw w0 ρ φ h w){x y:ag}(hd:zv g (less g h) x=some y){v:Value}(j:V (Fr (own φ h) Bw w) ρ x v)
  {F':Bool→Addr→Value→Prop} (L:nD φ h Bw w (less g h) F'):V F' (fH m g).pk y v:=by
 unfold zv at hd;split at hd
 ·rename_i q;cases hd;simp only[Bool.and_eq_true,List.all_eq_true,List.contains_eq_mem,decide_eq_true_eq]at q;refine LU (ρ:=ρ) (fun i f=>?_) (V.mono L.hA (fun _ _ h=>h) j);have:=q.1 i f;simp only[fH];rw[if_pos (Io this),BK this]
 ·exact V.mono (fun _ _ _ h=>h) (fun _ _ e=>by cases e) (xx m L hd j)
theorem mF(m:Mem Bw w0 ρ φ h w){F':Bool→Addr→Value→Prop}(L:nD φ h Bw w (less g h) F'):
  ∀ {xs ys:List ag},tY g (less g h) xs=some ys→∀ {e:QY},jf (Fr (own φ h) Bw w) ρ xs e→jf F' (fH m g).pk ys e
 | [],ys,hd,e,j=>by
  cases hd;cases e with
  | nil=>trivial
  | cons _ _=>exact j.elim
 | x::xs,ys,hd,e,j=>by
  simp only[tY]at hd;split at hd
  ·rename_i y q u z;cases hd;cases e with
   | nil=>exact j.elim
   | cons v e=>exact⟨Dc m u j.1 L,mF m L z j.2⟩
  ·cases hd
theorem rG(m:Mem Bw w0 ρ φ h w)(hn:g.Nodup){hin:Qw}(hi:j8 g h 0 g=some hin):
  Mem (qK φ (less g h) Bw) (fH m g) (fH m g).pk (fun i=>φ (g.getD i 0)) (fun i=>look hin i) w ∧
  nD φ h Bw w (less g h) (Fr (own (fun i=>φ (g.getD i 0)) (fun i=>look hin i)) (qK φ (less g h) Bw) w):=by
 have z:∀i o,look hin i=some o→i<g.length∧∃D,h (g.getD i 0)=some D∧o=oL (JM g) D∧∀k∈ph D,k∈g:=fun i o e=>by obtain⟨id,D,_,A,C,J,Z⟩:=wE hi e;simp only[Nat.sub_zero]at A;have B:=(List.getElem?_eq_some_iff.1 A).1;refine⟨B,D,?_,J,Z⟩;rw[List.getD_eq_getElem?_getD,A];exact C
 have N:∀i,i<g.length→g.getD i 0∈g:=fun i B=>by simp_all
 have L:∀k,own (fun i=>φ (g.getD i 0)) (fun i=>look hin i) k→tH φ h g k:=fun k ⟨i,o,E,A,C⟩=>by obtain⟨B,D,I,X,_⟩:=z i o E;subst X;rw[gZ]at A;exact⟨_,D,N i B,I,A,C⟩
 have O:∀k,tH φ h g k→own φ h k:=fun k ⟨id,o,_,A,C,J⟩=>⟨id,o,A,C,J⟩
 have M:∀k,own φ (less g h) k→own φ h k∧¬tH φ h g k:=fun k ⟨id,o,E,A,C⟩=>by obtain⟨I,X⟩:=tT E;refine⟨⟨id,o,I,A,C⟩,fun⟨a1,D,s1,s2,s3,s4⟩=>?_⟩;have:=m.dj id a1 o D k I A s2 s3 C s4;subst this;exact X s1
 have hF:∀β a v,Fr (own φ h) Bw w β a v→Fr (own (fun i=>φ (g.getD i 0)) (fun i=>look hin i)) (qK φ (less g h) Bw) w β a v:=fun β a v Y =>
  ⟨fun e=>Y.1 (O _ (L _ e)),fun e hk=>hk.elim (fun q=>Y.1 (M _ q).1) (Y.2.1 e),Y.2.2⟩
 refine⟨⟨fun i o e=>?_,fun i o k E A C=>?_,fun i j o D k E A C J Z q6=>?_,fun k hk=>?_,fun k hk a2=>a2.2 (L k hk),Kept.refl _,fun _ _ e=>e⟩,⟨fun i o e=>(tT e).1,hF,fun id o a v E A C J=>?_⟩⟩
 ·obtain⟨B,D,I,rfl,r3⟩:=z i o e;obtain⟨u,s1,s2⟩:=m.ob _ _ I;refine⟨u,by simp only[fH];rw[if_pos B];exact s1,?_⟩;refine K5 (ρ:=ρ) (fun j hj=>?_) (OR.mono hF (fun _ _ h=>h) (fun _ h=>h) (fun _ _ _=>rfl) s2);have:=r3 j hj;simp only[fH];rw[if_pos (Io this),BK this]
 ·obtain⟨B,D,I,rfl,r3⟩:=z i o E;rw[gZ]at A;exact m.lt _ _ k I A C
 ·obtain⟨B,o1,I,rfl,_⟩:=z i o E;obtain⟨V,o2,a3,rfl,_⟩:=z j D C;rw[gZ]at A J;have:=m.dj _ _ _ _ k I A a3 J Z q6;rw[←sV hn B,←sV hn V,this]
 ·rcases hk with hk | hk
  ·obtain⟨E,A⟩:=M k hk;exact⟨m.rO E,A⟩
  ·have:=m.bw k hk;exact⟨Nat.lt_of_lt_of_le (w0.lt k this) m.kp.size,fun e=>m.ow k (O k e) this⟩
 ·obtain⟨I,X⟩:=tT E;refine⟨fun e=>?_,fun e=>(by cases e),World.fM J⟩;exact(M _ ⟨id,o,E,A,C⟩).2 (L _ e)
theorem rL(m:Mem Bw w0 ρ φ h w)(hn:g.Nodup)(a9:∀j,j<8→ρ (new+j)=none)(hg:∀i∈g,∃o,h i=some o){hout:Qw}{r:ag}(ad:uR g hout r=true)
  {a2:Nat→QW} {M:Nat→Nat→Prop} {w':World} (m':Mem (qK φ (less g h) Bw) (fH m g) a2 M (fun i=>look hout i) w') {v:Value}
  (hv:V (Fr (own M (fun i=>look hout i)) (qK φ (less g h) Bw) w') a2 r v) :
  aG Bw w0 ρ φ h w new (mM (sa g new) r) (vL g new hout) v w':=by
 simp only[uR,Bool.and_eq_true,List.all_eq_true,decide_eq_true_eq]at ad;obtain⟨⟨⟨⟨_,k1⟩,k2⟩,k3⟩,k4⟩:=ad;have b2:=lb k1;have a8:∀i∈g,∃u,ρ i=some u:=fun i hi=>by obtain⟨o,ho⟩:=hg i hi;obtain⟨u,q,_⟩:=m.ob i o ho;exact⟨u,q⟩
 have b3:∀i∈g,¬(new≤i∧i<new+8):=fun i hi ⟨e1,e2⟩=>by obtain⟨u,q⟩:=a8 i hi;have:=a9 (i - new) (by omega);rw[show new+(i - new)=i by omega,q]at this;cases this
 have ax:∀i,i<g.length→g.getD i 0∈g:=fun i aa=>by simp_all
 let a3:Nat→QW:=fun i=>if new≤i∧i<new+8 then a2 (g.length+(i - new))else ρ i
 let N:Nat→Nat→Prop:=fun i=>if new≤i∧i<new+8 then M (g.length+(i - new))else if i∈g then M (JM g i)else φ i
 have a6:∀i u,ρ i=some u→a3 i=some u:=fun i u hi=>by
  simp only[a3];split
  ·rename_i hc;have:=a9 (i - new) (by omega);rw[show new+(i - new)=i by omega,hi]at this;cases this
  ·exact hi
 have a4:∀i,i<g.length+8→a3 (sa g new i)=a2 i:=fun i hi=>by
  unfold sa;split
  ·rename_i aa;have h1:=ax i aa;simp only[a3];rw[if_neg (b3 _ h1)];obtain⟨u,q⟩:=a8 _ h1;have:=m'.pk i u (by simp only[fH];rw[if_pos aa];exact q);rw[q,this]
  ·grind
 have C:∀i,i<g.length+8→N (sa g new i)=M i:=fun i hi=>by
  unfold sa;split
  ·grind (splits:=6) (ematch:=4) [sV]
  ·simp only[N];rw[if_pos (by omega)];congr 1;omega
 have b4:∀i j,i<g.length+8→j<g.length+8→sa g new i=sa g new j→i=j:=fun i j hi hj e=>by
  grind (splits:=6) (ematch:=4) [sa,sV]
 have D:∀id o,apply (vL g new hout) h id=some o→(id ∉ g∧h id=some o∧¬(new≤id∧id<new+8)) ∨
   ∃i A,look hout i=some A∧i<g.length+8∧(∀j∈ph A,j<g.length+8)∧Aj A=true∧id=sa g new i∧o=oL (sa g new) A:=fun id o e=>by
  rcases xr e with hm | ⟨L,z⟩
  ·right
   simp only[vL,List.mem_append,List.mem_map]at hm;rcases hm with⟨i,_,e⟩ | ⟨⟨i,A⟩,hm,e⟩
   ·simp at e
   ·simp only[Prod.mk.injEq,Option.some.injEq]at e;have:=k4 _ hm;exact⟨i,A,vI b2 hm,this.1.2,this.2,this.1.1,e.1.symm,e.2.symm⟩
  ·left
   refine⟨fun hi=>z (id,none) (by simp[vL,hi]) rfl,L,fun hc=>?_⟩;obtain⟨u,E,_⟩:=m.ob id o L;have:=a9 (id - new) (by omega);rw[show new+(id - new)=id by omega,E]at this;cases this
 have O:∀id,id ∉ g→¬(new≤id∧id<new+8)→N id=φ id:=fun id h1 h2=>by simp only[N];rw[if_neg h2,if_neg h1]
 have a7:∀k,tH φ h g k→own φ h k:=fun k ⟨id,o,_,z,B,X⟩=>⟨id,o,z,B,X⟩
 have I:∀i A k,look hout i=some A→A.live=true→M i k→w.heap.size≤k∨tH φ h g k:=fun i A k L z B=>by
  have:=m'.ow k ⟨i,A,L,z,B⟩;by_cases hk:k<w.heap.size
  ·exact .inr (Classical.byContradiction fun hh=>this ⟨hk,hh⟩)
  ·exact .inl (by omega)
 have Z:∀id o k,id ∉ g→h id=some o→o.live=true→φ id k→k<w.heap.size∧¬tH φ h g k:=fun id o k L z B X=>by refine⟨m.lt id o k z B X,fun⟨a1,A,s1,s2,s3,s4⟩=>?_⟩;have:=m.dj id a1 o A k z B s2 s3 X s4;subst this;exact L s1
 have J:∀k,k<w.heap.size→¬tH φ h g k→w'.heap[k]? = w.heap[k]? :=fun k h1 h2=>m'.kp.block k ⟨h1,h2⟩
 have a5:∀k,own N (apply (vL g new hout) h) k→(∃id o,id ∉ g∧h id=some o∧o.live=true∧φ id k)∨own M (fun i=>look hout i) k:=fun k ⟨id,o,L,z,B⟩=>by
  rcases D id o L with⟨E,Y,r3⟩ | ⟨i,A,E,Y,r3,r4,rfl,rfl⟩
  ·grind
  ·rw[C i Y]at B;rw[gZ]at z;exact .inr ⟨i,A,E,z,B⟩
 have hF:∀β a v,Fr (own φ h) Bw w β a v→Fr (own N (apply (vL g new hout) h)) Bw w' β a v:=fun β a v=>Fr.LP (fun k h1 h2=>J k h1 fun e=>h2 (a7 k e)) (fun k hk=>by
  rcases a5 k hk with⟨id,o,_,z,B,X⟩ | ⟨i,A,L,z,B⟩
  ·exact .inl ⟨id,o,z,B,X⟩
  ·exact(I i A k L z B).elim .inr (fun e=> .inl (a7 k e))) β a v
 have b1:∀a v,Fr (own M (fun i=>look hout i)) (qK φ (less g h) Bw) w' false a v→∀β,Fr (own N (apply (vL g new hout) h)) Bw w' β a v:=fun a v hh β=>by
  refine⟨fun e=>?_,fun _ hb=>hh.2.1 rfl (.inr hb),hh.2.2⟩;rcases a5 _ e with⟨id,o,L,z,B,X⟩ | q
  ·exact hh.2.1 rfl (.inl ⟨id,o,by unfold less;rw[if_neg (by simpa using L)];exact z,B,X⟩)
  ·exact hh.1 q
 have b5:(fH m g).w=w:=rfl;refine⟨a3,N,⟨fun id o e=>?_,fun id o k L z B=>?_,fun id a1 o A k L z B X q5 q6=>?_,m.bw,fun k hk ac=>?_,?_,fun i u hi=>a6 i u (m.pk i u hi)⟩,hF,a6,fun i u hi=>?_,?_⟩
 ·rcases D id o e with⟨E,Y,r3⟩ | ⟨i,A,E,Y,r3,r4,rfl,rfl⟩
  ·obtain⟨u,s1,s2⟩:=m.ob id o Y;refine⟨u,a6 id u s1,?_⟩;rw[O id E r3];exact OR.mono hF a6 (fun _ h=>h) (fun hl k hk=>by
    obtain⟨t1,t2⟩:=Z id o k E Y hl hk;exact J k t1 t2) s2
  ·obtain⟨u,s1,s2⟩:=m'.ob i A E;refine⟨u,by rw[a4 i Y];exact s1,?_⟩;rw[C i Y];refine K5 (ρ:=a2) (fun j hj=>a4 j (r3 j hj)) ?_;exact OR.mono (fun β a v hh=>b1 a v hh β) (fun _ _ h=>h) (fun _ h=>h) (fun _ _ _=>rfl) (I3 r4 s2)
 ·rcases D id o L with⟨E,Y,r3⟩ | ⟨i,A,E,Y,r3,r4,rfl,rfl⟩
  ·grind
  ·rw[C i Y]at B;rw[gZ]at z;exact m'.lt i A k E z B
 ·rcases D id o L with⟨E,Y,r3⟩ | ⟨i,o1,E,Y,r3,r4,rfl,rfl⟩ <;> rcases D a1 A B with⟨s1,s2,s3⟩ | ⟨j,o2,s1,s2,s3,s4,rfl,rfl⟩
  ·rw[O id E r3]at q5;rw[O a1 s1 s3]at q6;exact m.dj id a1 o A k Y z s2 X q5 q6
  ·rw[O id E r3]at q5;rw[C j s2]at q6;rw[gZ]at X;obtain⟨t1,t2⟩:=Z id o k E Y z q5;rcases I j o2 k s1 X q6 with t3 | t3
   ·omega
   ·exact absurd t3 t2
  ·rw[C i Y]at q5;rw[O a1 s1 s3]at q6;rw[gZ]at z;obtain⟨t1,t2⟩:=Z a1 A k s1 s2 X q6;rcases I i o1 k E z q5 with t3 | t3
   ·omega
   ·exact absurd t3 t2
  ·rw[C i Y]at q5;rw[C j s2]at q6;rw[gZ]at z X;rw[m'.dj i j o1 o2 k E z s1 X q5 q6]
 ·rcases a5 k hk with⟨id,o,_,z,B,X⟩ | ⟨i,A,L,z,B⟩
  ·exact m.ow k ⟨id,o,z,B,X⟩ ac
  ·rcases I i A k L z B with t | t
   ·have:=w0.lt k ac;have:=m.kp.size;omega
   ·exact m.ow k (a7 k t) ac
 ·refine⟨m'.kp.os.trans m.kp.os,m'.kp.tape.trans m.kp.tape,m'.kp.output.trans m.kp.output,Nat.le_trans m.kp.size m'.kp.size,fun k hk=>?_⟩;rw[J k (Nat.lt_of_lt_of_le (w0.lt k hk) m.kp.size) (fun e=>m.ow k (a7 k e) hk)];exact m.kp.block k hk
 ·grind
 ·exact LU (ρ:=a2) (fun i hi=>a4 i (k3 i hi)) (V.mono (fun β a v hh=>b1 a v hh β) (fun _ _ h=>h) (wk k2 hv))
theorem qp:∀ {l:QV} {i:Nat} {hin:Qw},j8 g h i l=some hin→∀id∈l,∃o,h id=some o
 | [],_,_,_,id,j=>by cases j
 | x::r,i,hin,e,id,j=>by
  simp only[j8]at e;split at e
  ·rename_i q u;split at e
   ·split at e
    ·rename_i z hl;rcases List.mem_cons.1 j with rfl | j
     ·exact⟨q,u⟩
     ·exact qp hl id j
    ·cases e
   ·cases e
  ·cases e
theorem HX(m:Mem Bw w0 ρ φ h w)(Z:∀j,j<8→ρ (new+j)=none){o:Oper}{a:Act}{fo:Operand}{z:Array Operand}{a1:Array TypeId}(ho:o.op = .call { callee:= .value fo,args:=z,argTypes:=a1 })
  {f:FuncId} {B:List ag} (hf:V (Fr (own φ h) Bw w) ρ (.fn f B) (a.eval fo)) {xs:List ag} (hx:jf (Fr (own φ h) Bw w) ρ xs (z.toList.map a.eval)) {args:List ag} (hl:tY g (less g h) (xs++B)=some args)
  {hin:Qw} (hi:j8 g h 0 g=some hin) {r:ag} {hout:Qw} (a2:uR g hout r=true)
  (hp:gN P f args hin r hout):Good P o a w (aG Bw w0 ρ φ h w new (mM (sa g new) r) (vL g new hout)):=by
 simp only[V]at hf;obtain⟨Y,a3,a4,E⟩:=hf;obtain⟨fn,a5,I,C⟩:=hp.fn;have J:∀(O:List ag) (q:QY),q.length=O.length→VL (Fr (own φ h) Bw w) ρ O (fun k u=>q[k]? = some u)→jf (Fr (own φ h) Bw w) ρ O q:=fun O=>by
  induction O with
  | nil=>intro q hl _;cases q with | nil=>trivial | cons _ _=>simp at hl
  | cons c O ih =>
   intro q hl D;cases q with
   | nil=>simp at hl
   | cons u q =>simp only[VL]at D;obtain⟨⟨u',q1,q2⟩,q3⟩:=D;simp at q1;subst q1;exact⟨q2,ih q (by simpa using hl) (VL.mono (fun _ _ _ h=>h) (fun _ _ h=>h) (fun k u hk=>by simpa using hk) q3)⟩
 have X:∀(xs:List ag) (q:QY),jf (Fr (own φ h) Bw w) ρ xs q→jf (Fr (own φ h) Bw w) ρ (xs++B) (q++Y.toList):=fun xs=>by
  induction xs with
  | nil =>
   intro q D;cases q with
   | nil=>exact J B Y.toList (by simpa using a4) (VL.mono (fun _ _ _ h=>h) (fun _ _ h=>h) (fun k u hk=>by simpa using hk) E)
   | cons _ _=>exact D.elim
  | cons x xs ih =>
   intro q D;cases q with
   | nil=>exact D.elim
   | cons u q=>exact⟨D.1,ih q D.2⟩
 have hn:g.Nodup:=by simp_all [uR,Bool.and_eq_true,lb]
 obtain⟨mc,L⟩:=rG m hn hi;have M:=mF m L hl (X xs _ hx);have N:=hp.calls (qK φ (less g h) Bw) (fH m g) (fun i=>φ (g.getD i 0)) (z.map a.eval++Y) mc (by rw[Array.toList_append,Array.toList_map];exact M) (fun i u e=>by
  rw[lg hi];simp only[fH]at e;split at e
  ·assumption
  ·cases e)
 refine Good.th (f:=f) (args:=z.map a.eval++Y) (w':=w) ?_ (N.mono fun e w' ⟨v,a7,a8,he,a6,D⟩=>⟨v,he,?_⟩)
 ·have n1:¬fn.name = "runtime.NumGoroutine" :=by simpa using I
  have n2:¬fn.body=none:=fun e=>by rw[e]at C;cases C
  simp[execOp,ho,resolve,a3,Deferred.ofValue,invoke,callFunc,a5,n1,n2]
 ·exact rL m hn Z (qp hi) a2 a6 D
theorem JZ(m:Mem Bw w0 ρ φ h w)(Z:∀j,j<8→ρ (new+j)=none){o:Oper}{a:Act}{fo:Operand}{z:Array Operand}{a1:Array TypeId}(ho:o.op = .call { callee:= .value fo,args:=z,argTypes:=a1 })
  {f:FuncId} {A:List ag} (hf:V (Fr (own φ h) Bw w) ρ (.fn f A) (a.eval fo)) {C:List ag} (hx:jf (Fr (own φ h) Bw w) ρ C (z.toList.map a.eval)) {args:List ag} (hl:tY g (less g h) (C++A)=some args)
  {hin:Qw} (hi:j8 g h 0 g=some hin) (a2:uR g [] .unk=true) {x:Value}
  (hp:kg P f args hin x):MA P o a w x (fun w'=>∃v,aG Bw w0 ρ φ h w new .unk (vL g new []) v w'):=by
 simp only[V]at hf;obtain⟨Y,a3,a4,E⟩:=hf;obtain⟨fn,a5,I,B⟩:=hp.fn;have J:∀(O:List ag) (q:QY),q.length=O.length→VL (Fr (own φ h) Bw w) ρ O (fun k u=>q[k]? = some u)→jf (Fr (own φ h) Bw w) ρ O q:=fun O=>by
  induction O with
  | nil=>intro q hl _;cases q with | nil=>trivial | cons _ _=>simp at hl
  | cons c O ih =>
   intro q hl D;cases q with
   | nil=>simp at hl
   | cons u q =>simp only[VL]at D;obtain⟨⟨u',q1,q2⟩,q3⟩:=D;simp at q1;subst q1;exact⟨q2,ih q (by simpa using hl) (VL.mono (fun _ _ _ h=>h) (fun _ _ h=>h) (fun k u hk=>by simpa using hk) q3)⟩
 have X:∀(C:List ag) (q:QY),jf (Fr (own φ h) Bw w) ρ C q→jf (Fr (own φ h) Bw w) ρ (C++A) (q++Y.toList):=fun C=>by
  induction C with
  | nil =>
   intro q D;cases q with
   | nil=>exact J A Y.toList (by simpa using a4) (VL.mono (fun _ _ _ h=>h) (fun _ _ h=>h) (fun k u hk=>by simpa using hk) E)
   | cons _ _=>exact D.elim
  | cons x C ih =>
   intro q D;cases q with
   | nil=>exact D.elim
   | cons u q=>exact⟨D.1,ih q D.2⟩
 have hn:g.Nodup:=by simp_all [uR,Bool.and_eq_true,lb]
 obtain⟨mc,L⟩:=rG m hn hi;have M:=mF m L hl (X C _ hx);have N:=hp.calls (qK φ (less g h) Bw) (fH m g) (fun i=>φ (g.getD i 0)) (z.map a.eval++Y) mc (by rw[Array.toList_append,Array.toList_map];exact M) (fun i u e=>by
  rw[lg hi];simp only[fH]at e;split at e
  ·assumption
  ·cases e)
 refine MA.th (f:=f) (args:=z.map a.eval++Y) (w':=w) ?_ (N.mono fun e w' ⟨a7,a8,he,a6⟩=>⟨he,undef,?_⟩)
 ·have n1:¬fn.name = "runtime.NumGoroutine" :=by simpa using I
  have n2:¬fn.body=none:=fun e=>by rw[e]at B;cases B
  simp[execOp,ho,resolve,a3,Deferred.ofValue,invoke,callFunc,a5,n1,n2]
 ·exact rL m hn Z (qp hi) (r:= .unk) a2 a6 trivial
end
end Go.Tv
