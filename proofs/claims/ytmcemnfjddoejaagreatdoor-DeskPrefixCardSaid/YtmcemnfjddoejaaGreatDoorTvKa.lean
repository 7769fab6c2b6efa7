/- Objects' numbers; calls that are handed objects of the caller's own. -/
import Derived.Test.YtmcemnfjddoejaaGreatDoorTvK
namespace Go.Tv
open Go Go.RowKit
def look{α:Type}:List (Nat×α)→Nat→Option α
 | [],_=>none
 | (k,x)::r,i=>if k=i then some x else look r i
theorem mA{α:Type}:∀ {l:List (Nat×α)} {t:Nat} {x:α},look l t=some x→(t,x)∈l
 | [],_,_,h=>by cases h
 | (k,y)::r,t,x,h=>by
  simp only[look]at h;split at h
  ·rename_i e;cases h;subst e;simp
  ·exact List.mem_cons_of_mem _ (mA h)
mutual
def ids:ag→List Nat
 | .sl i=>[i]
 | .mp i=>[i]
 | .adr i _ _ _=>[i]
 | .ada i _ _ _=>[i]
 | .fad _ cs _=>bm cs
 | .agg cs=>bm cs
 | .tup cs=>bm cs
 | .fn _ cs=>bm cs
 | .p _ _ _=>[]
 | .nils=>[]
 | .nilp=>[]
 | .lit _=>[]
 | .lag _ _ _ cs=>bm cs
 | .loc _ _ _=>[]
 | .suf i _ _=>[i]
 | .bfn _ cs=>bm cs
 | .unk=>[]
def bm:List ag→List Nat
 | []=>[]
 | x::xs=>ids x++bm xs
end
theorem cm{i:Nat}:∀ {xs:List ag},i∈bm xs↔∃x∈xs,i∈ids x
 | []=>by simp[bm]
 | x::xs=>by simp[bm,cm (xs:=xs)]
def qa:Obj→List Nat
 | .box c=>bm c
 | .lmp _ _ _ c=>bm c
 | .vrow _ _ c=>bm c
 | .mat _ _ _ _ (some (_,id))=>[id]
 | _=>[]
mutual
def lP(f:Nat→Nat):ag→ag
 | .sl i=> .sl (f i)
 | .mp i=> .mp (f i)
 | .adr i k sz off=> .adr (f i) k sz off
 | .ada i b n k=> .ada (f i) b n k
 | .fad β c off=> .fad β (oX f c) off
 | .agg c=> .agg (oX f c)
 | .tup c=> .tup (oX f c)
 | .fn g c=> .fn g (oX f c)
 | .p β T x=> .p β T x
 | .nils=> .nils
 | .nilp=> .nilp
 | .lit v=> .lit v
 | .lag k n e c=> .lag k n e (oX f c)
 | .loc β T x=> .loc β T x
 | .suf i j sz=> .suf (f i) j sz
 | .bfn g c=> .bfn g (oX f c)
 | .unk=> .unk
def oX(f:Nat→Nat):List ag→List ag
 | []=>[]
 | x::e=>lP f x::oX f e
end
theorem bA(f:Nat→Nat):∀c:List ag,(oX f c).length=c.length
 | []=>rfl
 | x::c=>by simp[oX,bA f c]
def m7(f:Nat→Nat):Obj→Obj
 | .box c=> .box (oX f c)
 | .lmp k n m c=> .lmp k n m (oX f c)
 | .vrow n sz c=> .vrow n sz (oX f c)
 | .mat e p A j (some (k,id))=> .mat e p A j (some (k,f id))
 | o=>o
mutual
theorem Jg{F:Bool→Addr→Value→Prop}{ρ ρ':Nat→Option Value}{f:Nat→Nat}:∀ {x:ag} {v:Value},(∀i∈ids x,ρ' i=ρ (f i))→V F ρ (lP f x) v→V F ρ' x v
 | .p _ _ _,_,_,c=>by simpa only [lP,V]using c
 | .nils,_,_,c=>by simpa only [lP,V]using c
 | .nilp,_,_,c=>by simpa only [lP,V]using c
 | .lit _,_,_,c=>by simpa only [lP,V]using c
 | .unk,_,_,_=>by simp only[V]
 | .sl i,_,h,c=>by
  simp only[lP,V]at c ⊢;rw[h i (by simp[ids])];exact c
 | .mp i,_,h,c=>by
  simp only[lP,V]at c ⊢;rw[h i (by simp[ids])];exact c
 | .ada i _ _ _,_,h,c=>by
  simp only[lP,V]at c ⊢;rw[h i (by simp[ids])];exact c
 | .adr i _ _ _,_,h,c=>by
  simp only[lP,V]at c ⊢;rw[h i (by simp[ids])];exact c
 | .fad _ m _,_,h,c=>by
  simp only[lP,V]at c ⊢;obtain⟨z,e,hl⟩:=c;exact⟨z,e,mr (fun i hi=>h i (by simpa only [ids]using hi)) hl⟩
 | .agg m,_,h,c=>by
  simp only[lP,V,bA]at c ⊢;obtain⟨j,e,k,hl⟩:=c;exact⟨j,e,k,mr (fun i hi=>h i (by simpa only [ids]using hi)) hl⟩
 | .tup m,_,h,c=>by
  simp only[lP,V,bA]at c ⊢;obtain⟨j,e,k,hl⟩:=c;exact⟨j,e,k,mr (fun i hi=>h i (by simpa only [ids]using hi)) hl⟩
 | .fn _ m,_,h,c=>by
  simp only[lP,V,bA]at c ⊢;obtain⟨j,e,k,hl⟩:=c;exact⟨j,e,k,mr (fun i hi=>h i (by simpa only [ids]using hi)) hl⟩
 | .lag _ _ _ m,_,h,c=>by
  simp only[lP,V,bA]at c ⊢;obtain⟨j,e,k,hl⟩:=c;exact⟨j,e,k,mr (fun i hi=>h i (by simpa only [ids]using hi)) hl⟩
 | .loc _ _ _,_,_,c=>by simpa only [lP,V]using c
 | .suf i _ _,_,h,c=>by
  simp only[lP,V]at c ⊢;rw[h i (by simp[ids])];exact c
 | .bfn _ m,_,h,c=>by simp only[lP,V,bA]at c ⊢;obtain⟨j,e,k,hl⟩:=c;exact⟨j,e,k,mr (fun i hi=>h i (by simpa only [ids]using hi)) hl⟩
theorem mr{F:Bool→Addr→Value→Prop}{ρ ρ':Nat→Option Value}{f:Nat→Nat}:∀ {q:List ag} {g:Nat→Value→Prop},(∀i∈bm q,ρ' i=ρ (f i))→VL F ρ (oX f q) g→VL F ρ' q g
 | [],_,_,_=>by simp only[VL]
 | x::q,_,h,c=>by simp only[oX,VL]at c ⊢;obtain⟨⟨u,A,B⟩,C⟩:=c;exact⟨⟨u,A,Jg (fun i hi=>h i (by simp[bm,hi])) B⟩,mr (fun i hi=>h i (by simp[bm,hi])) C⟩
end
def xf(h:Nat→Option Obj)(xs:List ag):List Nat :=
 bm xs++(bm xs).flatMap fun i=>match h i with
  | some (.box c)=>bm c
  | _=>[]
/-! ### e other j round -/
mutual
theorem JC{F:Bool→Addr→Value→Prop}{ρ j:Nat→Option Value}{f:Nat→Nat}:∀ {x:ag} {v:Value},(∀i∈ids x,j (f i)=ρ i)→V F ρ x v→V F j (lP f x) v
 | .p _ _ _,_,_,c=>by simpa only [lP,V]using c
 | .nils,_,_,c=>by simpa only [lP,V]using c
 | .nilp,_,_,c=>by simpa only [lP,V]using c
 | .lit _,_,_,c=>by simpa only [lP,V]using c
 | .unk,_,_,_=>by simp only[lP,V]
 | .sl i,_,h,c=>by
  simp only[lP,V]at c ⊢;rw[h i (by simp[ids])];exact c
 | .mp i,_,h,c=>by
  simp only[lP,V]at c ⊢;rw[h i (by simp[ids])];exact c
 | .ada i _ _ _,_,h,c=>by
  simp only[lP,V]at c ⊢;rw[h i (by simp[ids])];exact c
 | .adr i _ _ _,_,h,c=>by
  simp only[lP,V]at c ⊢;rw[h i (by simp[ids])];exact c
 | .fad _ q _,_,h,c=>by
  simp only[lP,V]at c ⊢;obtain⟨A,e,hl⟩:=c;exact⟨A,e,qy (fun i hi=>h i (by simpa only [ids]using hi)) hl⟩
 | .agg q,_,h,c=>by
  simp only[lP,V,bA]at c ⊢;obtain⟨k,e,m,hl⟩:=c;exact⟨k,e,m,qy (fun i hi=>h i (by simpa only [ids]using hi)) hl⟩
 | .tup q,_,h,c=>by
  simp only[lP,V,bA]at c ⊢;obtain⟨k,e,m,hl⟩:=c;exact⟨k,e,m,qy (fun i hi=>h i (by simpa only [ids]using hi)) hl⟩
 | .fn _ q,_,h,c=>by
  simp only[lP,V,bA]at c ⊢;obtain⟨k,e,m,hl⟩:=c;exact⟨k,e,m,qy (fun i hi=>h i (by simpa only [ids]using hi)) hl⟩
 | .lag _ _ _ q,_,h,c=>by
  simp only[lP,V,bA]at c ⊢;obtain⟨k,e,m,hl⟩:=c;exact⟨k,e,m,qy (fun i hi=>h i (by simpa only [ids]using hi)) hl⟩
 | .loc _ _ _,_,_,c=>by simpa only [lP,V]using c
 | .suf i _ _,_,h,c=>by
  simp only[lP,V]at c ⊢;rw[h i (by simp[ids])];exact c
 | .bfn _ q,_,h,c=>by simp only[lP,V,bA]at c ⊢;obtain⟨k,e,m,hl⟩:=c;exact⟨k,e,m,qy (fun i hi=>h i (by simpa only [ids]using hi)) hl⟩
theorem qy{F:Bool→Addr→Value→Prop}{ρ j:Nat→Option Value}{f:Nat→Nat}:∀ {z:List ag} {g:Nat→Value→Prop},(∀i∈bm z,j (f i)=ρ i)→VL F ρ z g→VL F j (oX f z) g
 | [],_,_,_=>by simp only[oX,VL]
 | x::z,_,h,c=>by simp only[oX,VL]at c ⊢;obtain⟨⟨u,B,C⟩,D⟩:=c;exact⟨⟨u,B,JC (fun i hi=>h i (by simp[bm,hi])) C⟩,qy (fun i hi=>h i (by simp[bm,hi])) D⟩
end
theorem EX{F:Bool→Addr→Value→Prop}{ρ m:Nat→Option Value}{S:Nat→Prop}{w:World}{f:Nat→Nat}{e C:TypeId}{A:Ty}{x:List (List A.den)}{hole:Option (Nat×Nat)}{u:Value}
  (h:∀k id,hole=some (k,id)→m (f id)=ρ id) (N:OR F ρ S w (.mat e C A x hole) u):OR F m S w (m7 f (.mat e C A x hole)) u:=by
 obtain⟨D,E,I,cells,J,L,M⟩:=N;cases hole with
 | none=>exact⟨D,E,I,cells,J,fun i hi=>(L i hi).imp fun v q=>⟨q.1,q.2.1,q.2.2.1,fun id e=>by cases e⟩,M⟩
 | some p =>
  obtain⟨k,id⟩:=p;have c:∀i,Br (some (k,f id)) i→Br (some (k,id)) i:=fun i O R z e=>by cases e;exact O k (f id) rfl
  refine⟨D,E,fun R z e=>(by cases e;exact I k id rfl),cells,J,fun i hi=> ?_,fun i j V X b B Y Z=>M i j V X b B (c i Y) (c j Z)⟩;obtain⟨v,q1,q2,q3,q4⟩:=L i hi;exact⟨v,q1,q2,fun s=>q3 (c i s),fun z e=>by cases e;rw[h k id rfl];exact q4 id rfl⟩
theorem CW{F:Bool→Addr→Value→Prop}{ρ ρ':Nat→Option Value}{S:Nat→Prop}{w:World}{f:Nat→Nat}{e L:TypeId}{A:Ty}{m:List (List A.den)}{hole:Option (Nat×Nat)}{u:Value}
  (h:∀k id,hole=some (k,id)→ρ' id=ρ (f id)) (M:OR F ρ S w (m7 f (.mat e L A m hole)) u):OR F ρ' S w (.mat e L A m hole) u:=by
 cases hole with
 | none =>
  obtain⟨z,B,C,cells,D,E,I⟩:=M;exact⟨z,B,C,cells,D,fun i hi=>(E i hi).imp fun v q=>⟨q.1,q.2.1,q.2.2.1,fun id e=>by cases e⟩,I⟩
 | some p =>
  obtain⟨k,id⟩:=p;obtain⟨z,B,C,cells,D,E,I⟩:=M;have c:∀i,Br (some (k,id)) i→Br (some (k,f id)) i:=fun i N O x e=>by cases e;exact N k id rfl
  refine⟨z,B,fun O x e=>(by cases e;exact C k (f id) rfl),cells,D,fun i hi=> ?_,fun i j R V b J X Y=>I i j R V b J (c i X) (c j Y)⟩;obtain⟨v,Z,q2,q3,q4⟩:=E i hi;exact⟨v,Z,q2,fun s=>q3 (c i s),fun x e=>by cases e;rw[h k id rfl];exact q4 (f id) rfl⟩
theorem Jf{F:Bool→Addr→Value→Prop}{ρ j:Nat→Option Value}{S:Nat→Prop}{w:World}{f:Nat→Nat}{o:Obj}{u:Value}(h:∀i∈qa o,j (f i)=ρ i)(c:OR F ρ S w o u):OR F j S w (m7 f o) u:=by
 cases o with
 | arr e A x=>exact c
 | fz A x =>
  simp only[m7,OR]at c ⊢;exact qZ rfl c
 | box B =>
  obtain⟨g,t,cells,e,m,p,q,v⟩:=c;exact⟨g,t,cells,e,m,p,by rw[q,bA],qy (fun i hi=>h i (by simpa only [qa]using hi)) v⟩
 | mpo K A D=>exact c
 | mpl K D=>exact c
 | mat e I A E hole=>exact EX (fun k id e=>h id (by subst e;simp[qa])) c
 | bytes e x=>exact c
 | cutz A x =>
  simp only[m7,OR]at c ⊢;exact⟨c.1,qZ rfl c.2⟩
 | lmp k n x B =>
  obtain⟨g,t,cells,e,m,p,q,v,z⟩:=c;exact⟨g,t,cells,e,m,p,by rw[q,bA],v,qy (fun i hi=>h i (by simpa only [qa]using hi)) z⟩
 | vrow n sz B =>obtain⟨g,t,cells,e,m,p,q,v,z⟩:=c;exact⟨g,t,cells,e,m,p,by rw[q,bA],by rw[bA];exact v,qy (fun i hi=>h i (by simpa only [qa]using hi)) z⟩
/-! ### C J not qe -/
mutual
def jv:ag→Bool
 | .p β T _=> !T.refs || !β
 | .fad β c _=> !β && hX c
 | .agg c=>hX c
 | .tup c=>hX c
 | .fn _ c=>hX c
 | .sl _=>true
 | .mp _=>true
 | .adr _ _ _ _=>true
 | .ada _ _ _ _=>true
 | .nils=>true
 | .nilp=>true
 | .lit _=>true
 | .lag _ _ _ c=>hX c
 | .loc β _ _=> !β
 | .suf _ _ _=>true
 | .bfn _ c=>hX c
 | .unk=>true
def hX:List ag→Bool
 | []=>true
 | x::e=>jv x && hX e
end
def zG:Obj→Bool
 | .box c=>hX c
 | .lmp _ _ _ c=>hX c
 | .vrow _ _ c=>hX c
 | _=>true
mutual
theorem vq{F:Bool→Addr→Value→Prop}{ρ:Nat→Option Value}:∀ {x:ag} {v:Value},jv x=true→V F ρ x v→V (fun _=>F false) ρ x v
 | .p β T y,_,h,c=>by
  simp only[V]at c ⊢;refine⟨c.1,?_⟩;cases β with
  | false=>exact c.2
  | true =>
   simp[jv]at h;exact jA h c.2
 | .nils,_,_,c=>by simpa only [V]using c
 | .nilp,_,_,c=>by simpa only [V]using c
 | .lit _,_,_,c=>by simpa only [V]using c
 | .unk,_,_,_=>by simp only[V]
 | .sl i,_,_,c=>by simpa only [V]using c
 | .mp i,_,_,c=>by simpa only [V]using c
 | .adr i _ _ _,_,_,c=>by simpa only [V]using c
 | .ada i _ _ _,_,_,c=>by simpa only [V]using c
 | .fad β k _,_,h,c=>by
  simp only[jv,Bool.and_eq_true,Bool.not_eq_true']at h;obtain⟨rfl,h⟩:=h;simp only[V]at c ⊢;obtain⟨q,e,hl⟩:=c;exact⟨q,e,gT h hl⟩
 | .agg k,_,h,c=>by
  simp only[jv]at h;simp only[V]at c ⊢;obtain⟨f,e,j,hl⟩:=c;exact⟨f,e,j,gT h hl⟩
 | .tup k,_,h,c=>by
  simp only[jv]at h;simp only[V]at c ⊢;obtain⟨f,e,j,hl⟩:=c;exact⟨f,e,j,gT h hl⟩
 | .fn _ k,_,h,c=>by
  simp only[jv]at h;simp only[V]at c ⊢;obtain⟨f,e,j,hl⟩:=c;exact⟨f,e,j,gT h hl⟩
 | .lag _ _ _ k,_,h,c=>by
  simp only[jv]at h;simp only[V]at c ⊢;obtain⟨f,e,j,hl⟩:=c;exact⟨f,e,j,gT h hl⟩
 | .loc β _ _,_,h,c=>by
  simp only[jv,Bool.not_eq_true']at h;subst h;simpa only [V]using c
 | .suf _ _ _,_,_,c=>by simpa only [V]using c
 | .bfn _ k,_,h,c=>by simp only[jv]at h;simp only[V]at c ⊢;obtain⟨f,e,j,hl⟩:=c;exact⟨f,e,j,gT h hl⟩
theorem gT{F:Bool→Addr→Value→Prop}{ρ:Nat→Option Value}:∀ {m:List ag} {g:Nat→Value→Prop},hX m=true→VL F ρ m g→VL (fun _=>F false) ρ m g
 | [],_,_,_=>by simp only[VL]
 | x::m,_,h,c=>by simp only[hX,Bool.and_eq_true]at h;simp only[VL]at c ⊢;obtain⟨⟨u,z,A⟩,B⟩:=c;exact⟨⟨u,z,vq h.1 A⟩,gT h.2 B⟩
end
theorem HG{F:Bool→Addr→Value→Prop}{ρ:Nat→Option Value}{S:Nat→Prop}{w:World}{o:Obj}{u:Value}(h:zG o=true)(c:OR F ρ S w o u):OR (fun _=>F false) ρ S w o u:=by
 cases o with
 | arr e A v=>exact c
 | fz A v =>
  simp only[OR]at c ⊢;exact vq (by simp[jv]) c
 | box z =>
  obtain⟨g,t,cells,e,f,j,m,p⟩:=c;exact⟨g,t,cells,e,f,j,m,gT h p⟩
 | mpo K A B=>exact c
 | mpl K B=>exact c
 | mat e D A C hole=>exact c
 | bytes e v=>exact c
 | cutz A v =>
  simp only[OR]at c ⊢;exact⟨c.1,vq (by simp[jv]) c.2⟩
 | lmp k n v z =>
  obtain⟨g,t,cells,e,f,j,m,p,x⟩:=c;exact⟨g,t,cells,e,f,j,m,p,gT h x⟩
 | vrow n sz z =>obtain⟨g,t,cells,e,f,j,m,p,x⟩:=c;exact⟨g,t,cells,e,f,j,m,p,gT h x⟩
/-! ### q over -/
def H4(g:List Nat)(i:Nat):Nat:=g.idxOf i
def rZ(g:List Nat)(new i:Nat):Nat:=if i<g.length then g.getD i 0 else new+(i - g.length)
def less(g:List Nat)(h:Nat→Option Obj)(i:Nat):Option Obj:=if g.contains i then none else h i
def yZ(g:List Nat)(h:Nat→Option Obj)(x:ag):Option ag :=
 if(ids x).all (fun i=>g.contains i) && !(ids x).isEmpty then some (lP (H4 g) x)else BJ h x
def tc(g:List Nat)(h:Nat→Option Obj):List ag→Option (List ag)
 | []=>some []
 | x::xs=>match yZ g h x,tc g h xs with
  | some y,some c=>some (y::c)
  | _,_=>none
def jR(g:List Nat)(h:Nat→Option Obj):Nat→List Nat→Option (List (Nat×Obj))
 | _,[]=>some []
 | i,id::r=>match h id with
  | some o=>if(qa o).all (fun j=>g.contains j)then match jR g h (i+1) r with
   | some l=>some ((i,m7 (H4 g) o)::l)
   | none=>none
   else none
  | none=>none
def xO:List Nat→Bool
 | []=>true
 | x::c=> !c.contains x && xO c
def vb(g:List Nat)(new:Nat)(hout:List (Nat×Obj)):hZ :=
 g.map (fun i=>(i,none))++hout.map (fun p=>(rZ g new p.1,some (m7 (rZ g new) p.2)))
def ur(g:List Nat)(hout:List (Nat×Obj))(r:ag):Bool :=
 xO g && xO (hout.map (·.1)) && jv r && (ids r).all (fun i=>decide (i<g.length+8)) &&
  hout.all (fun p=>zG p.2 && decide (p.1<g.length+8) && (qa p.2).all (fun i=>decide (i<g.length+8)))
structure ff(P:Program)(f:FuncId)(args:List ag)(hin:List (Nat×Obj))(r:ag)(hout:List (Nat×Obj)):Prop where
 fn:∃fn,P.funcs[f]? = some fn∧(fn.name == "runtime.NumGoroutine")=false∧fn.body.isNone=false
 calls:∀(Bw:Nat→Prop) (b:b9 P) (φ:Nat→Nat→Prop) (vals:Array Value),Mem Bw b b.pM φ (fun i=>look hin i) b.w →
  iA (Fr (own φ (fun i=>look hin i)) Bw b.w) b.pM args vals.toList→(∀i u,b.pM i=some u→i<hin.length) →
  Calls P f vals b.w fun e w'=>∃v ρ' φ',e = .returned v∧Mem Bw b ρ' φ' (fun i=>look hout i) w'∧V (Fr (own φ' (fun i=>look hout i)) Bw w') ρ' r v
structure jP(P:Program)(f:FuncId)(args:List ag)(hin:List (Nat×Obj))(x:Value):Prop where
 fn:∃fn,P.funcs[f]? = some fn∧(fn.name == "runtime.NumGoroutine")=false∧fn.body.isNone=false
 calls:∀(Bw:Nat→Prop) (b:b9 P) (φ:Nat→Nat→Prop) (vals:Array Value),Mem Bw b b.pM φ (fun i=>look hin i) b.w →
  iA (Fr (own φ (fun i=>look hin i)) Bw b.w) b.pM args vals.toList→(∀i u,b.pM i=some u→i<hin.length) →
  Calls P f vals b.w fun e w'=>∃ρ' φ',e = .panicked [{ v:=x,recovered:=false }]∧Mem Bw b ρ' φ' (fun _=>none) w'
def iO(P:Program)(f:FuncId)(args:List ag)(hin:List (Nat×Obj)):(ag×List (Nat×Obj))⊕Value→Prop
 | .inl p=>ff P f args hin p.1 p.2
 | .inr x=>jP P f args hin x
section
variable{g:List Nat}{h:Nat→Option Obj}
theorem kr:∀ {l:List Nat},xO l=true→l.Nodup
 | [],_=>List.nodup_nil
 | x::c,h=>by
  simp only[xO,Bool.and_eq_true,Bool.not_eq_true',List.contains_eq_mem,decide_eq_false_iff_not]at h;exact List.nodup_cons.2 ⟨h.1,kr h.2⟩
theorem HW{i:Nat}(hi:i∈g):H4 g i<g.length:=List.idxOf_lt_length_of_mem hi
theorem AP{i:Nat}(hi:i∈g):g.getD (H4 g i) 0=i:=by
 unfold H4;rw[List.getD_eq_getElem?_getD,List.getElem?_eq_getElem (List.idxOf_lt_length_of_mem hi),List.getElem_idxOf];rfl
theorem px(c:g.Nodup){i:Nat}(hi:i<g.length):H4 g (g.getD i 0)=i:=by
 unfold H4;have e:g.getD i 0=g[i]:=by simp[List.getD_eq_getElem?_getD,hi]
 rw[e];exact List.Nodup.idxOf_getElem c i hi
theorem ku:∀ {l:List Nat} {i:Nat} {hin:List (Nat×Obj)},jR g h i l=some hin→hin.length=l.length
 | [],_,_,e=>by cases e;rfl
 | id::r,i,hin,e=>by
  simp only[jR]at e;split at e
  ·split at e
   ·split at e
    ·rename_i c hl;cases e;simp[ku hl]
    ·cases e
   ·cases e
  ·cases e
theorem xG:∀ {l:List Nat} {i:Nat} {hin:List (Nat×Obj)},jR g h i l=some hin→∀ {j:Nat} {o:Obj},look hin j=some o →
  ∃id f,i≤j∧l[j - i]? = some id∧h id=some f∧o=m7 (H4 g) f∧∀k∈qa f,k∈g
 | [],_,_,e,j,o,c=>by cases e;cases c
 | id::r,i,hin,e,j,o,c=>by
  simp only[jR]at e;split at e
  ·rename_i f u;split at e
   ·rename_i m;split at e
    ·rename_i D hl;cases e;simp only[look]at c;split at c
     ·rename_i p;subst p;cases c;exact⟨id,f,Nat.le_refl _,by simp,u,rfl,fun k v=>by simpa using List.all_eq_true.1 m k v⟩
     ·obtain⟨q,x,E,z,A,B,C⟩:=xG hl c;refine⟨q,x,by omega,?_,A,B,C⟩;rw[show j - i=(j - (i+1))+1 by omega];simpa using z
    ·cases e
   ·cases e
  ·cases e
theorem xp:∀ {k:hZ} {h:Nat→Option Obj} {i:Nat} {o:Obj},apply k h i=some o→(i,some o)∈k∨(h i=some o∧∀p∈k,p.1≠i)
 | [],h,i,o,e=> .inr ⟨e,fun p f=>by cases f⟩
 | (j,x)::k,h,i,o,e=>by
  simp only[apply]at e;rcases xp e with q | ⟨m,u⟩
  ·exact .inl (List.mem_cons_of_mem _ q)
  ·by_cases c:i=j
   ·subst c;rw[aw]at m;subst m;exact .inl (List.mem_cons_self ..)
   ·rw[aB _ _ c]at m;refine .inr ⟨m,fun p f=> ?_⟩;rcases List.mem_cons.1 f with rfl | f
    ·exact fun e=>c e.symm
    ·exact u p f
theorem uy:∀ {l:List (Nat×Obj)} {i:Nat} {o:Obj},(l.map (·.1)).Nodup→(i,o)∈l→look l i=some o
 | (j,x)::r,i,o,f,c=>by
  simp only[List.map_cons,List.nodup_cons]at f;simp only[look];rcases List.mem_cons.1 c with e | c
  ·cases e;rw[if_pos rfl]
  ·rw[if_neg (fun e=>f.1 (List.mem_map.2 ⟨(i,o),c,e.symm⟩))];exact uy f.2 c
end
end Go.Tv
