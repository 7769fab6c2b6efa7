/- Objects' numbers; calls that are handed objects of the caller's own. -/
import Derived.Test.YtbedjpdfkmfplaaGreatDoorTvK
namespace Go.Tv
open Go Go.RowKit
def dA{α:Type}:List (Nat×α)→Nat→Option α
 | [],_=>none
 | (k,x)::r,i=>if k=i then some x else dA r i
theorem pY{α:Type}:∀ {l:List (Nat×α)} {t:Nat} {x:α},dA l t=some x→(t,x)∈l
 | [],_,_,h=>by cases h
 | (k,y)::r,t,x,h=>by
  simp only[dA]at h
  split at h
  ·rename_i e;cases h;subst e;simp
  ·exact List.mem_cons_of_mem _ (pY h)
mutual
def cE:AVal→List Nat
 | .sl i=>[i]
 | .mp i=>[i]
 | .adr i _ _ _=>[i]
 | .ada i _ _ _=>[i]
 | .fad _ cs _=>bR cs
 | .agg cs=>bR cs
 | .tup cs=>bR cs
 | .fn _ cs=>bR cs
 | .p _ _ _=>[]
 | .nils=>[]
 | .nilp=>[]
 | .lit _=>[]
 | .lag _ _ _ cs=>bR cs
 | .loc _ _ _=>[]
 | .suf i _ _=>[i]
 | .bfn _ cs=>bR cs
 | .unk=>[]
def bR:List AVal→List Nat
 | []=>[]
 | x::xs=>cE x++bR xs
end
theorem cX{i:Nat}:∀ {xs:List AVal},i∈bR xs↔∃x∈xs,i∈cE x
 | []=>by simp[bR]
 | x::xs=>by simp[bR,cX (xs:=xs)]
def vQ:Obj→List Nat
 | .box cs=>bR cs
 | .lmp _ _ _ cs=>bR cs
 | .vrow _ _ cs=>bR cs
 | .mat _ _ _ _ (some (_,id))=>[id]
 | _=>[]
mutual
def oH(f:Nat→Nat):AVal→AVal
 | .sl i=> .sl (f i)
 | .mp i=> .mp (f i)
 | .adr i k sz off=> .adr (f i) k sz off
 | .ada i b n k=> .ada (f i) b n k
 | .fad β cs off=> .fad β (uA f cs) off
 | .agg cs=> .agg (uA f cs)
 | .tup cs=> .tup (uA f cs)
 | .fn g cs=> .fn g (uA f cs)
 | .p β T x=> .p β T x
 | .nils=> .nils
 | .nilp=> .nilp
 | .lit v=> .lit v
 | .lag k n xs cs=> .lag k n xs (uA f cs)
 | .loc β T x=> .loc β T x
 | .suf i lo sz=> .suf (f i) lo sz
 | .bfn g cs=> .bfn g (uA f cs)
 | .unk=> .unk
def uA(f:Nat→Nat):List AVal→List AVal
 | []=>[]
 | x::xs=>oH f x::uA f xs
end
theorem bT(f:Nat→Nat):∀xs:List AVal,(uA f xs).length=xs.length
 | []=>rfl
 | x::xs=>by simp[uA,bT f xs]
def rG(f:Nat→Nat):Obj→Obj
 | .box cs=> .box (uA f cs)
 | .lmp k n xs cs=> .lmp k n xs (uA f cs)
 | .vrow n sz cs=> .vrow n sz (uA f cs)
 | .mat e e2 A xss (some (k,id))=> .mat e e2 A xss (some (k,f id))
 | o=>o
mutual
theorem aIL{F:Bool→Addr→Value→Prop}{ρ ρ':Nat→Option Value}{f:Nat→Nat}:∀ {x:AVal} {v:Value},(∀i∈cE x,ρ' i=ρ (f i))→V F ρ (oH f x) v→V F ρ' x v
 | .p _ _ _,_,_,hv=>by simpa only [oH,V]using hv
 | .nils,_,_,hv=>by simpa only [oH,V]using hv
 | .nilp,_,_,hv=>by simpa only [oH,V]using hv
 | .lit _,_,_,hv=>by simpa only [oH,V]using hv
 | .unk,_,_,_=>by simp only[V]
 | .sl i,_,h,hv=>by
  simp only[oH,V]at hv ⊢
  rw[h i (by simp[cE])]
  exact hv
 | .mp i,_,h,hv=>by
  simp only[oH,V]at hv ⊢
  rw[h i (by simp[cE])]
  exact hv
 | .ada i _ _ _,_,h,hv=>by
  simp only[oH,V]at hv ⊢
  rw[h i (by simp[cE])]
  exact hv
 | .adr i _ _ _,_,h,hv=>by
  simp only[oH,V]at hv ⊢
  rw[h i (by simp[cE])]
  exact hv
 | .fad _ cs _,_,h,hv=>by
  simp only[oH,V]at hv ⊢
  obtain⟨ad,e,hl⟩:=hv
  exact⟨ad,e,oV (fun i hi=>h i (by simpa only [cE]using hi)) hl⟩
 | .agg cs,_,h,hv=>by
  simp only[oH,V,bT]at hv ⊢
  obtain⟨vs,e,hs,hl⟩:=hv
  exact⟨vs,e,hs,oV (fun i hi=>h i (by simpa only [cE]using hi)) hl⟩
 | .tup cs,_,h,hv=>by
  simp only[oH,V,bT]at hv ⊢
  obtain⟨vs,e,hs,hl⟩:=hv
  exact⟨vs,e,hs,oV (fun i hi=>h i (by simpa only [cE]using hi)) hl⟩
 | .fn _ cs,_,h,hv=>by
  simp only[oH,V,bT]at hv ⊢
  obtain⟨vs,e,hs,hl⟩:=hv
  exact⟨vs,e,hs,oV (fun i hi=>h i (by simpa only [cE]using hi)) hl⟩
 | .lag _ _ _ cs,_,h,hv=>by
  simp only[oH,V,bT]at hv ⊢
  obtain⟨vs,e,hs,hl⟩:=hv
  exact⟨vs,e,hs,oV (fun i hi=>h i (by simpa only [cE]using hi)) hl⟩
 | .loc _ _ _,_,_,hv=>by simpa only [oH,V]using hv
 | .suf i _ _,_,h,hv=>by
  simp only[oH,V]at hv ⊢
  rw[h i (by simp[cE])]
  exact hv
 | .bfn _ cs,_,h,hv=>by
  simp only[oH,V,bT]at hv ⊢
  obtain⟨vs,e,hs,hl⟩:=hv
  exact⟨vs,e,hs,oV (fun i hi=>h i (by simpa only [cE]using hi)) hl⟩
theorem oV{F:Bool→Addr→Value→Prop}{ρ ρ':Nat→Option Value}{f:Nat→Nat}:∀ {xs:List AVal} {g:Nat→Value→Prop},(∀i∈bR xs,ρ' i=ρ (f i))→VL F ρ (uA f xs) g→VL F ρ' xs g
 | [],_,_,_=>by simp only[VL]
 | x::xs,_,h,hv=>by
  simp only[uA,VL]at hv ⊢
  obtain⟨⟨u,q1,q2⟩,q3⟩:=hv
  exact⟨⟨u,q1,aIL (fun i hi=>h i (by simp[bR,hi])) q2⟩,oV (fun i hi=>h i (by simp[bR,hi])) q3⟩
end
def U3(h:Nat→Option Obj)(xs:List AVal):List Nat :=
 bR xs++(bR xs).flatMap fun i=>match h i with
  | some (.box cs)=>bR cs
  | _=>[]
/-! ### The other way round -/
mutual
theorem aI1{F:Bool→Addr→Value→Prop}{ρ ρ':Nat→Option Value}{f:Nat→Nat}:∀ {x:AVal} {v:Value},(∀i∈cE x,ρ' (f i)=ρ i)→V F ρ x v→V F ρ' (oH f x) v
 | .p _ _ _,_,_,hv=>by simpa only [oH,V]using hv
 | .nils,_,_,hv=>by simpa only [oH,V]using hv
 | .nilp,_,_,hv=>by simpa only [oH,V]using hv
 | .lit _,_,_,hv=>by simpa only [oH,V]using hv
 | .unk,_,_,_=>by simp only[oH,V]
 | .sl i,_,h,hv=>by
  simp only[oH,V]at hv ⊢
  rw[h i (by simp[cE])]
  exact hv
 | .mp i,_,h,hv=>by
  simp only[oH,V]at hv ⊢
  rw[h i (by simp[cE])]
  exact hv
 | .ada i _ _ _,_,h,hv=>by
  simp only[oH,V]at hv ⊢
  rw[h i (by simp[cE])]
  exact hv
 | .adr i _ _ _,_,h,hv=>by
  simp only[oH,V]at hv ⊢
  rw[h i (by simp[cE])]
  exact hv
 | .fad _ cs _,_,h,hv=>by
  simp only[oH,V]at hv ⊢
  obtain⟨ad,e,hl⟩:=hv
  exact⟨ad,e,wD (fun i hi=>h i (by simpa only [cE]using hi)) hl⟩
 | .agg cs,_,h,hv=>by
  simp only[oH,V,bT]at hv ⊢
  obtain⟨vs,e,hs,hl⟩:=hv
  exact⟨vs,e,hs,wD (fun i hi=>h i (by simpa only [cE]using hi)) hl⟩
 | .tup cs,_,h,hv=>by
  simp only[oH,V,bT]at hv ⊢
  obtain⟨vs,e,hs,hl⟩:=hv
  exact⟨vs,e,hs,wD (fun i hi=>h i (by simpa only [cE]using hi)) hl⟩
 | .fn _ cs,_,h,hv=>by
  simp only[oH,V,bT]at hv ⊢
  obtain⟨vs,e,hs,hl⟩:=hv
  exact⟨vs,e,hs,wD (fun i hi=>h i (by simpa only [cE]using hi)) hl⟩
 | .lag _ _ _ cs,_,h,hv=>by
  simp only[oH,V,bT]at hv ⊢
  obtain⟨vs,e,hs,hl⟩:=hv
  exact⟨vs,e,hs,wD (fun i hi=>h i (by simpa only [cE]using hi)) hl⟩
 | .loc _ _ _,_,_,hv=>by simpa only [oH,V]using hv
 | .suf i _ _,_,h,hv=>by
  simp only[oH,V]at hv ⊢
  rw[h i (by simp[cE])]
  exact hv
 | .bfn _ cs,_,h,hv=>by
  simp only[oH,V,bT]at hv ⊢
  obtain⟨vs,e,hs,hl⟩:=hv
  exact⟨vs,e,hs,wD (fun i hi=>h i (by simpa only [cE]using hi)) hl⟩
theorem wD{F:Bool→Addr→Value→Prop}{ρ ρ':Nat→Option Value}{f:Nat→Nat}:∀ {xs:List AVal} {g:Nat→Value→Prop},(∀i∈bR xs,ρ' (f i)=ρ i)→VL F ρ xs g→VL F ρ' (uA f xs) g
 | [],_,_,_=>by simp only[uA,VL]
 | x::xs,_,h,hv=>by
  simp only[uA,VL]at hv ⊢
  obtain⟨⟨u,q1,q2⟩,q3⟩:=hv
  exact⟨⟨u,q1,aI1 (fun i hi=>h i (by simp[bR,hi])) q2⟩,wD (fun i hi=>h i (by simp[bR,hi])) q3⟩
end
theorem aF9{F:Bool→Addr→Value→Prop}{ρ ρ':Nat→Option Value}{S:Nat→Prop}{w:World}{f:Nat→Nat}{e e2:TypeId}{A:Ty}{xss:List (List A.den)}{hole:Option (Nat×Nat)}{u:Value}
  (h:∀k id,hole=some (k,id)→ρ' (f id)=ρ id) (ho:OR F ρ S w (.mat e e2 A xss hole) u):OR F ρ' S w (rG f (.mat e e2 A xss hole)) u:=by
 obtain⟨hs,h0,hk,cells,h1,h2,h3⟩:=ho
 cases hole with
 | none=>exact⟨hs,h0,hk,cells,h1,fun i hi=>(h2 i hi).imp fun v q=>⟨q.1,q.2.1,q.2.2.1,fun id e=>by cases e⟩,h3⟩
 | some p =>
  obtain⟨k,id⟩:=p
  have hsh:∀i,aDE (some (k,f id)) i→aDE (some (k,id)) i:=fun i hh k' id' e=>by cases e;exact hh k (f id) rfl
  refine⟨hs,h0,fun k' id' e=>(by cases e;exact hk k id rfl),cells,h1,fun i hi=> ?_,fun i j vi vj b hij s1 s2=>h3 i j vi vj b hij (hsh i s1) (hsh j s2)⟩
  obtain⟨v,q1,q2,q3,q4⟩:=h2 i hi
  exact⟨v,q1,q2,fun s=>q3 (hsh i s),fun id' e=>by cases e;rw[h k id rfl];exact q4 id rfl⟩
theorem aDY{F:Bool→Addr→Value→Prop}{ρ ρ':Nat→Option Value}{S:Nat→Prop}{w:World}{f:Nat→Nat}{e e2:TypeId}{A:Ty}{xss:List (List A.den)}{hole:Option (Nat×Nat)}{u:Value}
  (h:∀k id,hole=some (k,id)→ρ' id=ρ (f id)) (ho:OR F ρ S w (rG f (.mat e e2 A xss hole)) u):OR F ρ' S w (.mat e e2 A xss hole) u:=by
 cases hole with
 | none =>
  obtain⟨hs,h0,hk,cells,h1,h2,h3⟩:=ho
  exact⟨hs,h0,hk,cells,h1,fun i hi=>(h2 i hi).imp fun v q=>⟨q.1,q.2.1,q.2.2.1,fun id e=>by cases e⟩,h3⟩
 | some p =>
  obtain⟨k,id⟩:=p
  obtain⟨hs,h0,hk,cells,h1,h2,h3⟩:=ho
  have hsh:∀i,aDE (some (k,id)) i→aDE (some (k,f id)) i:=fun i hh k' id' e=>by cases e;exact hh k id rfl
  refine⟨hs,h0,fun k' id' e=>(by cases e;exact hk k (f id) rfl),cells,h1,fun i hi=> ?_,fun i j vi vj b hij s1 s2=>h3 i j vi vj b hij (hsh i s1) (hsh j s2)⟩
  obtain⟨v,q1,q2,q3,q4⟩:=h2 i hi
  exact⟨v,q1,q2,fun s=>q3 (hsh i s),fun id' e=>by cases e;rw[h k id rfl];exact q4 (f id) rfl⟩
theorem aII{F:Bool→Addr→Value→Prop}{ρ ρ':Nat→Option Value}{S:Nat→Prop}{w:World}{f:Nat→Nat}{o:Obj}{u:Value}(h:∀i∈vQ o,ρ' (f i)=ρ i)(ho:OR F ρ S w o u):OR F ρ' S w (rG f o) u:=by
 cases o with
 | arr e A xs=>exact ho
 | fz A xs =>
  simp only[rG,OR]at ho ⊢
  exact w9 rfl ho
 | box cs =>
  obtain⟨g,t,cells,e,sg,s1,s2,s3⟩:=ho
  exact⟨g,t,cells,e,sg,s1,by rw[s2,bT],wD (fun i hi=>h i (by simpa only [vQ]using hi)) s3⟩
 | mpo K A kv=>exact ho
 | mpl K kv=>exact ho
 | mat e e2 A xss hole=>exact aF9 (fun k id e=>h id (by subst e;simp[vQ])) ho
 | bytes e xs=>exact ho
 | cutz A xs =>
  simp only[rG,OR]at ho ⊢
  exact⟨ho.1,w9 rfl ho.2⟩
 | lmp k n xs cs =>
  obtain⟨g,t,cells,e,sg,s1,s2,s3,s4⟩:=ho
  exact⟨g,t,cells,e,sg,s1,by rw[s2,bT],s3,wD (fun i hi=>h i (by simpa only [vQ]using hi)) s4⟩
 | vrow n sz cs =>
  obtain⟨g,t,cells,e,sg,s1,s2,s3,s4⟩:=ho
  exact⟨g,t,cells,e,sg,s1,by rw[s2,bT],by rw[bT];exact s3,wD (fun i hi=>h i (by simpa only [vQ]using hi)) s4⟩
/-! ### What is not vO -/
mutual
def kH:AVal→Bool
 | .p β T _=> !T.refs || !β
 | .fad β cs _=> !β && iZ cs
 | .agg cs=>iZ cs
 | .tup cs=>iZ cs
 | .fn _ cs=>iZ cs
 | .sl _=>true
 | .mp _=>true
 | .adr _ _ _ _=>true
 | .ada _ _ _ _=>true
 | .nils=>true
 | .nilp=>true
 | .lit _=>true
 | .lag _ _ _ cs=>iZ cs
 | .loc β _ _=> !β
 | .suf _ _ _=>true
 | .bfn _ cs=>iZ cs
 | .unk=>true
def iZ:List AVal→Bool
 | []=>true
 | x::xs=>kH x && iZ xs
end
def aBH:Obj→Bool
 | .box cs=>iZ cs
 | .lmp _ _ _ cs=>iZ cs
 | .vrow _ _ cs=>iZ cs
 | _=>true
mutual
theorem L9{F:Bool→Addr→Value→Prop}{ρ:Nat→Option Value}:∀ {x:AVal} {v:Value},kH x=true→V F ρ x v→V (fun _=>F false) ρ x v
 | .p β T y,_,h,hv=>by
  simp only[V]at hv ⊢
  refine⟨hv.1,?_⟩
  cases β with
  | false=>exact hv.2
  | true =>
   simp[kH]at h
   exact kO h hv.2
 | .nils,_,_,hv=>by simpa only [V]using hv
 | .nilp,_,_,hv=>by simpa only [V]using hv
 | .lit _,_,_,hv=>by simpa only [V]using hv
 | .unk,_,_,_=>by simp only[V]
 | .sl i,_,_,hv=>by simpa only [V]using hv
 | .mp i,_,_,hv=>by simpa only [V]using hv
 | .adr i _ _ _,_,_,hv=>by simpa only [V]using hv
 | .ada i _ _ _,_,_,hv=>by simpa only [V]using hv
 | .fad β cs _,_,h,hv=>by
  simp only[kH,Bool.and_eq_true,Bool.not_eq_true']at h
  obtain⟨rfl,h⟩:=h
  simp only[V]at hv ⊢
  obtain⟨ad,e,hl⟩:=hv
  exact⟨ad,e,iW h hl⟩
 | .agg cs,_,h,hv=>by
  simp only[kH]at h
  simp only[V]at hv ⊢
  obtain⟨vs,e,hs,hl⟩:=hv
  exact⟨vs,e,hs,iW h hl⟩
 | .tup cs,_,h,hv=>by
  simp only[kH]at h
  simp only[V]at hv ⊢
  obtain⟨vs,e,hs,hl⟩:=hv
  exact⟨vs,e,hs,iW h hl⟩
 | .fn _ cs,_,h,hv=>by
  simp only[kH]at h
  simp only[V]at hv ⊢
  obtain⟨vs,e,hs,hl⟩:=hv
  exact⟨vs,e,hs,iW h hl⟩
 | .lag _ _ _ cs,_,h,hv=>by
  simp only[kH]at h
  simp only[V]at hv ⊢
  obtain⟨vs,e,hs,hl⟩:=hv
  exact⟨vs,e,hs,iW h hl⟩
 | .loc β _ _,_,h,hv=>by
  simp only[kH,Bool.not_eq_true']at h
  subst h
  simpa only [V]using hv
 | .suf _ _ _,_,_,hv=>by simpa only [V]using hv
 | .bfn _ cs,_,h,hv=>by
  simp only[kH]at h
  simp only[V]at hv ⊢
  obtain⟨vs,e,hs,hl⟩:=hv
  exact⟨vs,e,hs,iW h hl⟩
theorem iW{F:Bool→Addr→Value→Prop}{ρ:Nat→Option Value}:∀ {xs:List AVal} {g:Nat→Value→Prop},iZ xs=true→VL F ρ xs g→VL (fun _=>F false) ρ xs g
 | [],_,_,_=>by simp only[VL]
 | x::xs,_,h,hv=>by
  simp only[iZ,Bool.and_eq_true]at h
  simp only[VL]at hv ⊢
  obtain⟨⟨u,q1,q2⟩,q3⟩:=hv
  exact⟨⟨u,q1,L9 h.1 q2⟩,iW h.2 q3⟩
end
theorem aGP{F:Bool→Addr→Value→Prop}{ρ:Nat→Option Value}{S:Nat→Prop}{w:World}{o:Obj}{u:Value}(h:aBH o=true)(ho:OR F ρ S w o u):OR (fun _=>F false) ρ S w o u:=by
 cases o with
 | arr e A xs=>exact ho
 | fz A xs =>
  simp only[OR]at ho ⊢
  exact L9 (by simp[kH]) ho
 | box cs =>
  obtain⟨g,t,cells,e,sg,s1,s2,s3⟩:=ho
  exact⟨g,t,cells,e,sg,s1,s2,iW h s3⟩
 | mpo K A kv=>exact ho
 | mpl K kv=>exact ho
 | mat e e2 A xss hole=>exact ho
 | bytes e xs=>exact ho
 | cutz A xs =>
  simp only[OR]at ho ⊢
  exact⟨ho.1,L9 (by simp[kH]) ho.2⟩
 | lmp k n xs cs =>
  obtain⟨g,t,cells,e,sg,s1,s2,s3,s4⟩:=ho
  exact⟨g,t,cells,e,sg,s1,s2,s3,iW h s4⟩
 | vrow n sz cs =>
  obtain⟨g,t,cells,e,sg,s1,s2,s3,s4⟩:=ho
  exact⟨g,t,cells,e,sg,s1,s2,s3,iW h s4⟩
/-! ### Handing aKS -/
def gin(g:List Nat)(i:Nat):Nat:=g.idxOf i
def A4(g:List Nat)(new i:Nat):Nat:=if i<g.length then g.getD i 0 else new+(i - g.length)
def less(g:List Nat)(h:Nat→Option Obj)(i:Nat):Option Obj:=if g.contains i then none else h i
def aAK(g:List Nat)(h:Nat→Option Obj)(x:AVal):Option AVal :=
 if(cE x).all (fun i=>g.contains i) && !(cE x).isEmpty then some (oH (gin g) x)else aDk h x
def zL(g:List Nat)(h:Nat→Option Obj):List AVal→Option (List AVal)
 | []=>some []
 | x::xs=>match aAK g h x,zL g h xs with
  | some y,some ys=>some (y::ys)
  | _,_=>none
def kT(g:List Nat)(h:Nat→Option Obj):Nat→List Nat→Option (List (Nat×Obj))
 | _,[]=>some []
 | i,id::r=>match h id with
  | some o=>if(vQ o).all (fun j=>g.contains j)then match kT g h (i+1) r with
   | some l=>some ((i,rG (gin g) o)::l)
   | none=>none
   else none
  | none=>none
def O6:List Nat→Bool
 | []=>true
 | x::xs=> !xs.contains x && O6 xs
def K6(g:List Nat)(new:Nat)(hout:List (Nat×Obj)):jB :=
 g.map (fun i=>(i,none))++hout.map (fun p=>(A4 g new p.1,some (rG (A4 g new) p.2)))
def G6(g:List Nat)(hout:List (Nat×Obj))(r:AVal):Bool :=
 O6 g && O6 (hout.map (·.1)) && kH r && (cE r).all (fun i=>decide (i<g.length+8)) &&
  hout.all (fun p=>aBH p.2 && decide (p.1<g.length+8) && (vQ p.2).all (fun i=>decide (i<g.length+8)))
structure Owns(P:Program)(f:FuncId)(args:List AVal)(hin:List (Nat×Obj))(r:AVal)(hout:List (Nat×Obj)):Prop where
 fn:∃fn,P.funcs[f]? = some fn∧(fn.name == "runtime.NumGoroutine")=false∧fn.body.isNone=false
 calls:∀(Bw:Nat→Prop) (b:Base P) (φ:Nat→Nat→Prop) (vals:Array Value),Mem Bw b b.pin φ (fun i=>dA hin i) b.w →
  VVs (Fr (own φ (fun i=>dA hin i)) Bw b.w) b.pin args vals.toList→(∀i u,b.pin i=some u→i<hin.length) →
  Calls P f vals b.w fun e w'=>∃v ρ' φ',e = .returned v∧Mem Bw b ρ' φ' (fun i=>dA hout i) w'∧V (Fr (own φ' (fun i=>dA hout i)) Bw w') ρ' r v
structure Dies(P:Program)(f:FuncId)(args:List AVal)(hin:List (Nat×Obj))(x:Value):Prop where
 fn:∃fn,P.funcs[f]? = some fn∧(fn.name == "runtime.NumGoroutine")=false∧fn.body.isNone=false
 calls:∀(Bw:Nat→Prop) (b:Base P) (φ:Nat→Nat→Prop) (vals:Array Value),Mem Bw b b.pin φ (fun i=>dA hin i) b.w →
  VVs (Fr (own φ (fun i=>dA hin i)) Bw b.w) b.pin args vals.toList→(∀i u,b.pin i=some u→i<hin.length) →
  Calls P f vals b.w fun e w'=>∃ρ' φ',e = .panicked [{ v:=x,recovered:=false }]∧Mem Bw b ρ' φ' (fun _=>none) w'
def Does(P:Program)(f:FuncId)(args:List AVal)(hin:List (Nat×Obj)):(AVal×List (Nat×Obj))⊕Value→Prop
 | .inl p=>Owns P f args hin p.1 p.2
 | .inr x=>Dies P f args hin x
section
variable{g:List Nat}{h:Nat→Option Obj}
theorem mG:∀ {l:List Nat},O6 l=true→l.Nodup
 | [],_=>List.nodup_nil
 | x::xs,h=>by
  simp only[O6,Bool.and_eq_true,Bool.not_eq_true',List.contains_eq_mem,decide_eq_false_iff_not]at h
  exact List.nodup_cons.2 ⟨h.1,mG h.2⟩
theorem aHa{i:Nat}(hi:i∈g):gin g i<g.length:=List.idxOf_lt_length_of_mem hi
theorem aDv{i:Nat}(hi:i∈g):g.getD (gin g i) 0=i:=by
 unfold gin
 rw[List.getD_eq_getElem?_getD,List.getElem?_eq_getElem (List.idxOf_lt_length_of_mem hi),List.getElem_idxOf]
 rfl
theorem uE(hn:g.Nodup){i:Nat}(hi:i<g.length):gin g (g.getD i 0)=i:=by
 unfold gin
 have e:g.getD i 0=g[i]:=by simp[List.getD_eq_getElem?_getD,hi]
 rw[e]
 exact List.Nodup.idxOf_getElem hn i hi
theorem lZ:∀ {l:List Nat} {i:Nat} {hin:List (Nat×Obj)},kT g h i l=some hin→hin.length=l.length
 | [],_,_,e=>by cases e;rfl
 | id::r,i,hin,e=>by
  simp only[kT]at e
  split at e
  ·split at e
   ·split at e
    ·rename_i l' hl
     cases e
     simp[lZ hl]
    ·cases e
   ·cases e
  ·cases e
theorem V5:∀ {l:List Nat} {i:Nat} {hin:List (Nat×Obj)},kT g h i l=some hin→∀ {j:Nat} {o:Obj},dA hin j=some o →
  ∃id o',i≤j∧l[j - i]? = some id∧h id=some o'∧o=rG (gin g) o'∧∀k∈vQ o',k∈g
 | [],_,_,e,j,o,hj=>by cases e;cases hj
 | id::r,i,hin,e,j,o,hj=>by
  simp only[kT]at e
  split at e
  ·rename_i o' ho
   split at e
   ·rename_i hall
    split at e
    ·rename_i l' hl
     cases e
     simp only[dA]at hj
     split at hj
     ·rename_i eij
      subst eij
      cases hj
      exact⟨id,o',Nat.le_refl _,by simp,ho,rfl,fun k hk=>by simpa using List.all_eq_true.1 hall k hk⟩
     ·obtain⟨id',o2,q1,q2,q3,q4,q5⟩:=V5 hl hj
      refine⟨id',o2,by omega,?_,q3,q4,q5⟩
      rw[show j - i=(j - (i+1))+1 by omega]
      simpa using q2
    ·cases e
   ·cases e
  ·cases e
theorem M4:∀ {us:jB} {h:Nat→Option Obj} {i:Nat} {o:Obj},apply us h i=some o→(i,some o)∈us∨(h i=some o∧∀p∈us,p.1≠i)
 | [],h,i,o,e=> .inr ⟨e,fun p hp=>by cases hp⟩
 | (j,x)::us,h,i,o,e=>by
  simp only[apply]at e
  rcases M4 e with q | ⟨q1,q2⟩
  ·exact .inl (List.mem_cons_of_mem _ q)
  ·by_cases eij:i=j
   ·subst eij
    rw[aH]at q1
    subst q1
    exact .inl (List.mem_cons_self ..)
   ·rw[aP _ _ eij]at q1
    refine .inr ⟨q1,fun p hp=> ?_⟩
    rcases List.mem_cons.1 hp with rfl | hp
    ·exact fun e=>eij e.symm
    ·exact q2 p hp
theorem G4:∀ {l:List (Nat×Obj)} {i:Nat} {o:Obj},(l.map (·.1)).Nodup→(i,o)∈l→dA l i=some o
 | (j,x)::r,i,o,hn,hm=>by
  simp only[List.map_cons,List.nodup_cons]at hn
  simp only[dA]
  rcases List.mem_cons.1 hm with e | hm
  ·cases e;rw[if_pos rfl]
  ·rw[if_neg (fun e=>hn.1 (List.mem_map.2 ⟨(i,o),hm,e.symm⟩))]
   exact G4 hn.2 hm
end
end Go.Tv
