/- Objects' numbers; calls that are handed objects of the caller's own. -/
import Derived.Test.YtbedjpdfkmfplaaGreatDoorTvK
namespace Go.Tv
open Go Go.RowKit
def dL{α:Type}:List (Nat×α)→Nat→Option α
 | [],_=>none
 | (k,x)::r,i=>if k=i then some x else dL r i
theorem pW{α:Type}:∀ {l:List (Nat×α)} {t:Nat} {x:α},dL l t=some x→(t,x)∈l
 | [],_,_,h=>by cases h
 | (k,y)::r,t,x,h=>by
  simp only[dL]at h
  split at h
  ·rename_i e;cases h;subst e;simp
  ·exact List.mem_cons_of_mem _ (pW h)
mutual
def cE:AVal→List Nat
 | .sl i=>[i]
 | .mp i=>[i]
 | .adr i _ _ _=>[i]
 | .ada i _ _ _=>[i]
 | .fad _ cs _=>bP cs
 | .agg cs=>bP cs
 | .tup cs=>bP cs
 | .fn _ cs=>bP cs
 | .p _ _ _=>[]
 | .nils=>[]
 | .nilp=>[]
 | .lit _=>[]
 | .lag _ _ _ cs=>bP cs
 | .loc _ _ _=>[]
 | .suf i _ _=>[i]
 | .bfn _ cs=>bP cs
 | .unk=>[]
def bP:List AVal→List Nat
 | []=>[]
 | x::xs=>cE x++bP xs
end
theorem dC{i:Nat}:∀ {xs:List AVal},i∈bP xs↔∃x∈xs,i∈cE x
 | []=>by simp[bP]
 | x::xs=>by simp[bP,dC (xs:=xs)]
def wM:Obj→List Nat
 | .box cs=>bP cs
 | .lmp _ _ _ cs=>bP cs
 | .vrow _ _ cs=>bP cs
 | .mat _ _ _ _ (some (_,id))=>[id]
 | _=>[]
mutual
def oX(f:Nat→Nat):AVal→AVal
 | .sl i=> .sl (f i)
 | .mp i=> .mp (f i)
 | .adr i k sz off=> .adr (f i) k sz off
 | .ada i b n k=> .ada (f i) b n k
 | .fad β cs off=> .fad β (u6 f cs) off
 | .agg cs=> .agg (u6 f cs)
 | .tup cs=> .tup (u6 f cs)
 | .fn g cs=> .fn g (u6 f cs)
 | .p β T x=> .p β T x
 | .nils=> .nils
 | .nilp=> .nilp
 | .lit v=> .lit v
 | .lag k n xs cs=> .lag k n xs (u6 f cs)
 | .loc β T x=> .loc β T x
 | .suf i lo sz=> .suf (f i) lo sz
 | .bfn g cs=> .bfn g (u6 f cs)
 | .unk=> .unk
def u6(f:Nat→Nat):List AVal→List AVal
 | []=>[]
 | x::xs=>oX f x::u6 f xs
end
theorem bT(f:Nat→Nat):∀xs:List AVal,(u6 f xs).length=xs.length
 | []=>rfl
 | x::xs=>by simp[u6,bT f xs]
def qY(f:Nat→Nat):Obj→Obj
 | .box cs=> .box (u6 f cs)
 | .lmp k n xs cs=> .lmp k n xs (u6 f cs)
 | .vrow n sz cs=> .vrow n sz (u6 f cs)
 | .mat e e2 A xss (some (k,id))=> .mat e e2 A xss (some (k,f id))
 | o=>o
mutual
theorem aJc{F:Bool→Addr→Value→Prop}{ρ ρ':Nat→Option Value}{f:Nat→Nat}:∀ {x:AVal} {v:Value},(∀i∈cE x,ρ' i=ρ (f i))→V F ρ (oX f x) v→V F ρ' x v
 | .p _ _ _,_,_,hv=>by simpa only [oX,V]using hv
 | .nils,_,_,hv=>by simpa only [oX,V]using hv
 | .nilp,_,_,hv=>by simpa only [oX,V]using hv
 | .lit _,_,_,hv=>by simpa only [oX,V]using hv
 | .unk,_,_,_=>by simp only[V]
 | .sl i,_,h,hv=>by
  simp only[oX,V]at hv ⊢
  rw[h i (by simp[cE])]
  exact hv
 | .mp i,_,h,hv=>by
  simp only[oX,V]at hv ⊢
  rw[h i (by simp[cE])]
  exact hv
 | .ada i _ _ _,_,h,hv=>by
  simp only[oX,V]at hv ⊢
  rw[h i (by simp[cE])]
  exact hv
 | .adr i _ _ _,_,h,hv=>by
  simp only[oX,V]at hv ⊢
  rw[h i (by simp[cE])]
  exact hv
 | .fad _ cs _,_,h,hv=>by
  simp only[oX,V]at hv ⊢
  obtain⟨ad,e,hl⟩:=hv
  exact⟨ad,e,pH (fun i hi=>h i (by simpa only [cE]using hi)) hl⟩
 | .agg cs,_,h,hv=>by
  simp only[oX,V,bT]at hv ⊢
  obtain⟨vs,e,hs,hl⟩:=hv
  exact⟨vs,e,hs,pH (fun i hi=>h i (by simpa only [cE]using hi)) hl⟩
 | .tup cs,_,h,hv=>by
  simp only[oX,V,bT]at hv ⊢
  obtain⟨vs,e,hs,hl⟩:=hv
  exact⟨vs,e,hs,pH (fun i hi=>h i (by simpa only [cE]using hi)) hl⟩
 | .fn _ cs,_,h,hv=>by
  simp only[oX,V,bT]at hv ⊢
  obtain⟨vs,e,hs,hl⟩:=hv
  exact⟨vs,e,hs,pH (fun i hi=>h i (by simpa only [cE]using hi)) hl⟩
 | .lag _ _ _ cs,_,h,hv=>by
  simp only[oX,V,bT]at hv ⊢
  obtain⟨vs,e,hs,hl⟩:=hv
  exact⟨vs,e,hs,pH (fun i hi=>h i (by simpa only [cE]using hi)) hl⟩
 | .loc _ _ _,_,_,hv=>by simpa only [oX,V]using hv
 | .suf i _ _,_,h,hv=>by
  simp only[oX,V]at hv ⊢
  rw[h i (by simp[cE])]
  exact hv
 | .bfn _ cs,_,h,hv=>by
  simp only[oX,V,bT]at hv ⊢
  obtain⟨vs,e,hs,hl⟩:=hv
  exact⟨vs,e,hs,pH (fun i hi=>h i (by simpa only [cE]using hi)) hl⟩
theorem pH{F:Bool→Addr→Value→Prop}{ρ ρ':Nat→Option Value}{f:Nat→Nat}:∀ {xs:List AVal} {g:Nat→Value→Prop},(∀i∈bP xs,ρ' i=ρ (f i))→VL F ρ (u6 f xs) g→VL F ρ' xs g
 | [],_,_,_=>by simp only[VL]
 | x::xs,_,h,hv=>by
  simp only[u6,VL]at hv ⊢
  obtain⟨⟨u,q1,q2⟩,q3⟩:=hv
  exact⟨⟨u,q1,aJc (fun i hi=>h i (by simp[bP,hi])) q2⟩,pH (fun i hi=>h i (by simp[bP,hi])) q3⟩
end
def W9(h:Nat→Option Obj)(xs:List AVal):List Nat :=
 bP xs++(bP xs).flatMap fun i=>match h i with
  | some (.box cs)=>bP cs
  | _=>[]
/-! ### The other way round -/
mutual
theorem aJ7{F:Bool→Addr→Value→Prop}{ρ ρ':Nat→Option Value}{f:Nat→Nat}:∀ {x:AVal} {v:Value},(∀i∈cE x,ρ' (f i)=ρ i)→V F ρ x v→V F ρ' (oX f x) v
 | .p _ _ _,_,_,hv=>by simpa only [oX,V]using hv
 | .nils,_,_,hv=>by simpa only [oX,V]using hv
 | .nilp,_,_,hv=>by simpa only [oX,V]using hv
 | .lit _,_,_,hv=>by simpa only [oX,V]using hv
 | .unk,_,_,_=>by simp only[oX,V]
 | .sl i,_,h,hv=>by
  simp only[oX,V]at hv ⊢
  rw[h i (by simp[cE])]
  exact hv
 | .mp i,_,h,hv=>by
  simp only[oX,V]at hv ⊢
  rw[h i (by simp[cE])]
  exact hv
 | .ada i _ _ _,_,h,hv=>by
  simp only[oX,V]at hv ⊢
  rw[h i (by simp[cE])]
  exact hv
 | .adr i _ _ _,_,h,hv=>by
  simp only[oX,V]at hv ⊢
  rw[h i (by simp[cE])]
  exact hv
 | .fad _ cs _,_,h,hv=>by
  simp only[oX,V]at hv ⊢
  obtain⟨ad,e,hl⟩:=hv
  exact⟨ad,e,wZ (fun i hi=>h i (by simpa only [cE]using hi)) hl⟩
 | .agg cs,_,h,hv=>by
  simp only[oX,V,bT]at hv ⊢
  obtain⟨vs,e,hs,hl⟩:=hv
  exact⟨vs,e,hs,wZ (fun i hi=>h i (by simpa only [cE]using hi)) hl⟩
 | .tup cs,_,h,hv=>by
  simp only[oX,V,bT]at hv ⊢
  obtain⟨vs,e,hs,hl⟩:=hv
  exact⟨vs,e,hs,wZ (fun i hi=>h i (by simpa only [cE]using hi)) hl⟩
 | .fn _ cs,_,h,hv=>by
  simp only[oX,V,bT]at hv ⊢
  obtain⟨vs,e,hs,hl⟩:=hv
  exact⟨vs,e,hs,wZ (fun i hi=>h i (by simpa only [cE]using hi)) hl⟩
 | .lag _ _ _ cs,_,h,hv=>by
  simp only[oX,V,bT]at hv ⊢
  obtain⟨vs,e,hs,hl⟩:=hv
  exact⟨vs,e,hs,wZ (fun i hi=>h i (by simpa only [cE]using hi)) hl⟩
 | .loc _ _ _,_,_,hv=>by simpa only [oX,V]using hv
 | .suf i _ _,_,h,hv=>by
  simp only[oX,V]at hv ⊢
  rw[h i (by simp[cE])]
  exact hv
 | .bfn _ cs,_,h,hv=>by
  simp only[oX,V,bT]at hv ⊢
  obtain⟨vs,e,hs,hl⟩:=hv
  exact⟨vs,e,hs,wZ (fun i hi=>h i (by simpa only [cE]using hi)) hl⟩
theorem wZ{F:Bool→Addr→Value→Prop}{ρ ρ':Nat→Option Value}{f:Nat→Nat}:∀ {xs:List AVal} {g:Nat→Value→Prop},(∀i∈bP xs,ρ' (f i)=ρ i)→VL F ρ xs g→VL F ρ' (u6 f xs) g
 | [],_,_,_=>by simp only[u6,VL]
 | x::xs,_,h,hv=>by
  simp only[u6,VL]at hv ⊢
  obtain⟨⟨u,q1,q2⟩,q3⟩:=hv
  exact⟨⟨u,q1,aJ7 (fun i hi=>h i (by simp[bP,hi])) q2⟩,wZ (fun i hi=>h i (by simp[bP,hi])) q3⟩
end
theorem aGj{F:Bool→Addr→Value→Prop}{ρ ρ':Nat→Option Value}{S:Nat→Prop}{w:World}{f:Nat→Nat}{e e2:TypeId}{A:Ty}{xss:List (List A.den)}{hole:Option (Nat×Nat)}{u:Value}
  (h:∀k id,hole=some (k,id)→ρ' (f id)=ρ id) (ho:OR F ρ S w (.mat e e2 A xss hole) u):OR F ρ' S w (qY f (.mat e e2 A xss hole)) u:=by
 obtain⟨hs,h0,hk,cells,h1,h2,h3⟩:=ho
 cases hole with
 | none=>exact⟨hs,h0,hk,cells,h1,fun i hi=>(h2 i hi).imp fun v q=>⟨q.1,q.2.1,q.2.2.1,fun id e=>by cases e⟩,h3⟩
 | some p =>
  obtain⟨k,id⟩:=p
  have hsh:∀i,aDE (some (k,f id)) i→aDE (some (k,id)) i:=fun i hh k' id' e=>by cases e;exact hh k (f id) rfl
  refine⟨hs,h0,fun k' id' e=>(by cases e;exact hk k id rfl),cells,h1,fun i hi=> ?_,fun i j vi vj b hij s1 s2=>h3 i j vi vj b hij (hsh i s1) (hsh j s2)⟩
  obtain⟨v,q1,q2,q3,q4⟩:=h2 i hi
  exact⟨v,q1,q2,fun s=>q3 (hsh i s),fun id' e=>by cases e;rw[h k id rfl];exact q4 id rfl⟩
theorem aEw{F:Bool→Addr→Value→Prop}{ρ ρ':Nat→Option Value}{S:Nat→Prop}{w:World}{f:Nat→Nat}{e e2:TypeId}{A:Ty}{xss:List (List A.den)}{hole:Option (Nat×Nat)}{u:Value}
  (h:∀k id,hole=some (k,id)→ρ' id=ρ (f id)) (ho:OR F ρ S w (qY f (.mat e e2 A xss hole)) u):OR F ρ' S w (.mat e e2 A xss hole) u:=by
 cases hole with
 | none =>
  obtain⟨hs,h0,hk,cells,h1,h2,h3⟩:=ho
  exact⟨hs,h0,hk,cells,h1,fun i hi=>(h2 i hi).imp fun v q=>⟨q.1,q.2.1,q.2.2.1,fun id e=>by cases e⟩,h3⟩
 | some p =>
  obtain⟨k,id⟩:=p
  obtain⟨hs,h0,hk,cells,h1,h2,h3⟩:=ho
  have hsh:∀i,aDE (some (k,id)) i→aDE (some (k,f id)) i:=fun i hh k' id' e=>by cases e;exact hh k id rfl
  refine⟨hs,h0,fun k' id' e=>(by cases e;exact hk k (f id) rfl),cells,h1,fun i hi=> ?_,fun i j vi vj b hij s1 s2=>h3 i j vi vj b hij (hsh i s1) (hsh j s2)⟩
  obtain⟨v,q1,q2,q3,q4⟩:=h2 i hi
  exact⟨v,q1,q2,fun s=>q3 (hsh i s),fun id' e=>by cases e;rw[h k id rfl];exact q4 (f id) rfl⟩
theorem aJf{F:Bool→Addr→Value→Prop}{ρ ρ':Nat→Option Value}{S:Nat→Prop}{w:World}{f:Nat→Nat}{o:Obj}{u:Value}(h:∀i∈wM o,ρ' (f i)=ρ i)(ho:OR F ρ S w o u):OR F ρ' S w (qY f o) u:=by
 cases o with
 | arr e A xs=>exact ho
 | fz A xs =>
  simp only[qY,OR]at ho ⊢
  exact yQ rfl ho
 | box cs =>
  obtain⟨g,t,cells,e,sg,s1,s2,s3⟩:=ho
  exact⟨g,t,cells,e,sg,s1,by rw[s2,bT],wZ (fun i hi=>h i (by simpa only [wM]using hi)) s3⟩
 | mpo K A kv=>exact ho
 | mpl K kv=>exact ho
 | mat e e2 A xss hole=>exact aGj (fun k id e=>h id (by subst e;simp[wM])) ho
 | bytes e xs=>exact ho
 | cutz A xs =>
  simp only[qY,OR]at ho ⊢
  exact⟨ho.1,yQ rfl ho.2⟩
 | lmp k n xs cs =>
  obtain⟨g,t,cells,e,sg,s1,s2,s3,s4⟩:=ho
  exact⟨g,t,cells,e,sg,s1,by rw[s2,bT],s3,wZ (fun i hi=>h i (by simpa only [wM]using hi)) s4⟩
 | vrow n sz cs =>
  obtain⟨g,t,cells,e,sg,s1,s2,s3,s4⟩:=ho
  exact⟨g,t,cells,e,sg,s1,by rw[s2,bT],by rw[bT];exact s3,wZ (fun i hi=>h i (by simpa only [wM]using hi)) s4⟩
/-! ### What is not wK -/
mutual
def kX:AVal→Bool
 | .p β T _=> !T.refs || !β
 | .fad β cs _=> !β && jG cs
 | .agg cs=>jG cs
 | .tup cs=>jG cs
 | .fn _ cs=>jG cs
 | .sl _=>true
 | .mp _=>true
 | .adr _ _ _ _=>true
 | .ada _ _ _ _=>true
 | .nils=>true
 | .nilp=>true
 | .lit _=>true
 | .lag _ _ _ cs=>jG cs
 | .loc β _ _=> !β
 | .suf _ _ _=>true
 | .bfn _ cs=>jG cs
 | .unk=>true
def jG:List AVal→Bool
 | []=>true
 | x::xs=>kX x && jG xs
end
def aBQ:Obj→Bool
 | .box cs=>jG cs
 | .lmp _ _ _ cs=>jG cs
 | .vrow _ _ cs=>jG cs
 | _=>true
mutual
theorem N5{F:Bool→Addr→Value→Prop}{ρ:Nat→Option Value}:∀ {x:AVal} {v:Value},kX x=true→V F ρ x v→V (fun _=>F false) ρ x v
 | .p β T y,_,h,hv=>by
  simp only[V]at hv ⊢
  refine⟨hv.1,?_⟩
  cases β with
  | false=>exact hv.2
  | true =>
   simp[kX]at h
   exact kY h hv.2
 | .nils,_,_,hv=>by simpa only [V]using hv
 | .nilp,_,_,hv=>by simpa only [V]using hv
 | .lit _,_,_,hv=>by simpa only [V]using hv
 | .unk,_,_,_=>by simp only[V]
 | .sl i,_,_,hv=>by simpa only [V]using hv
 | .mp i,_,_,hv=>by simpa only [V]using hv
 | .adr i _ _ _,_,_,hv=>by simpa only [V]using hv
 | .ada i _ _ _,_,_,hv=>by simpa only [V]using hv
 | .fad β cs _,_,h,hv=>by
  simp only[kX,Bool.and_eq_true,Bool.not_eq_true']at h
  obtain⟨rfl,h⟩:=h
  simp only[V]at hv ⊢
  obtain⟨ad,e,hl⟩:=hv
  exact⟨ad,e,jC h hl⟩
 | .agg cs,_,h,hv=>by
  simp only[kX]at h
  simp only[V]at hv ⊢
  obtain⟨vs,e,hs,hl⟩:=hv
  exact⟨vs,e,hs,jC h hl⟩
 | .tup cs,_,h,hv=>by
  simp only[kX]at h
  simp only[V]at hv ⊢
  obtain⟨vs,e,hs,hl⟩:=hv
  exact⟨vs,e,hs,jC h hl⟩
 | .fn _ cs,_,h,hv=>by
  simp only[kX]at h
  simp only[V]at hv ⊢
  obtain⟨vs,e,hs,hl⟩:=hv
  exact⟨vs,e,hs,jC h hl⟩
 | .lag _ _ _ cs,_,h,hv=>by
  simp only[kX]at h
  simp only[V]at hv ⊢
  obtain⟨vs,e,hs,hl⟩:=hv
  exact⟨vs,e,hs,jC h hl⟩
 | .loc β _ _,_,h,hv=>by
  simp only[kX,Bool.not_eq_true']at h
  subst h
  simpa only [V]using hv
 | .suf _ _ _,_,_,hv=>by simpa only [V]using hv
 | .bfn _ cs,_,h,hv=>by
  simp only[kX]at h
  simp only[V]at hv ⊢
  obtain⟨vs,e,hs,hl⟩:=hv
  exact⟨vs,e,hs,jC h hl⟩
theorem jC{F:Bool→Addr→Value→Prop}{ρ:Nat→Option Value}:∀ {xs:List AVal} {g:Nat→Value→Prop},jG xs=true→VL F ρ xs g→VL (fun _=>F false) ρ xs g
 | [],_,_,_=>by simp only[VL]
 | x::xs,_,h,hv=>by
  simp only[jG,Bool.and_eq_true]at h
  simp only[VL]at hv ⊢
  obtain⟨⟨u,q1,q2⟩,q3⟩:=hv
  exact⟨⟨u,q1,N5 h.1 q2⟩,jC h.2 q3⟩
end
theorem aHh{F:Bool→Addr→Value→Prop}{ρ:Nat→Option Value}{S:Nat→Prop}{w:World}{o:Obj}{u:Value}(h:aBQ o=true)(ho:OR F ρ S w o u):OR (fun _=>F false) ρ S w o u:=by
 cases o with
 | arr e A xs=>exact ho
 | fz A xs =>
  simp only[OR]at ho ⊢
  exact N5 (by simp[kX]) ho
 | box cs =>
  obtain⟨g,t,cells,e,sg,s1,s2,s3⟩:=ho
  exact⟨g,t,cells,e,sg,s1,s2,jC h s3⟩
 | mpo K A kv=>exact ho
 | mpl K kv=>exact ho
 | mat e e2 A xss hole=>exact ho
 | bytes e xs=>exact ho
 | cutz A xs =>
  simp only[OR]at ho ⊢
  exact⟨ho.1,N5 (by simp[kX]) ho.2⟩
 | lmp k n xs cs =>
  obtain⟨g,t,cells,e,sg,s1,s2,s3,s4⟩:=ho
  exact⟨g,t,cells,e,sg,s1,s2,s3,jC h s4⟩
 | vrow n sz cs =>
  obtain⟨g,t,cells,e,sg,s1,s2,s3,s4⟩:=ho
  exact⟨g,t,cells,e,sg,s1,s2,s3,jC h s4⟩
/-! ### Handing aK8 -/
def gin(g:List Nat)(i:Nat):Nat:=g.idxOf i
def z7(g:List Nat)(new i:Nat):Nat:=if i<g.length then g.getD i 0 else new+(i - g.length)
def less(g:List Nat)(h:Nat→Option Obj)(i:Nat):Option Obj:=if g.contains i then none else h i
def aBc(g:List Nat)(h:Nat→Option Obj)(x:AVal):Option AVal :=
 if(cE x).all (fun i=>g.contains i) && !(cE x).isEmpty then some (oX (gin g) x)else aDk h x
def C0(g:List Nat)(h:Nat→Option Obj):List AVal→Option (List AVal)
 | []=>some []
 | x::xs=>match aBc g h x,C0 g h xs with
  | some y,some ys=>some (y::ys)
  | _,_=>none
def lL(g:List Nat)(h:Nat→Option Obj):Nat→List Nat→Option (List (Nat×Obj))
 | _,[]=>some []
 | i,id::r=>match h id with
  | some o=>if(wM o).all (fun j=>g.contains j)then match lL g h (i+1) r with
   | some l=>some ((i,qY (gin g) o)::l)
   | none=>none
   else none
  | none=>none
def U9:List Nat→Bool
 | []=>true
 | x::xs=> !xs.contains x && U9 xs
def M2(g:List Nat)(new:Nat)(hout:List (Nat×Obj)):jJ :=
 g.map (fun i=>(i,none))++hout.map (fun p=>(z7 g new p.1,some (qY (z7 g new) p.2)))
def J1(g:List Nat)(hout:List (Nat×Obj))(r:AVal):Bool :=
 U9 g && U9 (hout.map (·.1)) && kX r && (cE r).all (fun i=>decide (i<g.length+8)) &&
  hout.all (fun p=>aBQ p.2 && decide (p.1<g.length+8) && (wM p.2).all (fun i=>decide (i<g.length+8)))
structure Owns(P:Program)(f:FuncId)(args:List AVal)(hin:List (Nat×Obj))(r:AVal)(hout:List (Nat×Obj)):Prop where
 fn:∃fn,P.funcs[f]? = some fn∧(fn.name == "runtime.NumGoroutine")=false∧fn.body.isNone=false
 calls:∀(Bw:Nat→Prop) (b:Base P) (φ:Nat→Nat→Prop) (vals:Array Value),Mem Bw b b.pin φ (fun i=>dL hin i) b.w →
  VVs (Fr (own φ (fun i=>dL hin i)) Bw b.w) b.pin args vals.toList→(∀i u,b.pin i=some u→i<hin.length) →
  Calls P f vals b.w fun e w'=>∃v ρ' φ',e = .returned v∧Mem Bw b ρ' φ' (fun i=>dL hout i) w'∧V (Fr (own φ' (fun i=>dL hout i)) Bw w') ρ' r v
structure Dies(P:Program)(f:FuncId)(args:List AVal)(hin:List (Nat×Obj))(x:Value):Prop where
 fn:∃fn,P.funcs[f]? = some fn∧(fn.name == "runtime.NumGoroutine")=false∧fn.body.isNone=false
 calls:∀(Bw:Nat→Prop) (b:Base P) (φ:Nat→Nat→Prop) (vals:Array Value),Mem Bw b b.pin φ (fun i=>dL hin i) b.w →
  VVs (Fr (own φ (fun i=>dL hin i)) Bw b.w) b.pin args vals.toList→(∀i u,b.pin i=some u→i<hin.length) →
  Calls P f vals b.w fun e w'=>∃ρ' φ',e = .panicked [{ v:=x,recovered:=false }]∧Mem Bw b ρ' φ' (fun _=>none) w'
def Does(P:Program)(f:FuncId)(args:List AVal)(hin:List (Nat×Obj)):(AVal×List (Nat×Obj))⊕Value→Prop
 | .inl p=>Owns P f args hin p.1 p.2
 | .inr x=>Dies P f args hin x
section
variable{g:List Nat}{h:Nat→Option Obj}
theorem mR:∀ {l:List Nat},U9 l=true→l.Nodup
 | [],_=>List.nodup_nil
 | x::xs,h=>by
  simp only[U9,Bool.and_eq_true,Bool.not_eq_true',List.contains_eq_mem,decide_eq_false_iff_not]at h
  exact List.nodup_cons.2 ⟨h.1,mR h.2⟩
theorem aH8{i:Nat}(hi:i∈g):gin g i<g.length:=List.idxOf_lt_length_of_mem hi
theorem aCZ{i:Nat}(hi:i∈g):g.getD (gin g i) 0=i:=by
 unfold gin
 rw[List.getD_eq_getElem?_getD,List.getElem?_eq_getElem (List.idxOf_lt_length_of_mem hi),List.getElem_idxOf]
 rfl
theorem uC(hn:g.Nodup){i:Nat}(hi:i<g.length):gin g (g.getD i 0)=i:=by
 unfold gin
 have e:g.getD i 0=g[i]:=by simp[List.getD_eq_getElem?_getD,hi]
 rw[e]
 exact List.Nodup.idxOf_getElem hn i hi
theorem mK:∀ {l:List Nat} {i:Nat} {hin:List (Nat×Obj)},lL g h i l=some hin→hin.length=l.length
 | [],_,_,e=>by cases e;rfl
 | id::r,i,hin,e=>by
  simp only[lL]at e
  split at e
  ·split at e
   ·split at e
    ·rename_i l' hl
     cases e
     simp[mK hl]
    ·cases e
   ·cases e
  ·cases e
theorem P6:∀ {l:List Nat} {i:Nat} {hin:List (Nat×Obj)},lL g h i l=some hin→∀ {j:Nat} {o:Obj},dL hin j=some o →
  ∃id o',i≤j∧l[j - i]? = some id∧h id=some o'∧o=qY (gin g) o'∧∀k∈wM o',k∈g
 | [],_,_,e,j,o,hj=>by cases e;cases hj
 | id::r,i,hin,e,j,o,hj=>by
  simp only[lL]at e
  split at e
  ·rename_i o' ho
   split at e
   ·rename_i hall
    split at e
    ·rename_i l' hl
     cases e
     simp only[dL]at hj
     split at hj
     ·rename_i eij
      subst eij
      cases hj
      exact⟨id,o',Nat.le_refl _,by simp,ho,rfl,fun k hk=>by simpa using List.all_eq_true.1 hall k hk⟩
     ·obtain⟨id',o2,q1,q2,q3,q4,q5⟩:=P6 hl hj
      refine⟨id',o2,by omega,?_,q3,q4,q5⟩
      rw[show j - i=(j - (i+1))+1 by omega]
      simpa using q2
    ·cases e
   ·cases e
  ·cases e
theorem R4:∀ {us:jJ} {h:Nat→Option Obj} {i:Nat} {o:Obj},apply us h i=some o→(i,some o)∈us∨(h i=some o∧∀p∈us,p.1≠i)
 | [],h,i,o,e=> .inr ⟨e,fun p hp=>by cases hp⟩
 | (j,x)::us,h,i,o,e=>by
  simp only[apply]at e
  rcases R4 e with q | ⟨q1,q2⟩
  ·exact .inl (List.mem_cons_of_mem _ q)
  ·by_cases eij:i=j
   ·subst eij
    rw[aI]at q1
    subst q1
    exact .inl (List.mem_cons_self ..)
   ·rw[aP _ _ eij]at q1
    refine .inr ⟨q1,fun p hp=> ?_⟩
    rcases List.mem_cons.1 hp with rfl | hp
    ·exact fun e=>eij e.symm
    ·exact q2 p hp
theorem H8:∀ {l:List (Nat×Obj)} {i:Nat} {o:Obj},(l.map (·.1)).Nodup→(i,o)∈l→dL l i=some o
 | (j,x)::r,i,o,hn,hm=>by
  simp only[List.map_cons,List.nodup_cons]at hn
  simp only[dL]
  rcases List.mem_cons.1 hm with e | hm
  ·cases e;rw[if_pos rfl]
  ·rw[if_neg (fun e=>hn.1 (List.mem_map.2 ⟨(i,o),hm,e.symm⟩))]
   exact H8 hn.2 hm
end
end Go.Tv
