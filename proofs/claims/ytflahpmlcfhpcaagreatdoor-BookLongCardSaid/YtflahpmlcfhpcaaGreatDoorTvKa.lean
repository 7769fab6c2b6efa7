/- Objects' numbers; calls that are handed objects of the caller's own. -/
import Derived.Test.YtflahpmlcfhpcaaGreatDoorTvK
namespace Go.Tv
open Go Go.RowKit
def cK{α:Type}:List (Nat×α)→Nat→Option α
 | [],_=>none
 | (k,x)::r,i=>if k=i then some x else cK r i
theorem mE{α:Type}:∀ {l:List (Nat×α)} {t:Nat} {x:α},cK l t=some x→(t,x)∈l
 | [],_,_,h=>by cases h
 | (k,y)::r,t,x,h=>by
  simp only[cK]at h
  split at h
  ·rename_i e;cases h;subst e;simp
  ·exact List.mem_cons_of_mem _ (mE h)
mutual
def b6:AVal→List Nat
 | .sl i=>[i]
 | .mp i=>[i]
 | .adr i _ _ _=>[i]
 | .ada i _ _ _=>[i]
 | .fad _ cs _=>bH cs
 | .agg cs=>bH cs
 | .tup cs=>bH cs
 | .fn _ cs=>bH cs
 | .p _ _ _=>[]
 | .nils=>[]
 | .nilp=>[]
 | .lit _=>[]
 | .lag _ _ _ cs=>bH cs
 | .loc _ _ _=>[]
 | .suf i _ _=>[i]
 | .bfn _ cs=>bH cs
 | .unk=>[]
def bH:List AVal→List Nat
 | []=>[]
 | x::xs=>b6 x++bH xs
end
theorem cJ{i:Nat}:∀ {xs:List AVal},i∈bH xs↔∃x∈xs,i∈b6 x
 | []=>by simp[bH]
 | x::xs=>by simp[bH,cJ (xs:=xs)]
def qV:Obj→List Nat
 | .box cs=>bH cs
 | .lmp _ _ _ cs=>bH cs
 | .vrow _ _ cs=>bH cs
 | .mat _ _ _ _ (some (_,id))=>[id]
 | _=>[]
mutual
def lG(f:Nat→Nat):AVal→AVal
 | .sl i=> .sl (f i)
 | .mp i=> .mp (f i)
 | .adr i k sz off=> .adr (f i) k sz off
 | .ada i b n k=> .ada (f i) b n k
 | .fad β cs off=> .fad β (p8 f cs) off
 | .agg cs=> .agg (p8 f cs)
 | .tup cs=> .tup (p8 f cs)
 | .fn g cs=> .fn g (p8 f cs)
 | .p β T x=> .p β T x
 | .nils=> .nils
 | .nilp=> .nilp
 | .lit v=> .lit v
 | .lag k n xs cs=> .lag k n xs (p8 f cs)
 | .loc β T x=> .loc β T x
 | .suf i lo sz=> .suf (f i) lo sz
 | .bfn g cs=> .bfn g (p8 f cs)
 | .unk=> .unk
def p8(f:Nat→Nat):List AVal→List AVal
 | []=>[]
 | x::xs=>lG f x::p8 f xs
end
theorem bM(f:Nat→Nat):∀xs:List AVal,(p8 f xs).length=xs.length
 | []=>rfl
 | x::xs=>by simp[p8,bM f xs]
def nU(f:Nat→Nat):Obj→Obj
 | .box cs=> .box (p8 f cs)
 | .lmp k n xs cs=> .lmp k n xs (p8 f cs)
 | .vrow n sz cs=> .vrow n sz (p8 f cs)
 | .mat e e2 A xss (some (k,id))=> .mat e e2 A xss (some (k,f id))
 | o=>o
mutual
theorem aDg{F:Bool→Addr→Value→Prop}{ρ ρ':Nat→Option Value}{f:Nat→Nat}:∀ {x:AVal} {v:Value},(∀i∈b6 x,ρ' i=ρ (f i))→V F ρ (lG f x) v→V F ρ' x v
 | .p _ _ _,_,_,hv=>by simpa only [lG,V]using hv
 | .nils,_,_,hv=>by simpa only [lG,V]using hv
 | .nilp,_,_,hv=>by simpa only [lG,V]using hv
 | .lit _,_,_,hv=>by simpa only [lG,V]using hv
 | .unk,_,_,_=>by simp only[V]
 | .sl i,_,h,hv=>by
  simp only[lG,V]at hv ⊢
  rw[h i (by simp[b6])]
  exact hv
 | .mp i,_,h,hv=>by
  simp only[lG,V]at hv ⊢
  rw[h i (by simp[b6])]
  exact hv
 | .ada i _ _ _,_,h,hv=>by
  simp only[lG,V]at hv ⊢
  rw[h i (by simp[b6])]
  exact hv
 | .adr i _ _ _,_,h,hv=>by
  simp only[lG,V]at hv ⊢
  rw[h i (by simp[b6])]
  exact hv
 | .fad _ cs _,_,h,hv=>by
  simp only[lG,V]at hv ⊢
  obtain⟨ad,e,hl⟩:=hv
  exact⟨ad,e,lY (fun i hi=>h i (by simpa only [b6]using hi)) hl⟩
 | .agg cs,_,h,hv=>by
  simp only[lG,V,bM]at hv ⊢
  obtain⟨vs,e,hs,hl⟩:=hv
  exact⟨vs,e,hs,lY (fun i hi=>h i (by simpa only [b6]using hi)) hl⟩
 | .tup cs,_,h,hv=>by
  simp only[lG,V,bM]at hv ⊢
  obtain⟨vs,e,hs,hl⟩:=hv
  exact⟨vs,e,hs,lY (fun i hi=>h i (by simpa only [b6]using hi)) hl⟩
 | .fn _ cs,_,h,hv=>by
  simp only[lG,V,bM]at hv ⊢
  obtain⟨vs,e,hs,hl⟩:=hv
  exact⟨vs,e,hs,lY (fun i hi=>h i (by simpa only [b6]using hi)) hl⟩
 | .lag _ _ _ cs,_,h,hv=>by
  simp only[lG,V,bM]at hv ⊢
  obtain⟨vs,e,hs,hl⟩:=hv
  exact⟨vs,e,hs,lY (fun i hi=>h i (by simpa only [b6]using hi)) hl⟩
 | .loc _ _ _,_,_,hv=>by simpa only [lG,V]using hv
 | .suf i _ _,_,h,hv=>by
  simp only[lG,V]at hv ⊢
  rw[h i (by simp[b6])]
  exact hv
 | .bfn _ cs,_,h,hv=>by
  simp only[lG,V,bM]at hv ⊢
  obtain⟨vs,e,hs,hl⟩:=hv
  exact⟨vs,e,hs,lY (fun i hi=>h i (by simpa only [b6]using hi)) hl⟩
theorem lY{F:Bool→Addr→Value→Prop}{ρ ρ':Nat→Option Value}{f:Nat→Nat}:∀ {xs:List AVal} {g:Nat→Value→Prop},(∀i∈bH xs,ρ' i=ρ (f i))→VL F ρ (p8 f xs) g→VL F ρ' xs g
 | [],_,_,_=>by simp only[VL]
 | x::xs,_,h,hv=>by
  simp only[p8,VL]at hv ⊢
  obtain⟨⟨u,q1,q2⟩,q3⟩:=hv
  exact⟨⟨u,q1,aDg (fun i hi=>h i (by simp[bH,hi])) q2⟩,lY (fun i hi=>h i (by simp[bH,hi])) q3⟩
end
def zD(h:Nat→Option Obj)(xs:List AVal):List Nat :=
 bH xs++(bH xs).flatMap fun i=>match h i with
  | some (.box cs)=>bH cs
  | _=>[]
/-! ### The other way round -/
mutual
theorem aDI{F:Bool→Addr→Value→Prop}{ρ ρ':Nat→Option Value}{f:Nat→Nat}:∀ {x:AVal} {v:Value},(∀i∈b6 x,ρ' (f i)=ρ i)→V F ρ x v→V F ρ' (lG f x) v
 | .p _ _ _,_,_,hv=>by simpa only [lG,V]using hv
 | .nils,_,_,hv=>by simpa only [lG,V]using hv
 | .nilp,_,_,hv=>by simpa only [lG,V]using hv
 | .lit _,_,_,hv=>by simpa only [lG,V]using hv
 | .unk,_,_,_=>by simp only[lG,V]
 | .sl i,_,h,hv=>by
  simp only[lG,V]at hv ⊢
  rw[h i (by simp[b6])]
  exact hv
 | .mp i,_,h,hv=>by
  simp only[lG,V]at hv ⊢
  rw[h i (by simp[b6])]
  exact hv
 | .ada i _ _ _,_,h,hv=>by
  simp only[lG,V]at hv ⊢
  rw[h i (by simp[b6])]
  exact hv
 | .adr i _ _ _,_,h,hv=>by
  simp only[lG,V]at hv ⊢
  rw[h i (by simp[b6])]
  exact hv
 | .fad _ cs _,_,h,hv=>by
  simp only[lG,V]at hv ⊢
  obtain⟨ad,e,hl⟩:=hv
  exact⟨ad,e,rR (fun i hi=>h i (by simpa only [b6]using hi)) hl⟩
 | .agg cs,_,h,hv=>by
  simp only[lG,V,bM]at hv ⊢
  obtain⟨vs,e,hs,hl⟩:=hv
  exact⟨vs,e,hs,rR (fun i hi=>h i (by simpa only [b6]using hi)) hl⟩
 | .tup cs,_,h,hv=>by
  simp only[lG,V,bM]at hv ⊢
  obtain⟨vs,e,hs,hl⟩:=hv
  exact⟨vs,e,hs,rR (fun i hi=>h i (by simpa only [b6]using hi)) hl⟩
 | .fn _ cs,_,h,hv=>by
  simp only[lG,V,bM]at hv ⊢
  obtain⟨vs,e,hs,hl⟩:=hv
  exact⟨vs,e,hs,rR (fun i hi=>h i (by simpa only [b6]using hi)) hl⟩
 | .lag _ _ _ cs,_,h,hv=>by
  simp only[lG,V,bM]at hv ⊢
  obtain⟨vs,e,hs,hl⟩:=hv
  exact⟨vs,e,hs,rR (fun i hi=>h i (by simpa only [b6]using hi)) hl⟩
 | .loc _ _ _,_,_,hv=>by simpa only [lG,V]using hv
 | .suf i _ _,_,h,hv=>by
  simp only[lG,V]at hv ⊢
  rw[h i (by simp[b6])]
  exact hv
 | .bfn _ cs,_,h,hv=>by
  simp only[lG,V,bM]at hv ⊢
  obtain⟨vs,e,hs,hl⟩:=hv
  exact⟨vs,e,hs,rR (fun i hi=>h i (by simpa only [b6]using hi)) hl⟩
theorem rR{F:Bool→Addr→Value→Prop}{ρ ρ':Nat→Option Value}{f:Nat→Nat}:∀ {xs:List AVal} {g:Nat→Value→Prop},(∀i∈bH xs,ρ' (f i)=ρ i)→VL F ρ xs g→VL F ρ' (p8 f xs) g
 | [],_,_,_=>by simp only[p8,VL]
 | x::xs,_,h,hv=>by
  simp only[p8,VL]at hv ⊢
  obtain⟨⟨u,q1,q2⟩,q3⟩:=hv
  exact⟨⟨u,q1,aDI (fun i hi=>h i (by simp[bH,hi])) q2⟩,rR (fun i hi=>h i (by simp[bH,hi])) q3⟩
end
theorem aA0{F:Bool→Addr→Value→Prop}{ρ ρ':Nat→Option Value}{S:Nat→Prop}{w:World}{f:Nat→Nat}{e e2:TypeId}{A:Ty}{xss:List (List A.den)}{hole:Option (Nat×Nat)}{u:Value}
  (h:∀k id,hole=some (k,id)→ρ' (f id)=ρ id) (ho:OR F ρ S w (.mat e e2 A xss hole) u):OR F ρ' S w (nU f (.mat e e2 A xss hole)) u:=by
 obtain⟨hs,h0,hk,cells,h1,h2,h3⟩:=ho
 cases hole with
 | none=>exact⟨hs,h0,hk,cells,h1,fun i hi=>(h2 i hi).imp fun v q=>⟨q.1,q.2.1,q.2.2.1,fun id e=>by cases e⟩,h3⟩
 | some p =>
  obtain⟨k,id⟩:=p
  have hsh:∀i,O1 (some (k,f id)) i→O1 (some (k,id)) i:=fun i hh k' id' e=>by cases e;exact hh k (f id) rfl
  refine⟨hs,h0,fun k' id' e=>(by cases e;exact hk k id rfl),cells,h1,fun i hi=> ?_,fun i j vi vj b hij s1 s2=>h3 i j vi vj b hij (hsh i s1) (hsh j s2)⟩
  obtain⟨v,q1,q2,q3,q4⟩:=h2 i hi
  exact⟨v,q1,q2,fun s=>q3 (hsh i s),fun id' e=>by cases e;rw[h k id rfl];exact q4 id rfl⟩
theorem W5{F:Bool→Addr→Value→Prop}{ρ ρ':Nat→Option Value}{S:Nat→Prop}{w:World}{f:Nat→Nat}{e e2:TypeId}{A:Ty}{xss:List (List A.den)}{hole:Option (Nat×Nat)}{u:Value}
  (h:∀k id,hole=some (k,id)→ρ' id=ρ (f id)) (ho:OR F ρ S w (nU f (.mat e e2 A xss hole)) u):OR F ρ' S w (.mat e e2 A xss hole) u:=by
 cases hole with
 | none =>
  obtain⟨hs,h0,hk,cells,h1,h2,h3⟩:=ho
  exact⟨hs,h0,hk,cells,h1,fun i hi=>(h2 i hi).imp fun v q=>⟨q.1,q.2.1,q.2.2.1,fun id e=>by cases e⟩,h3⟩
 | some p =>
  obtain⟨k,id⟩:=p
  obtain⟨hs,h0,hk,cells,h1,h2,h3⟩:=ho
  have hsh:∀i,O1 (some (k,id)) i→O1 (some (k,f id)) i:=fun i hh k' id' e=>by cases e;exact hh k id rfl
  refine⟨hs,h0,fun k' id' e=>(by cases e;exact hk k (f id) rfl),cells,h1,fun i hi=> ?_,fun i j vi vj b hij s1 s2=>h3 i j vi vj b hij (hsh i s1) (hsh j s2)⟩
  obtain⟨v,q1,q2,q3,q4⟩:=h2 i hi
  exact⟨v,q1,q2,fun s=>q3 (hsh i s),fun id' e=>by cases e;rw[h k id rfl];exact q4 (f id) rfl⟩
theorem aDp{F:Bool→Addr→Value→Prop}{ρ ρ':Nat→Option Value}{S:Nat→Prop}{w:World}{f:Nat→Nat}{o:Obj}{u:Value}(h:∀i∈qV o,ρ' (f i)=ρ i)(ho:OR F ρ S w o u):OR F ρ' S w (nU f o) u:=by
 cases o with
 | arr e A xs=>exact ho
 | fz A xs =>
  simp only[nU,OR]at ho ⊢
  exact sD rfl ho
 | box cs =>
  obtain⟨g,t,cells,e,sg,s1,s2,s3⟩:=ho
  exact⟨g,t,cells,e,sg,s1,by rw[s2,bM],rR (fun i hi=>h i (by simpa only [qV]using hi)) s3⟩
 | mpo K A kv=>exact ho
 | mpl K kv=>exact ho
 | mat e e2 A xss hole=>exact aA0 (fun k id e=>h id (by subst e;simp[qV])) ho
 | bytes e xs=>exact ho
 | cutz A xs =>
  simp only[nU,OR]at ho ⊢
  exact⟨ho.1,sD rfl ho.2⟩
 | lmp k n xs cs =>
  obtain⟨g,t,cells,e,sg,s1,s2,s3,s4⟩:=ho
  exact⟨g,t,cells,e,sg,s1,by rw[s2,bM],s3,rR (fun i hi=>h i (by simpa only [qV]using hi)) s4⟩
 | vrow n sz cs =>
  obtain⟨g,t,cells,e,sg,s1,s2,s3,s4⟩:=ho
  exact⟨g,t,cells,e,sg,s1,by rw[s2,bM],by rw[bM];exact s3,rR (fun i hi=>h i (by simpa only [qV]using hi)) s4⟩
/-! ### What is not qT -/
mutual
def iD:AVal→Bool
 | .p β T _=> !T.refs || !β
 | .fad β cs _=> !β && gF cs
 | .agg cs=>gF cs
 | .tup cs=>gF cs
 | .fn _ cs=>gF cs
 | .sl _=>true
 | .mp _=>true
 | .adr _ _ _ _=>true
 | .ada _ _ _ _=>true
 | .nils=>true
 | .nilp=>true
 | .lit _=>true
 | .lag _ _ _ cs=>gF cs
 | .loc β _ _=> !β
 | .suf _ _ _=>true
 | .bfn _ cs=>gF cs
 | .unk=>true
def gF:List AVal→Bool
 | []=>true
 | x::xs=>iD x && gF xs
end
def G2:Obj→Bool
 | .box cs=>gF cs
 | .lmp _ _ _ cs=>gF cs
 | .vrow _ _ cs=>gF cs
 | _=>true
mutual
theorem w7{F:Bool→Addr→Value→Prop}{ρ:Nat→Option Value}:∀ {x:AVal} {v:Value},iD x=true→V F ρ x v→V (fun _=>F false) ρ x v
 | .p β T y,_,h,hv=>by
  simp only[V]at hv ⊢
  refine⟨hv.1,?_⟩
  cases β with
  | false=>exact hv.2
  | true =>
   simp[iD]at h
   exact iO h hv.2
 | .nils,_,_,hv=>by simpa only [V]using hv
 | .nilp,_,_,hv=>by simpa only [V]using hv
 | .lit _,_,_,hv=>by simpa only [V]using hv
 | .unk,_,_,_=>by simp only[V]
 | .sl i,_,_,hv=>by simpa only [V]using hv
 | .mp i,_,_,hv=>by simpa only [V]using hv
 | .adr i _ _ _,_,_,hv=>by simpa only [V]using hv
 | .ada i _ _ _,_,_,hv=>by simpa only [V]using hv
 | .fad β cs _,_,h,hv=>by
  simp only[iD,Bool.and_eq_true,Bool.not_eq_true']at h
  obtain⟨rfl,h⟩:=h
  simp only[V]at hv ⊢
  obtain⟨ad,e,hl⟩:=hv
  exact⟨ad,e,gD h hl⟩
 | .agg cs,_,h,hv=>by
  simp only[iD]at h
  simp only[V]at hv ⊢
  obtain⟨vs,e,hs,hl⟩:=hv
  exact⟨vs,e,hs,gD h hl⟩
 | .tup cs,_,h,hv=>by
  simp only[iD]at h
  simp only[V]at hv ⊢
  obtain⟨vs,e,hs,hl⟩:=hv
  exact⟨vs,e,hs,gD h hl⟩
 | .fn _ cs,_,h,hv=>by
  simp only[iD]at h
  simp only[V]at hv ⊢
  obtain⟨vs,e,hs,hl⟩:=hv
  exact⟨vs,e,hs,gD h hl⟩
 | .lag _ _ _ cs,_,h,hv=>by
  simp only[iD]at h
  simp only[V]at hv ⊢
  obtain⟨vs,e,hs,hl⟩:=hv
  exact⟨vs,e,hs,gD h hl⟩
 | .loc β _ _,_,h,hv=>by
  simp only[iD,Bool.not_eq_true']at h
  subst h
  simpa only [V]using hv
 | .suf _ _ _,_,_,hv=>by simpa only [V]using hv
 | .bfn _ cs,_,h,hv=>by
  simp only[iD]at h
  simp only[V]at hv ⊢
  obtain⟨vs,e,hs,hl⟩:=hv
  exact⟨vs,e,hs,gD h hl⟩
theorem gD{F:Bool→Addr→Value→Prop}{ρ:Nat→Option Value}:∀ {xs:List AVal} {g:Nat→Value→Prop},gF xs=true→VL F ρ xs g→VL (fun _=>F false) ρ xs g
 | [],_,_,_=>by simp only[VL]
 | x::xs,_,h,hv=>by
  simp only[gF,Bool.and_eq_true]at h
  simp only[VL]at hv ⊢
  obtain⟨⟨u,q1,q2⟩,q3⟩:=hv
  exact⟨⟨u,q1,w7 h.1 q2⟩,gD h.2 q3⟩
end
theorem aBJ{F:Bool→Addr→Value→Prop}{ρ:Nat→Option Value}{S:Nat→Prop}{w:World}{o:Obj}{u:Value}(h:G2 o=true)(ho:OR F ρ S w o u):OR (fun _=>F false) ρ S w o u:=by
 cases o with
 | arr e A xs=>exact ho
 | fz A xs =>
  simp only[OR]at ho ⊢
  exact w7 (by simp[iD]) ho
 | box cs =>
  obtain⟨g,t,cells,e,sg,s1,s2,s3⟩:=ho
  exact⟨g,t,cells,e,sg,s1,s2,gD h s3⟩
 | mpo K A kv=>exact ho
 | mpl K kv=>exact ho
 | mat e e2 A xss hole=>exact ho
 | bytes e xs=>exact ho
 | cutz A xs =>
  simp only[OR]at ho ⊢
  exact⟨ho.1,w7 (by simp[iD]) ho.2⟩
 | lmp k n xs cs =>
  obtain⟨g,t,cells,e,sg,s1,s2,s3,s4⟩:=ho
  exact⟨g,t,cells,e,sg,s1,s2,s3,gD h s4⟩
 | vrow n sz cs =>
  obtain⟨g,t,cells,e,sg,s1,s2,s3,s4⟩:=ho
  exact⟨g,t,cells,e,sg,s1,s2,s3,gD h s4⟩
/-! ### Handing aEr -/
def gin(g:List Nat)(i:Nat):Nat:=g.idxOf i
def tX(g:List Nat)(new i:Nat):Nat:=if i<g.length then g.getD i 0 else new+(i - g.length)
def less(g:List Nat)(h:Nat→Option Obj)(i:Nat):Option Obj:=if g.contains i then none else h i
def D3(g:List Nat)(h:Nat→Option Obj)(x:AVal):Option AVal :=
 if(b6 x).all (fun i=>g.contains i) && !(b6 x).isEmpty then some (lG (gin g) x)else M3 h x
def t4(g:List Nat)(h:Nat→Option Obj):List AVal→Option (List AVal)
 | []=>some []
 | x::xs=>match D3 g h x,t4 g h xs with
  | some y,some ys=>some (y::ys)
  | _,_=>none
def i7(g:List Nat)(h:Nat→Option Obj):Nat→List Nat→Option (List (Nat×Obj))
 | _,[]=>some []
 | i,id::r=>match h id with
  | some o=>if(qV o).all (fun j=>g.contains j)then match i7 g h (i+1) r with
   | some l=>some ((i,nU (gin g) o)::l)
   | none=>none
   else none
  | none=>none
def zH:List Nat→Bool
 | []=>true
 | x::xs=> !xs.contains x && zH xs
def wY(g:List Nat)(new:Nat)(hout:List (Nat×Obj)):gR :=
 g.map (fun i=>(i,none))++hout.map (fun p=>(tX g new p.1,some (nU (tX g new) p.2)))
def wF(g:List Nat)(hout:List (Nat×Obj))(r:AVal):Bool :=
 zH g && zH (hout.map (·.1)) && iD r && (b6 r).all (fun i=>decide (i<g.length+8)) &&
  hout.all (fun p=>G2 p.2 && decide (p.1<g.length+8) && (qV p.2).all (fun i=>decide (i<g.length+8)))
structure Owns(P:Program)(f:FuncId)(args:List AVal)(hin:List (Nat×Obj))(r:AVal)(hout:List (Nat×Obj)):Prop where
 fn:∃fn,P.funcs[f]? = some fn∧(fn.name == "runtime.NumGoroutine")=false∧fn.body.isNone=false
 calls:∀(Bw:Nat→Prop) (b:Base P) (φ:Nat→Nat→Prop) (vals:Array Value),Mem Bw b b.pin φ (fun i=>cK hin i) b.w →
  VVs (Fr (own φ (fun i=>cK hin i)) Bw b.w) b.pin args vals.toList→(∀i u,b.pin i=some u→i<hin.length) →
  Calls P f vals b.w fun e w'=>∃v ρ' φ',e = .returned v∧Mem Bw b ρ' φ' (fun i=>cK hout i) w'∧V (Fr (own φ' (fun i=>cK hout i)) Bw w') ρ' r v
structure Dies(P:Program)(f:FuncId)(args:List AVal)(hin:List (Nat×Obj))(x:Value):Prop where
 fn:∃fn,P.funcs[f]? = some fn∧(fn.name == "runtime.NumGoroutine")=false∧fn.body.isNone=false
 calls:∀(Bw:Nat→Prop) (b:Base P) (φ:Nat→Nat→Prop) (vals:Array Value),Mem Bw b b.pin φ (fun i=>cK hin i) b.w →
  VVs (Fr (own φ (fun i=>cK hin i)) Bw b.w) b.pin args vals.toList→(∀i u,b.pin i=some u→i<hin.length) →
  Calls P f vals b.w fun e w'=>∃ρ' φ',e = .panicked [{ v:=x,recovered:=false }]∧Mem Bw b ρ' φ' (fun _=>none) w'
def Does(P:Program)(f:FuncId)(args:List AVal)(hin:List (Nat×Obj)):(AVal×List (Nat×Obj))⊕Value→Prop
 | .inl p=>Owns P f args hin p.1 p.2
 | .inr x=>Dies P f args hin x
section
variable{g:List Nat}{h:Nat→Option Obj}
theorem j7:∀ {l:List Nat},zH l=true→l.Nodup
 | [],_=>List.nodup_nil
 | x::xs,h=>by
  simp only[zH,Bool.and_eq_true,Bool.not_eq_true',List.contains_eq_mem,decide_eq_false_iff_not]at h
  exact List.nodup_cons.2 ⟨h.1,j7 h.2⟩
theorem aBK{i:Nat}(hi:i∈g):gin g i<g.length:=List.idxOf_lt_length_of_mem hi
theorem N4{i:Nat}(hi:i∈g):g.getD (gin g i) 0=i:=by
 unfold gin
 rw[List.getD_eq_getElem?_getD,List.getElem?_eq_getElem (List.idxOf_lt_length_of_mem hi),List.getElem_idxOf]
 rfl
theorem qC(hn:g.Nodup){i:Nat}(hi:i<g.length):gin g (g.getD i 0)=i:=by
 unfold gin
 have e:g.getD i 0=g[i]:=by simp[List.getD_eq_getElem?_getD,hi]
 rw[e]
 exact List.Nodup.idxOf_getElem hn i hi
theorem jW:∀ {l:List Nat} {i:Nat} {hin:List (Nat×Obj)},i7 g h i l=some hin→hin.length=l.length
 | [],_,_,e=>by cases e;rfl
 | id::r,i,hin,e=>by
  simp only[i7]at e
  split at e
  ·split at e
   ·split at e
    ·rename_i l' hl
     cases e
     simp[jW hl]
    ·cases e
   ·cases e
  ·cases e
theorem yL:∀ {l:List Nat} {i:Nat} {hin:List (Nat×Obj)},i7 g h i l=some hin→∀ {j:Nat} {o:Obj},cK hin j=some o →
  ∃id o',i≤j∧l[j - i]? = some id∧h id=some o'∧o=nU (gin g) o'∧∀k∈qV o',k∈g
 | [],_,_,e,j,o,hj=>by cases e;cases hj
 | id::r,i,hin,e,j,o,hj=>by
  simp only[i7]at e
  split at e
  ·rename_i o' ho
   split at e
   ·rename_i hall
    split at e
    ·rename_i l' hl
     cases e
     simp only[cK]at hj
     split at hj
     ·rename_i eij
      subst eij
      cases hj
      exact⟨id,o',Nat.le_refl _,by simp,ho,rfl,fun k hk=>by simpa using List.all_eq_true.1 hall k hk⟩
     ·obtain⟨id',o2,q1,q2,q3,q4,q5⟩:=yL hl hj
      refine⟨id',o2,by omega,?_,q3,q4,q5⟩
      rw[show j - i=(j - (i+1))+1 by omega]
      simpa using q2
    ·cases e
   ·cases e
  ·cases e
theorem xZ:∀ {us:gR} {h:Nat→Option Obj} {i:Nat} {o:Obj},apply us h i=some o→(i,some o)∈us∨(h i=some o∧∀p∈us,p.1≠i)
 | [],h,i,o,e=> .inr ⟨e,fun p hp=>by cases hp⟩
 | (j,x)::us,h,i,o,e=>by
  simp only[apply]at e
  rcases xZ e with q | ⟨q1,q2⟩
  ·exact .inl (List.mem_cons_of_mem _ q)
  ·by_cases eij:i=j
   ·subst eij
    rw[aP]at q1
    subst q1
    exact .inl (List.mem_cons_self ..)
   ·rw[bB _ _ eij]at q1
    refine .inr ⟨q1,fun p hp=> ?_⟩
    rcases List.mem_cons.1 hp with rfl | hp
    ·exact fun e=>eij e.symm
    ·exact q2 p hp
theorem vO:∀ {l:List (Nat×Obj)} {i:Nat} {o:Obj},(l.map (·.1)).Nodup→(i,o)∈l→cK l i=some o
 | (j,x)::r,i,o,hn,hm=>by
  simp only[List.map_cons,List.nodup_cons]at hn
  simp only[cK]
  rcases List.mem_cons.1 hm with e | hm
  ·cases e;rw[if_pos rfl]
  ·rw[if_neg (fun e=>hn.1 (List.mem_map.2 ⟨(i,o),hm,e.symm⟩))]
   exact vO hn.2 hm
end
end Go.Tv
