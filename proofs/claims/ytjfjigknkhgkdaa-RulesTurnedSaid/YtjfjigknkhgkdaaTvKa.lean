/- Objects' numbers; calls that are handed objects of the caller's own. -/
import Derived.Test.YtjfjigknkhgkdaaTvK
namespace Go.Tv
open Go Go.RowKit
def look{α:Type}:List (Nat×α)→Nat→Option α
 | [],_=>none
 | (k,x)::r,i=>if k=i then some x else look r i
theorem lO{α:Type}:∀ {l:List (Nat×α)} {t:Nat} {x:α},look l t=some x→(t,x)∈l
 | [],_,_,h=>by cases h
 | (k,y)::r,t,x,h=>by
  simp only[look]at h
  split at h
  ·rename_i e;cases h;subst e;simp
  ·exact List.mem_cons_of_mem _ (lO h)
mutual
def cO:AVal→List Nat
 | .sl i=>[i]
 | .mp i=>[i]
 | .adr i _ _ _=>[i]
 | .ada i _ _ _=>[i]
 | .fad _ cs _=>bH cs
 | .agg cs=>bH cs
 | .tup cs=>bH cs
 | .fn _ cs=>bH cs
 | .p _ _ _=>[]
 | .nils=>[]
 | .nilp=>[]
 | .lit _=>[]
 | .unk=>[]
def bH:List AVal→List Nat
 | []=>[]
 | x::xs=>cO x++bH xs
end
theorem dJ{i:Nat}:∀ {xs:List AVal},i∈bH xs↔∃x∈xs,i∈cO x
 | []=>by simp[bH]
 | x::xs=>by simp[bH,dJ (xs:=xs)]
def uF:Obj→List Nat
 | .box cs=>bH cs
 | .mat _ _ _ _ (some (_,id))=>[id]
 | _=>[]
mutual
def nD(f:Nat→Nat):AVal→AVal
 | .sl i=> .sl (f i)
 | .mp i=> .mp (f i)
 | .adr i k sz off=> .adr (f i) k sz off
 | .ada i b n k=> .ada (f i) b n k
 | .fad β cs off=> .fad β (sO f cs) off
 | .agg cs=> .agg (sO f cs)
 | .tup cs=> .tup (sO f cs)
 | .fn g cs=> .fn g (sO f cs)
 | .p β T x=> .p β T x
 | .nils=> .nils
 | .nilp=> .nilp
 | .lit v=> .lit v
 | .unk=> .unk
def sO(f:Nat→Nat):List AVal→List AVal
 | []=>[]
 | x::xs=>nD f x::sO f xs
end
theorem eC(f:Nat→Nat):∀xs:List AVal,(sO f xs).length=xs.length
 | []=>rfl
 | x::xs=>by simp[sO,eC f xs]
def mF(f:Nat→Nat):Obj→Obj
 | .box cs=> .box (sO f cs)
 | .mat e e2 A xss (some (k,id))=> .mat e e2 A xss (some (k,f id))
 | o=>o
mutual
theorem aAP{F:Bool→Addr→Value→Prop}{ρ ρ':Nat→Option Value}{f:Nat→Nat}:∀ {x:AVal} {v:Value},(∀i∈cO x,ρ' i=ρ (f i))→V F ρ (nD f x) v→V F ρ' x v
 | .p _ _ _,_,_,hv=>by simpa only [nD,V]using hv
 | .nils,_,_,hv=>by simpa only [nD,V]using hv
 | .nilp,_,_,hv=>by simpa only [nD,V]using hv
 | .lit _,_,_,hv=>by simpa only [nD,V]using hv
 | .unk,_,_,_=>by simp only[V]
 | .sl i,_,h,hv=>by
  simp only[nD,V]at hv ⊢
  rw[h i (by simp[cO])]
  exact hv
 | .mp i,_,h,hv=>by
  simp only[nD,V]at hv ⊢
  rw[h i (by simp[cO])]
  exact hv
 | .ada i _ _ _,_,h,hv=>by
  simp only[nD,V]at hv ⊢
  rw[h i (by simp[cO])]
  exact hv
 | .adr i _ _ _,_,h,hv=>by
  simp only[nD,V]at hv ⊢
  rw[h i (by simp[cO])]
  exact hv
 | .fad _ cs _,_,h,hv=>by
  simp only[nD,V]at hv ⊢
  obtain⟨ad,e,hl⟩:=hv
  exact⟨ad,e,sR (fun i hi=>h i (by simpa only [cO]using hi)) hl⟩
 | .agg cs,_,h,hv=>by
  simp only[nD,V,eC]at hv ⊢
  obtain⟨vs,e,hs,hl⟩:=hv
  exact⟨vs,e,hs,sR (fun i hi=>h i (by simpa only [cO]using hi)) hl⟩
 | .tup cs,_,h,hv=>by
  simp only[nD,V,eC]at hv ⊢
  obtain⟨vs,e,hs,hl⟩:=hv
  exact⟨vs,e,hs,sR (fun i hi=>h i (by simpa only [cO]using hi)) hl⟩
 | .fn _ cs,_,h,hv=>by
  simp only[nD,V,eC]at hv ⊢
  obtain⟨vs,e,hs,hl⟩:=hv
  exact⟨vs,e,hs,sR (fun i hi=>h i (by simpa only [cO]using hi)) hl⟩
theorem sR{F:Bool→Addr→Value→Prop}{ρ ρ':Nat→Option Value}{f:Nat→Nat}:∀ {xs:List AVal} {g:Nat→Value→Prop},(∀i∈bH xs,ρ' i=ρ (f i))→VL F ρ (sO f xs) g→VL F ρ' xs g
 | [],_,_,_=>by simp only[VL]
 | x::xs,_,h,hv=>by
  simp only[sO,VL]at hv ⊢
  obtain⟨⟨u,q1,q2⟩,q3⟩:=hv
  exact⟨⟨u,q1,aAP (fun i hi=>h i (by simp[bH,hi])) q2⟩,sR (fun i hi=>h i (by simp[bH,hi])) q3⟩
end
def vF(h:Nat→Option Obj)(xs:List AVal):List Nat :=
 bH xs++(bH xs).flatMap fun i=>match h i with
  | some (.box cs)=>bH cs
  | _=>[]
/-! ### The other way round -/
mutual
theorem aBb{F:Bool→Addr→Value→Prop}{ρ ρ':Nat→Option Value}{f:Nat→Nat}:∀ {x:AVal} {v:Value},(∀i∈cO x,ρ' (f i)=ρ i)→V F ρ x v→V F ρ' (nD f x) v
 | .p _ _ _,_,_,hv=>by simpa only [nD,V]using hv
 | .nils,_,_,hv=>by simpa only [nD,V]using hv
 | .nilp,_,_,hv=>by simpa only [nD,V]using hv
 | .lit _,_,_,hv=>by simpa only [nD,V]using hv
 | .unk,_,_,_=>by simp only[nD,V]
 | .sl i,_,h,hv=>by
  simp only[nD,V]at hv ⊢
  rw[h i (by simp[cO])]
  exact hv
 | .mp i,_,h,hv=>by
  simp only[nD,V]at hv ⊢
  rw[h i (by simp[cO])]
  exact hv
 | .ada i _ _ _,_,h,hv=>by
  simp only[nD,V]at hv ⊢
  rw[h i (by simp[cO])]
  exact hv
 | .adr i _ _ _,_,h,hv=>by
  simp only[nD,V]at hv ⊢
  rw[h i (by simp[cO])]
  exact hv
 | .fad _ cs _,_,h,hv=>by
  simp only[nD,V]at hv ⊢
  obtain⟨ad,e,hl⟩:=hv
  exact⟨ad,e,xZ (fun i hi=>h i (by simpa only [cO]using hi)) hl⟩
 | .agg cs,_,h,hv=>by
  simp only[nD,V,eC]at hv ⊢
  obtain⟨vs,e,hs,hl⟩:=hv
  exact⟨vs,e,hs,xZ (fun i hi=>h i (by simpa only [cO]using hi)) hl⟩
 | .tup cs,_,h,hv=>by
  simp only[nD,V,eC]at hv ⊢
  obtain⟨vs,e,hs,hl⟩:=hv
  exact⟨vs,e,hs,xZ (fun i hi=>h i (by simpa only [cO]using hi)) hl⟩
 | .fn _ cs,_,h,hv=>by
  simp only[nD,V,eC]at hv ⊢
  obtain⟨vs,e,hs,hl⟩:=hv
  exact⟨vs,e,hs,xZ (fun i hi=>h i (by simpa only [cO]using hi)) hl⟩
theorem xZ{F:Bool→Addr→Value→Prop}{ρ ρ':Nat→Option Value}{f:Nat→Nat}:∀ {xs:List AVal} {g:Nat→Value→Prop},(∀i∈bH xs,ρ' (f i)=ρ i)→VL F ρ xs g→VL F ρ' (sO f xs) g
 | [],_,_,_=>by simp only[sO,VL]
 | x::xs,_,h,hv=>by
  simp only[sO,VL]at hv ⊢
  obtain⟨⟨u,q1,q2⟩,q3⟩:=hv
  exact⟨⟨u,q1,aBb (fun i hi=>h i (by simp[bH,hi])) q2⟩,xZ (fun i hi=>h i (by simp[bH,hi])) q3⟩
end
theorem Q5{F:Bool→Addr→Value→Prop}{ρ ρ':Nat→Option Value}{S:Nat→Prop}{w:World}{f:Nat→Nat}{e e2:TypeId}{A:Ty}{xss:List (List A.den)}{hole:Option (Nat×Nat)}{u:Value}
  (h:∀k id,hole=some (k,id)→ρ' (f id)=ρ id) (ho:OR F ρ S w (.mat e e2 A xss hole) u):OR F ρ' S w (mF f (.mat e e2 A xss hole)) u:=by
 obtain⟨hs,h0,hk,cells,h1,h2,h3⟩:=ho
 cases hole with
 | none=>exact⟨hs,h0,hk,cells,h1,fun i hi=>(h2 i hi).imp fun v q=>⟨q.1,q.2.1,q.2.2.1,fun id e=>by cases e⟩,h3⟩
 | some p =>
  obtain⟨k,id⟩:=p
  have hsh:∀i,D3 (some (k,f id)) i→D3 (some (k,id)) i:=fun i hh k' id' e=>by cases e;exact hh k (f id) rfl
  refine⟨hs,h0,fun k' id' e=>(by cases e;exact hk k id rfl),cells,h1,fun i hi=> ?_,fun i j vi vj b hij s1 s2=>h3 i j vi vj b hij (hsh i s1) (hsh j s2)⟩
  obtain⟨v,q1,q2,q3,q4⟩:=h2 i hi
  exact⟨v,q1,q2,fun s=>q3 (hsh i s),fun id' e=>by cases e;rw[h k id rfl];exact q4 id rfl⟩
theorem J9{F:Bool→Addr→Value→Prop}{ρ ρ':Nat→Option Value}{S:Nat→Prop}{w:World}{f:Nat→Nat}{e e2:TypeId}{A:Ty}{xss:List (List A.den)}{hole:Option (Nat×Nat)}{u:Value}
  (h:∀k id,hole=some (k,id)→ρ' id=ρ (f id)) (ho:OR F ρ S w (mF f (.mat e e2 A xss hole)) u):OR F ρ' S w (.mat e e2 A xss hole) u:=by
 cases hole with
 | none =>
  obtain⟨hs,h0,hk,cells,h1,h2,h3⟩:=ho
  exact⟨hs,h0,hk,cells,h1,fun i hi=>(h2 i hi).imp fun v q=>⟨q.1,q.2.1,q.2.2.1,fun id e=>by cases e⟩,h3⟩
 | some p =>
  obtain⟨k,id⟩:=p
  obtain⟨hs,h0,hk,cells,h1,h2,h3⟩:=ho
  have hsh:∀i,D3 (some (k,id)) i→D3 (some (k,f id)) i:=fun i hh k' id' e=>by cases e;exact hh k id rfl
  refine⟨hs,h0,fun k' id' e=>(by cases e;exact hk k (f id) rfl),cells,h1,fun i hi=> ?_,fun i j vi vj b hij s1 s2=>h3 i j vi vj b hij (hsh i s1) (hsh j s2)⟩
  obtain⟨v,q1,q2,q3,q4⟩:=h2 i hi
  exact⟨v,q1,q2,fun s=>q3 (hsh i s),fun id' e=>by cases e;rw[h k id rfl];exact q4 (f id) rfl⟩
theorem aAY{F:Bool→Addr→Value→Prop}{ρ ρ':Nat→Option Value}{S:Nat→Prop}{w:World}{f:Nat→Nat}{o:Obj}{u:Value}(h:∀i∈uF o,ρ' (f i)=ρ i)(ho:OR F ρ S w o u):OR F ρ' S w (mF f o) u:=by
 cases o with
 | arr e A xs=>exact ho
 | fz A xs =>
  simp only[mF,OR]at ho ⊢
  exact qG rfl ho
 | box cs =>
  obtain⟨g,t,cells,e,sg,s1,s2,s3⟩:=ho
  exact⟨g,t,cells,e,sg,s1,by rw[s2,eC],xZ (fun i hi=>h i (by simpa only [uF]using hi)) s3⟩
 | mpo K A kv=>exact ho
 | mpl K kv=>exact ho
 | mat e e2 A xss hole=>exact Q5 (fun k id e=>h id (by subst e;simp[uF])) ho
 | bytes e xs=>exact ho
 | cutz A xs =>
  simp only[mF,OR]at ho ⊢
  exact⟨ho.1,qG rfl ho.2⟩
/-! ### What is not rJ -/
mutual
def lE:AVal→Bool
 | .p β T _=> !T.refs || !β
 | .fad β cs _=> !β && kV cs
 | .agg cs=>kV cs
 | .tup cs=>kV cs
 | .fn _ cs=>kV cs
 | .sl _=>true
 | .mp _=>true
 | .adr _ _ _ _=>true
 | .ada _ _ _ _=>true
 | .nils=>true
 | .nilp=>true
 | .lit _=>true
 | .unk=>true
def kV:List AVal→Bool
 | []=>true
 | x::xs=>lE x && kV xs
end
def zV:Obj→Bool
 | .box cs=>kV cs
 | _=>true
mutual
theorem uJ{F:Bool→Addr→Value→Prop}{ρ:Nat→Option Value}:∀ {x:AVal} {v:Value},lE x=true→V F ρ x v→V (fun _=>F false) ρ x v
 | .p β T y,_,h,hv=>by
  simp only[V]at hv ⊢
  refine⟨hv.1,?_⟩
  cases β with
  | false=>exact hv.2
  | true =>
   simp[lE]at h
   exact iX h hv.2
 | .nils,_,_,hv=>by simpa only [V]using hv
 | .nilp,_,_,hv=>by simpa only [V]using hv
 | .lit _,_,_,hv=>by simpa only [V]using hv
 | .unk,_,_,_=>by simp only[V]
 | .sl i,_,_,hv=>by simpa only [V]using hv
 | .mp i,_,_,hv=>by simpa only [V]using hv
 | .adr i _ _ _,_,_,hv=>by simpa only [V]using hv
 | .ada i _ _ _,_,_,hv=>by simpa only [V]using hv
 | .fad β cs _,_,h,hv=>by
  simp only[lE,Bool.and_eq_true,Bool.not_eq_true']at h
  obtain⟨rfl,h⟩:=h
  simp only[V]at hv ⊢
  obtain⟨ad,e,hl⟩:=hv
  exact⟨ad,e,lP h hl⟩
 | .agg cs,_,h,hv=>by
  simp only[lE]at h
  simp only[V]at hv ⊢
  obtain⟨vs,e,hs,hl⟩:=hv
  exact⟨vs,e,hs,lP h hl⟩
 | .tup cs,_,h,hv=>by
  simp only[lE]at h
  simp only[V]at hv ⊢
  obtain⟨vs,e,hs,hl⟩:=hv
  exact⟨vs,e,hs,lP h hl⟩
 | .fn _ cs,_,h,hv=>by
  simp only[lE]at h
  simp only[V]at hv ⊢
  obtain⟨vs,e,hs,hl⟩:=hv
  exact⟨vs,e,hs,lP h hl⟩
theorem lP{F:Bool→Addr→Value→Prop}{ρ:Nat→Option Value}:∀ {xs:List AVal} {g:Nat→Value→Prop},kV xs=true→VL F ρ xs g→VL (fun _=>F false) ρ xs g
 | [],_,_,_=>by simp only[VL]
 | x::xs,_,h,hv=>by
  simp only[kV,Bool.and_eq_true]at h
  simp only[VL]at hv ⊢
  obtain⟨⟨u,q1,q2⟩,q3⟩:=hv
  exact⟨⟨u,q1,uJ h.1 q2⟩,lP h.2 q3⟩
end
theorem X6{F:Bool→Addr→Value→Prop}{ρ:Nat→Option Value}{S:Nat→Prop}{w:World}{o:Obj}{u:Value}(h:zV o=true)(ho:OR F ρ S w o u):OR (fun _=>F false) ρ S w o u:=by
 cases o with
 | arr e A xs=>exact ho
 | fz A xs =>
  simp only[OR]at ho ⊢
  exact uJ (by simp[lE]) ho
 | box cs =>
  obtain⟨g,t,cells,e,sg,s1,s2,s3⟩:=ho
  exact⟨g,t,cells,e,sg,s1,s2,lP h s3⟩
 | mpo K A kv=>exact ho
 | mpl K kv=>exact ho
 | mat e e2 A xss hole=>exact ho
 | bytes e xs=>exact ho
 | cutz A xs =>
  simp only[OR]at ho ⊢
  exact⟨ho.1,uJ (by simp[lE]) ho.2⟩
/-! ### Handing aB1 -/
def gin(g:List Nat)(i:Nat):Nat:=g.idxOf i
def rF(g:List Nat)(new i:Nat):Nat:=if i<g.length then g.getD i 0 else new+(i - g.length)
def less(g:List Nat)(h:Nat→Option Obj)(i:Nat):Option Obj:=if g.contains i then none else h i
def yJ(g:List Nat)(h:Nat→Option Obj)(x:AVal):Option AVal :=
 if(cO x).all (fun i=>g.contains i) && !(cO x).isEmpty then some (nD (gin g) x)else E7 h x
def rX(g:List Nat)(h:Nat→Option Obj):List AVal→Option (List AVal)
 | []=>some []
 | x::xs=>match yJ g h x,rX g h xs with
  | some y,some ys=>some (y::ys)
  | _,_=>none
def jI(g:List Nat)(h:Nat→Option Obj):Nat→List Nat→Option (List (Nat×Obj))
 | _,[]=>some []
 | i,id::r=>match h id with
  | some o=>if(uF o).all (fun j=>g.contains j)then match jI g h (i+1) r with
   | some l=>some ((i,mF (gin g) o)::l)
   | none=>none
   else none
  | none=>none
def uP:List Nat→Bool
 | []=>true
 | x::xs=> !xs.contains x && uP xs
def t8(g:List Nat)(new:Nat)(hout:List (Nat×Obj)):iI :=
 g.map (fun i=>(i,none))++hout.map (fun p=>(rF g new p.1,some (mF (rF g new) p.2)))
def tJ(g:List Nat)(hout:List (Nat×Obj))(r:AVal):Bool :=
 uP g && uP (hout.map (·.1)) && lE r && (cO r).all (fun i=>decide (i<g.length+8)) &&
  hout.all (fun p=>zV p.2 && decide (p.1<g.length+8) && (uF p.2).all (fun i=>decide (i<g.length+8)))
structure Owns(P:Program)(f:FuncId)(args:List AVal)(hin:List (Nat×Obj))(r:AVal)(hout:List (Nat×Obj)):Prop where
 fn:∃fn,P.funcs[f]? = some fn∧(fn.name == "runtime.NumGoroutine")=false∧fn.body.isNone=false
 calls:∀(Bw:Nat→Prop) (b:Base P) (φ:Nat→Nat→Prop) (vals:Array Value),Mem Bw b b.pin φ (fun i=>look hin i) b.w →
  VVs (Fr (own φ (fun i=>look hin i)) Bw b.w) b.pin args vals.toList→(∀i u,b.pin i=some u→i<hin.length) →
  Calls P f vals b.w fun e w'=>∃v ρ' φ',e = .returned v∧Mem Bw b ρ' φ' (fun i=>look hout i) w'∧V (Fr (own φ' (fun i=>look hout i)) Bw w') ρ' r v
structure Dies(P:Program)(f:FuncId)(args:List AVal)(hin:List (Nat×Obj))(x:Value):Prop where
 fn:∃fn,P.funcs[f]? = some fn∧(fn.name == "runtime.NumGoroutine")=false∧fn.body.isNone=false
 calls:∀(Bw:Nat→Prop) (b:Base P) (φ:Nat→Nat→Prop) (vals:Array Value),Mem Bw b b.pin φ (fun i=>look hin i) b.w →
  VVs (Fr (own φ (fun i=>look hin i)) Bw b.w) b.pin args vals.toList→(∀i u,b.pin i=some u→i<hin.length) →
  Calls P f vals b.w fun e w'=>∃ρ' φ',e = .panicked [{ v:=x,recovered:=false }]∧Mem Bw b ρ' φ' (fun _=>none) w'
def Does(P:Program)(f:FuncId)(args:List AVal)(hin:List (Nat×Obj)):(AVal×List (Nat×Obj))⊕Value→Prop
 | .inl p=>Owns P f args hin p.1 p.2
 | .inr x=>Dies P f args hin x
section
variable{g:List Nat}{h:Nat→Option Obj}
theorem j1:∀ {l:List Nat},uP l=true→l.Nodup
 | [],_=>List.nodup_nil
 | x::xs,h=>by
  simp only[uP,Bool.and_eq_true,Bool.not_eq_true',List.contains_eq_mem,decide_eq_false_iff_not]at h
  exact List.nodup_cons.2 ⟨h.1,j1 h.2⟩
theorem V0{i:Nat}(hi:i∈g):gin g i<g.length:=List.idxOf_lt_length_of_mem hi
theorem C6{i:Nat}(hi:i∈g):g.getD (gin g i) 0=i:=by
 unfold gin
 rw[List.getD_eq_getElem?_getD,List.getElem?_eq_getElem (List.idxOf_lt_length_of_mem hi),List.getElem_idxOf]
 rfl
theorem nS(hn:g.Nodup){i:Nat}(hi:i<g.length):gin g (g.getD i 0)=i:=by
 unfold gin
 have e:g.getD i 0=g[i]:=by simp[List.getD_eq_getElem?_getD,hi]
 rw[e]
 exact List.Nodup.idxOf_getElem hn i hi
theorem jY:∀ {l:List Nat} {i:Nat} {hin:List (Nat×Obj)},jI g h i l=some hin→hin.length=l.length
 | [],_,_,e=>by cases e;rfl
 | id::r,i,hin,e=>by
  simp only[jI]at e
  split at e
  ·split at e
   ·split at e
    ·rename_i l' hl
     cases e
     simp[jY hl]
    ·cases e
   ·cases e
  ·cases e
theorem wP:∀ {l:List Nat} {i:Nat} {hin:List (Nat×Obj)},jI g h i l=some hin→∀ {j:Nat} {o:Obj},look hin j=some o →
  ∃id o',i≤j∧l[j - i]? = some id∧h id=some o'∧o=mF (gin g) o'∧∀k∈uF o',k∈g
 | [],_,_,e,j,o,hj=>by cases e;cases hj
 | id::r,i,hin,e,j,o,hj=>by
  simp only[jI]at e
  split at e
  ·rename_i o' ho
   split at e
   ·rename_i hall
    split at e
    ·rename_i l' hl
     cases e
     simp only[look]at hj
     split at hj
     ·rename_i eij
      subst eij
      cases hj
      exact⟨id,o',Nat.le_refl _,by simp,ho,rfl,fun k hk=>by simpa using List.all_eq_true.1 hall k hk⟩
     ·obtain⟨id',o2,q1,q2,q3,q4,q5⟩:=wP hl hj
      refine⟨id',o2,by omega,?_,q3,q4,q5⟩
      rw[show j - i=(j - (i+1))+1 by omega]
      simpa using q2
    ·cases e
   ·cases e
  ·cases e
theorem vP:∀ {us:iI} {h:Nat→Option Obj} {i:Nat} {o:Obj},apply us h i=some o→(i,some o)∈us∨(h i=some o∧∀p∈us,p.1≠i)
 | [],h,i,o,e=> .inr ⟨e,fun p hp=>by cases hp⟩
 | (j,x)::us,h,i,o,e=>by
  simp only[apply]at e
  rcases vP e with q | ⟨q1,q2⟩
  ·exact .inl (List.mem_cons_of_mem _ q)
  ·by_cases eij:i=j
   ·subst eij
    rw[aI]at q1
    subst q1
    exact .inl (List.mem_cons_self ..)
   ·rw[aZ _ _ eij]at q1
    refine .inr ⟨q1,fun p hp=> ?_⟩
    rcases List.mem_cons.1 hp with rfl | hp
    ·exact fun e=>eij e.symm
    ·exact q2 p hp
theorem tH:∀ {l:List (Nat×Obj)} {i:Nat} {o:Obj},(l.map (·.1)).Nodup→(i,o)∈l→look l i=some o
 | (j,x)::r,i,o,hn,hm=>by
  simp only[List.map_cons,List.nodup_cons]at hn
  simp only[look]
  rcases List.mem_cons.1 hm with e | hm
  ·cases e;rw[if_pos rfl]
  ·rw[if_neg (fun e=>hn.1 (List.mem_map.2 ⟨(i,o),hm,e.symm⟩))]
   exact tH hn.2 hm
end
end Go.Tv
