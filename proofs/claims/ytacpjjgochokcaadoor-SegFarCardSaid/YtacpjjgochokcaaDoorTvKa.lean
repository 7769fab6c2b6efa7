/- Objects' numbers; calls that are handed objects of the caller's own. -/
import Derived.Test.YtacpjjgochokcaaDoorTvK
namespace Go.Tv
open Go Go.RowKit
def look{α:Type}:List (Nat×α)→Nat→Option α
 | [],_=>none
 | (k,x)::r,i=>if k=i then some x else look r i
theorem lH{α:Type}:∀ {l:List (Nat×α)} {t:Nat} {x:α},look l t=some x→(t,x)∈l
 | [],_,_,h=>by cases h
 | (k,y)::r,t,x,h=>by
  simp only[look]at h
  split at h
  ·rename_i e;cases h;subst e;simp
  ·exact List.mem_cons_of_mem _ (lH h)
mutual
def cC:AVal→List Nat
 | .sl i=>[i]
 | .mp i=>[i]
 | .adr i _ _ _=>[i]
 | .ada i _ _ _=>[i]
 | .fad _ cs _=>bC cs
 | .agg cs=>bC cs
 | .tup cs=>bC cs
 | .fn _ cs=>bC cs
 | .p _ _ _=>[]
 | .nils=>[]
 | .nilp=>[]
 | .lit _=>[]
 | .unk=>[]
def bC:List AVal→List Nat
 | []=>[]
 | x::xs=>cC x++bC xs
end
theorem dC{i:Nat}:∀ {xs:List AVal},i∈bC xs↔∃x∈xs,i∈cC x
 | []=>by simp[bC]
 | x::xs=>by simp[bC,dC (xs:=xs)]
def tX:Obj→List Nat
 | .box cs=>bC cs
 | .mat _ _ _ _ (some (_,id))=>[id]
 | _=>[]
mutual
def mM(f:Nat→Nat):AVal→AVal
 | .sl i=> .sl (f i)
 | .mp i=> .mp (f i)
 | .adr i k sz off=> .adr (f i) k sz off
 | .ada i b n k=> .ada (f i) b n k
 | .fad β cs off=> .fad β (rW f cs) off
 | .agg cs=> .agg (rW f cs)
 | .tup cs=> .tup (rW f cs)
 | .fn g cs=> .fn g (rW f cs)
 | .p β T x=> .p β T x
 | .nils=> .nils
 | .nilp=> .nilp
 | .lit v=> .lit v
 | .unk=> .unk
def rW(f:Nat→Nat):List AVal→List AVal
 | []=>[]
 | x::xs=>mM f x::rW f xs
end
theorem dR(f:Nat→Nat):∀xs:List AVal,(rW f xs).length=xs.length
 | []=>rfl
 | x::xs=>by simp[rW,dR f xs]
def nB(f:Nat→Nat):Obj→Obj
 | .box cs=> .box (rW f cs)
 | .mat e e2 A xss (some (k,id))=> .mat e e2 A xss (some (k,f id))
 | o=>o
mutual
theorem aBM{F:Bool→Addr→Value→Prop}{ρ ρ':Nat→Option Value}{f:Nat→Nat}:∀ {x:AVal} {v:Value},(∀i∈cC x,ρ' i=ρ (f i))→V F ρ (mM f x) v→V F ρ' x v
 | .p _ _ _,_,_,hv=>by simpa only [mM,V]using hv
 | .nils,_,_,hv=>by simpa only [mM,V]using hv
 | .nilp,_,_,hv=>by simpa only [mM,V]using hv
 | .lit _,_,_,hv=>by simpa only [mM,V]using hv
 | .unk,_,_,_=>by simp only[V]
 | .sl i,_,h,hv=>by
  simp only[mM,V]at hv ⊢
  rw[h i (by simp[cC])]
  exact hv
 | .mp i,_,h,hv=>by
  simp only[mM,V]at hv ⊢
  rw[h i (by simp[cC])]
  exact hv
 | .ada i _ _ _,_,h,hv=>by
  simp only[mM,V]at hv ⊢
  rw[h i (by simp[cC])]
  exact hv
 | .adr i _ _ _,_,h,hv=>by
  simp only[mM,V]at hv ⊢
  rw[h i (by simp[cC])]
  exact hv
 | .fad _ cs _,_,h,hv=>by
  simp only[mM,V]at hv ⊢
  obtain⟨ad,e,hl⟩:=hv
  exact⟨ad,e,rY (fun i hi=>h i (by simpa only [cC]using hi)) hl⟩
 | .agg cs,_,h,hv=>by
  simp only[mM,V,dR]at hv ⊢
  obtain⟨vs,e,hs,hl⟩:=hv
  exact⟨vs,e,hs,rY (fun i hi=>h i (by simpa only [cC]using hi)) hl⟩
 | .tup cs,_,h,hv=>by
  simp only[mM,V,dR]at hv ⊢
  obtain⟨vs,e,hs,hl⟩:=hv
  exact⟨vs,e,hs,rY (fun i hi=>h i (by simpa only [cC]using hi)) hl⟩
 | .fn _ cs,_,h,hv=>by
  simp only[mM,V,dR]at hv ⊢
  obtain⟨vs,e,hs,hl⟩:=hv
  exact⟨vs,e,hs,rY (fun i hi=>h i (by simpa only [cC]using hi)) hl⟩
theorem rY{F:Bool→Addr→Value→Prop}{ρ ρ':Nat→Option Value}{f:Nat→Nat}:∀ {xs:List AVal} {g:Nat→Value→Prop},(∀i∈bC xs,ρ' i=ρ (f i))→VL F ρ (rW f xs) g→VL F ρ' xs g
 | [],_,_,_=>by simp only[VL]
 | x::xs,_,h,hv=>by
  simp only[rW,VL]at hv ⊢
  obtain⟨⟨u,q1,q2⟩,q3⟩:=hv
  exact⟨⟨u,q1,aBM (fun i hi=>h i (by simp[bC,hi])) q2⟩,rY (fun i hi=>h i (by simp[bC,hi])) q3⟩
end
def vN(h:Nat→Option Obj)(xs:List AVal):List Nat :=
 bC xs++(bC xs).flatMap fun i=>match h i with
  | some (.box cs)=>bC cs
  | _=>[]
/-! ### The other way round -/
mutual
theorem aB0{F:Bool→Addr→Value→Prop}{ρ ρ':Nat→Option Value}{f:Nat→Nat}:∀ {x:AVal} {v:Value},(∀i∈cC x,ρ' (f i)=ρ i)→V F ρ x v→V F ρ' (mM f x) v
 | .p _ _ _,_,_,hv=>by simpa only [mM,V]using hv
 | .nils,_,_,hv=>by simpa only [mM,V]using hv
 | .nilp,_,_,hv=>by simpa only [mM,V]using hv
 | .lit _,_,_,hv=>by simpa only [mM,V]using hv
 | .unk,_,_,_=>by simp only[mM,V]
 | .sl i,_,h,hv=>by
  simp only[mM,V]at hv ⊢
  rw[h i (by simp[cC])]
  exact hv
 | .mp i,_,h,hv=>by
  simp only[mM,V]at hv ⊢
  rw[h i (by simp[cC])]
  exact hv
 | .ada i _ _ _,_,h,hv=>by
  simp only[mM,V]at hv ⊢
  rw[h i (by simp[cC])]
  exact hv
 | .adr i _ _ _,_,h,hv=>by
  simp only[mM,V]at hv ⊢
  rw[h i (by simp[cC])]
  exact hv
 | .fad _ cs _,_,h,hv=>by
  simp only[mM,V]at hv ⊢
  obtain⟨ad,e,hl⟩:=hv
  exact⟨ad,e,x8 (fun i hi=>h i (by simpa only [cC]using hi)) hl⟩
 | .agg cs,_,h,hv=>by
  simp only[mM,V,dR]at hv ⊢
  obtain⟨vs,e,hs,hl⟩:=hv
  exact⟨vs,e,hs,x8 (fun i hi=>h i (by simpa only [cC]using hi)) hl⟩
 | .tup cs,_,h,hv=>by
  simp only[mM,V,dR]at hv ⊢
  obtain⟨vs,e,hs,hl⟩:=hv
  exact⟨vs,e,hs,x8 (fun i hi=>h i (by simpa only [cC]using hi)) hl⟩
 | .fn _ cs,_,h,hv=>by
  simp only[mM,V,dR]at hv ⊢
  obtain⟨vs,e,hs,hl⟩:=hv
  exact⟨vs,e,hs,x8 (fun i hi=>h i (by simpa only [cC]using hi)) hl⟩
theorem x8{F:Bool→Addr→Value→Prop}{ρ ρ':Nat→Option Value}{f:Nat→Nat}:∀ {xs:List AVal} {g:Nat→Value→Prop},(∀i∈bC xs,ρ' (f i)=ρ i)→VL F ρ xs g→VL F ρ' (rW f xs) g
 | [],_,_,_=>by simp only[rW,VL]
 | x::xs,_,h,hv=>by
  simp only[rW,VL]at hv ⊢
  obtain⟨⟨u,q1,q2⟩,q3⟩:=hv
  exact⟨⟨u,q1,aB0 (fun i hi=>h i (by simp[bC,hi])) q2⟩,x8 (fun i hi=>h i (by simp[bC,hi])) q3⟩
end
theorem R9{F:Bool→Addr→Value→Prop}{ρ ρ':Nat→Option Value}{S:Nat→Prop}{w:World}{f:Nat→Nat}{e e2:TypeId}{A:Ty}{xss:List (List A.den)}{hole:Option (Nat×Nat)}{u:Value}
  (h:∀k id,hole=some (k,id)→ρ' (f id)=ρ id) (ho:OR F ρ S w (.mat e e2 A xss hole) u):OR F ρ' S w (nB f (.mat e e2 A xss hole)) u:=by
 obtain⟨hs,h0,hk,cells,h1,h2,h3⟩:=ho
 cases hole with
 | none=>exact⟨hs,h0,hk,cells,h1,fun i hi=>(h2 i hi).imp fun v q=>⟨q.1,q.2.1,q.2.2.1,fun id e=>by cases e⟩,h3⟩
 | some p =>
  obtain⟨k,id⟩:=p
  have hsh:∀i,C0 (some (k,f id)) i→C0 (some (k,id)) i:=fun i hh k' id' e=>by cases e;exact hh k (f id) rfl
  refine⟨hs,h0,fun k' id' e=>(by cases e;exact hk k id rfl),cells,h1,fun i hi=> ?_,fun i j vi vj b hij s1 s2=>h3 i j vi vj b hij (hsh i s1) (hsh j s2)⟩
  obtain⟨v,q1,q2,q3,q4⟩:=h2 i hi
  exact⟨v,q1,q2,fun s=>q3 (hsh i s),fun id' e=>by cases e;rw[h k id rfl];exact q4 id rfl⟩
theorem H5{F:Bool→Addr→Value→Prop}{ρ ρ':Nat→Option Value}{S:Nat→Prop}{w:World}{f:Nat→Nat}{e e2:TypeId}{A:Ty}{xss:List (List A.den)}{hole:Option (Nat×Nat)}{u:Value}
  (h:∀k id,hole=some (k,id)→ρ' id=ρ (f id)) (ho:OR F ρ S w (nB f (.mat e e2 A xss hole)) u):OR F ρ' S w (.mat e e2 A xss hole) u:=by
 cases hole with
 | none =>
  obtain⟨hs,h0,hk,cells,h1,h2,h3⟩:=ho
  exact⟨hs,h0,hk,cells,h1,fun i hi=>(h2 i hi).imp fun v q=>⟨q.1,q.2.1,q.2.2.1,fun id e=>by cases e⟩,h3⟩
 | some p =>
  obtain⟨k,id⟩:=p
  obtain⟨hs,h0,hk,cells,h1,h2,h3⟩:=ho
  have hsh:∀i,C0 (some (k,id)) i→C0 (some (k,f id)) i:=fun i hh k' id' e=>by cases e;exact hh k id rfl
  refine⟨hs,h0,fun k' id' e=>(by cases e;exact hk k (f id) rfl),cells,h1,fun i hi=> ?_,fun i j vi vj b hij s1 s2=>h3 i j vi vj b hij (hsh i s1) (hsh j s2)⟩
  obtain⟨v,q1,q2,q3,q4⟩:=h2 i hi
  exact⟨v,q1,q2,fun s=>q3 (hsh i s),fun id' e=>by cases e;rw[h k id rfl];exact q4 (f id) rfl⟩
theorem aBL{F:Bool→Addr→Value→Prop}{ρ ρ':Nat→Option Value}{S:Nat→Prop}{w:World}{f:Nat→Nat}{o:Obj}{u:Value}(h:∀i∈tX o,ρ' (f i)=ρ i)(ho:OR F ρ S w o u):OR F ρ' S w (nB f o) u:=by
 cases o with
 | arr e A xs=>exact ho
 | fz A xs =>
  simp only[nB,OR]at ho ⊢
  exact vF rfl ho
 | box cs =>
  obtain⟨g,t,cells,e,sg,s1,s2,s3⟩:=ho
  exact⟨g,t,cells,e,sg,s1,by rw[s2,dR],x8 (fun i hi=>h i (by simpa only [tX]using hi)) s3⟩
 | mpo K A kv=>exact ho
 | mpl K kv=>exact ho
 | mat e e2 A xss hole=>exact R9 (fun k id e=>h id (by subst e;simp[tX])) ho
/-! ### What is not rA -/
mutual
def lP:AVal→Bool
 | .p β T _=> !T.refs || !β
 | .fad β cs _=> !β && kF cs
 | .agg cs=>kF cs
 | .tup cs=>kF cs
 | .fn _ cs=>kF cs
 | .sl _=>true
 | .mp _=>true
 | .adr _ _ _ _=>true
 | .ada _ _ _ _=>true
 | .nils=>true
 | .nilp=>true
 | .lit _=>true
 | .unk=>true
def kF:List AVal→Bool
 | []=>true
 | x::xs=>lP x && kF xs
end
def y5:Obj→Bool
 | .box cs=>kF cs
 | _=>true
mutual
theorem y7{F:Bool→Addr→Value→Prop}{ρ:Nat→Option Value}:∀ {x:AVal} {v:Value},lP x=true→V F ρ x v→V (fun _=>F false) ρ x v
 | .p β T y,_,h,hv=>by
  simp only[V]at hv ⊢
  refine⟨hv.1,?_⟩
  cases β with
  | false=>exact hv.2
  | true =>
   simp[lP]at h
   exact iK h hv.2
 | .nils,_,_,hv=>by simpa only [V]using hv
 | .nilp,_,_,hv=>by simpa only [V]using hv
 | .lit _,_,_,hv=>by simpa only [V]using hv
 | .unk,_,_,_=>by simp only[V]
 | .sl i,_,_,hv=>by simpa only [V]using hv
 | .mp i,_,_,hv=>by simpa only [V]using hv
 | .adr i _ _ _,_,_,hv=>by simpa only [V]using hv
 | .ada i _ _ _,_,_,hv=>by simpa only [V]using hv
 | .fad β cs _,_,h,hv=>by
  simp only[lP,Bool.and_eq_true,Bool.not_eq_true']at h
  obtain⟨rfl,h⟩:=h
  simp only[V]at hv ⊢
  obtain⟨ad,e,hl⟩:=hv
  exact⟨ad,e,lL h hl⟩
 | .agg cs,_,h,hv=>by
  simp only[lP]at h
  simp only[V]at hv ⊢
  obtain⟨vs,e,hs,hl⟩:=hv
  exact⟨vs,e,hs,lL h hl⟩
 | .tup cs,_,h,hv=>by
  simp only[lP]at h
  simp only[V]at hv ⊢
  obtain⟨vs,e,hs,hl⟩:=hv
  exact⟨vs,e,hs,lL h hl⟩
 | .fn _ cs,_,h,hv=>by
  simp only[lP]at h
  simp only[V]at hv ⊢
  obtain⟨vs,e,hs,hl⟩:=hv
  exact⟨vs,e,hs,lL h hl⟩
theorem lL{F:Bool→Addr→Value→Prop}{ρ:Nat→Option Value}:∀ {xs:List AVal} {g:Nat→Value→Prop},kF xs=true→VL F ρ xs g→VL (fun _=>F false) ρ xs g
 | [],_,_,_=>by simp only[VL]
 | x::xs,_,h,hv=>by
  simp only[kF,Bool.and_eq_true]at h
  simp only[VL]at hv ⊢
  obtain⟨⟨u,q1,q2⟩,q3⟩:=hv
  exact⟨⟨u,q1,y7 h.1 q2⟩,lL h.2 q3⟩
end
theorem aAt{F:Bool→Addr→Value→Prop}{ρ:Nat→Option Value}{S:Nat→Prop}{w:World}{o:Obj}{u:Value}(h:y5 o=true)(ho:OR F ρ S w o u):OR (fun _=>F false) ρ S w o u:=by
 cases o with
 | arr e A xs=>exact ho
 | fz A xs =>
  simp only[OR]at ho ⊢
  exact y7 (by simp[lP]) ho
 | box cs =>
  obtain⟨g,t,cells,e,sg,s1,s2,s3⟩:=ho
  exact⟨g,t,cells,e,sg,s1,s2,lL h s3⟩
 | mpo K A kv=>exact ho
 | mpl K kv=>exact ho
 | mat e e2 A xss hole=>exact ho
/-! ### Handing aCQ -/
def gin(g:List Nat)(i:Nat):Nat:=g.idxOf i
def qV(g:List Nat)(new i:Nat):Nat:=if i<g.length then g.getD i 0 else new+(i - g.length)
def less(g:List Nat)(h:Nat→Option Obj)(i:Nat):Option Obj:=if g.contains i then none else h i
def x6(g:List Nat)(h:Nat→Option Obj)(x:AVal):Option AVal :=
 if(cC x).all (fun i=>g.contains i) && !(cC x).isEmpty then some (mM (gin g) x)else F8 h x
def qN(g:List Nat)(h:Nat→Option Obj):List AVal→Option (List AVal)
 | []=>some []
 | x::xs=>match x6 g h x,qN g h xs with
  | some y,some ys=>some (y::ys)
  | _,_=>none
def iM(g:List Nat)(h:Nat→Option Obj):Nat→List Nat→Option (List (Nat×Obj))
 | _,[]=>some []
 | i,id::r=>match h id with
  | some o=>if(tX o).all (fun j=>g.contains j)then match iM g h (i+1) r with
   | some l=>some ((i,nB (gin g) o)::l)
   | none=>none
   else none
  | none=>none
def wS:List Nat→Bool
 | []=>true
 | x::xs=> !xs.contains x && wS xs
def t4(g:List Nat)(new:Nat)(hout:List (Nat×Obj)):iH :=
 g.map (fun i=>(i,none))++hout.map (fun p=>(qV g new p.1,some (nB (qV g new) p.2)))
def tK(g:List Nat)(hout:List (Nat×Obj))(r:AVal):Bool :=
 wS g && wS (hout.map (·.1)) && lP r && (cC r).all (fun i=>decide (i<g.length+8)) &&
  hout.all (fun p=>y5 p.2 && decide (p.1<g.length+8) && (tX p.2).all (fun i=>decide (i<g.length+8)))
structure Owns(P:Program)(f:FuncId)(args:List AVal)(hin:List (Nat×Obj))(r:AVal)(hout:List (Nat×Obj)):Prop where
 fn:∃fn,P.funcs[f]? = some fn∧(fn.name == "runtime.NumGoroutine")=false∧fn.body.isNone=false
 calls:∀(Bw:Nat→Prop) (b:Base P) (φ:Nat→Nat→Prop) (vals:Array Value),Mem Bw b b.pin φ (fun i=>look hin i) b.w →
  VVs (Fr (own φ (fun i=>look hin i)) Bw b.w) b.pin args vals.toList→(∀i u,b.pin i=some u→i<hin.length) →
  Calls P f vals b.w fun e w'=>∃v ρ' φ',e = .returned v∧Mem Bw b ρ' φ' (fun i=>look hout i) w'∧V (Fr (own φ' (fun i=>look hout i)) Bw w') ρ' r v
structure Dies(P:Program)(f:FuncId)(args:List AVal)(hin:List (Nat×Obj))(x:Value):Prop where
 fn:∃fn,P.funcs[f]? = some fn∧(fn.name == "runtime.NumGoroutine")=false∧fn.body.isNone=false
 calls:∀(Bw:Nat→Prop) (b:Base P) (φ:Nat→Nat→Prop) (vals:Array Value),Mem Bw b b.pin φ (fun i=>look hin i) b.w →
  VVs (Fr (own φ (fun i=>look hin i)) Bw b.w) b.pin args vals.toList→(∀i u,b.pin i=some u→i<hin.length) →
  Calls P f vals b.w fun e w'=>∃ρ' φ',e = .panicked [{ v:=x,recovered:=false }]∧Mem Bw b ρ' φ' (fun _=>none) w'
def Does(P:Program)(f:FuncId)(args:List AVal)(hin:List (Nat×Obj)):(AVal×List (Nat×Obj))⊕Value→Prop
 | .inl p=>Owns P f args hin p.1 p.2
 | .inr x=>Dies P f args hin x
section
variable{g:List Nat}{h:Nat→Option Obj}
theorem i7:∀ {l:List Nat},wS l=true→l.Nodup
 | [],_=>List.nodup_nil
 | x::xs,h=>by
  simp only[wS,Bool.and_eq_true,Bool.not_eq_true',List.contains_eq_mem,decide_eq_false_iff_not]at h
  exact List.nodup_cons.2 ⟨h.1,i7 h.2⟩
theorem Z7{i:Nat}(hi:i∈g):gin g i<g.length:=List.idxOf_lt_length_of_mem hi
theorem G6{i:Nat}(hi:i∈g):g.getD (gin g i) 0=i:=by
 unfold gin
 rw[List.getD_eq_getElem?_getD,List.getElem?_eq_getElem (List.idxOf_lt_length_of_mem hi),List.getElem_idxOf]
 rfl
theorem nG(hn:g.Nodup){i:Nat}(hi:i<g.length):gin g (g.getD i 0)=i:=by
 unfold gin
 have e:g.getD i 0=g[i]:=by simp[List.getD_eq_getElem?_getD,hi]
 rw[e]
 exact List.Nodup.idxOf_getElem hn i hi
theorem jH:∀ {l:List Nat} {i:Nat} {hin:List (Nat×Obj)},iM g h i l=some hin→hin.length=l.length
 | [],_,_,e=>by cases e;rfl
 | id::r,i,hin,e=>by
  simp only[iM]at e
  split at e
  ·split at e
   ·split at e
    ·rename_i l' hl
     cases e
     simp[jH hl]
    ·cases e
   ·cases e
  ·cases e
theorem vR:∀ {l:List Nat} {i:Nat} {hin:List (Nat×Obj)},iM g h i l=some hin→∀ {j:Nat} {o:Obj},look hin j=some o →
  ∃id o',i≤j∧l[j - i]? = some id∧h id=some o'∧o=nB (gin g) o'∧∀k∈tX o',k∈g
 | [],_,_,e,j,o,hj=>by cases e;cases hj
 | id::r,i,hin,e,j,o,hj=>by
  simp only[iM]at e
  split at e
  ·rename_i o' ho
   split at e
   ·rename_i hall
    split at e
    ·rename_i l' hl
     cases e
     simp only[look]at hj
     split at hj
     ·rename_i eij
      subst eij
      cases hj
      exact⟨id,o',Nat.le_refl _,by simp,ho,rfl,fun k hk=>by simpa using List.all_eq_true.1 hall k hk⟩
     ·obtain⟨id',o2,q1,q2,q3,q4,q5⟩:=vR hl hj
      refine⟨id',o2,by omega,?_,q3,q4,q5⟩
      rw[show j - i=(j - (i+1))+1 by omega]
      simpa using q2
    ·cases e
   ·cases e
  ·cases e
theorem vL:∀ {us:iH} {h:Nat→Option Obj} {i:Nat} {o:Obj},apply us h i=some o→(i,some o)∈us∨(h i=some o∧∀p∈us,p.1≠i)
 | [],h,i,o,e=> .inr ⟨e,fun p hp=>by cases hp⟩
 | (j,x)::us,h,i,o,e=>by
  simp only[apply]at e
  rcases vL e with q | ⟨q1,q2⟩
  ·exact .inl (List.mem_cons_of_mem _ q)
  ·by_cases eij:i=j
   ·subst eij
    rw[aL]at q1
    subst q1
    exact .inl (List.mem_cons_self ..)
   ·rw[bA _ _ eij]at q1
    refine .inr ⟨q1,fun p hp=> ?_⟩
    rcases List.mem_cons.1 hp with rfl | hp
    ·exact fun e=>eij e.symm
    ·exact q2 p hp
theorem sQ:∀ {l:List (Nat×Obj)} {i:Nat} {o:Obj},(l.map (·.1)).Nodup→(i,o)∈l→look l i=some o
 | (j,x)::r,i,o,hn,hm=>by
  simp only[List.map_cons,List.nodup_cons]at hn
  simp only[look]
  rcases List.mem_cons.1 hm with e | hm
  ·cases e;rw[if_pos rfl]
  ·rw[if_neg (fun e=>hn.1 (List.mem_map.2 ⟨(i,o),hm,e.symm⟩))]
   exact sQ hn.2 hm
end
end Go.Tv
