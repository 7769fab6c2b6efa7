/- Objects' numbers; calls that are handed objects of the caller's own. -/
import Derived.Test.YtacpjjgochokcaaDoorTvK
namespace Go.Tv
open Go Go.RowKit
def look{α:Type}:List (Nat×α)→Nat→Option α
 | [],_=>none
 | (k,x)::r,i=>if k=i then some x else look r i
theorem nP{α:Type}:∀ {l:List (Nat×α)} {t:Nat} {x:α},look l t=some x→(t,x)∈l
 | [],_,_,h=>by cases h
 | (k,y)::r,t,x,h=>by
  simp only[look]at h
  split at h
  ·rename_i e;cases h;subst e;simp
  ·exact List.mem_cons_of_mem _ (nP h)
mutual
def cQ:AVal→List Nat
 | .sl i=>[i]
 | .mp i=>[i]
 | .adr i _ _ _=>[i]
 | .ada i _ _ _=>[i]
 | .fad _ cs _=>bH cs
 | .agg cs=>bH cs
 | .tup cs=>bH cs
 | .fn _ cs=>bH cs
 | .p _ _ _=>[]
 | .nils=>[]
 | .nilp=>[]
 | .lit _=>[]
 | .unk=>[]
def bH:List AVal→List Nat
 | []=>[]
 | x::xs=>cQ x++bH xs
end
theorem dY{i:Nat}:∀ {xs:List AVal},i∈bH xs↔∃x∈xs,i∈cQ x
 | []=>by simp[bH]
 | x::xs=>by simp[bH,dY (xs:=xs)]
def wP:Obj→List Nat
 | .box cs=>bH cs
 | .mat _ _ _ _ (some (_,id))=>[id]
 | _=>[]
mutual
def oS(f:Nat→Nat):AVal→AVal
 | .sl i=> .sl (f i)
 | .mp i=> .mp (f i)
 | .adr i k sz off=> .adr (f i) k sz off
 | .ada i b n k=> .ada (f i) b n k
 | .fad β cs off=> .fad β (uY f cs) off
 | .agg cs=> .agg (uY f cs)
 | .tup cs=> .tup (uY f cs)
 | .fn g cs=> .fn g (uY f cs)
 | .p β T x=> .p β T x
 | .nils=> .nils
 | .nilp=> .nilp
 | .lit v=> .lit v
 | .unk=> .unk
def uY(f:Nat→Nat):List AVal→List AVal
 | []=>[]
 | x::xs=>oS f x::uY f xs
end
theorem eV(f:Nat→Nat):∀xs:List AVal,(uY f xs).length=xs.length
 | []=>rfl
 | x::xs=>by simp[uY,eV f xs]
def oW(f:Nat→Nat):Obj→Obj
 | .box cs=> .box (uY f cs)
 | .mat e e2 A xss (some (k,id))=> .mat e e2 A xss (some (k,f id))
 | o=>o
mutual
theorem aFp{F:Bool→Addr→Value→Prop}{ρ ρ':Nat→Option Value}{f:Nat→Nat}:∀ {x:AVal} {v:Value},(∀i∈cQ x,ρ' i=ρ (f i))→V F ρ (oS f x) v→V F ρ' x v
 | .p _ _ _,_,_,hv=>by simpa only [oS,V]using hv
 | .nils,_,_,hv=>by simpa only [oS,V]using hv
 | .nilp,_,_,hv=>by simpa only [oS,V]using hv
 | .lit _,_,_,hv=>by simpa only [oS,V]using hv
 | .unk,_,_,_=>by simp only[V]
 | .sl i,_,h,hv=>by
  simp only[oS,V]at hv ⊢
  rw[h i (by simp[cQ])]
  exact hv
 | .mp i,_,h,hv=>by
  simp only[oS,V]at hv ⊢
  rw[h i (by simp[cQ])]
  exact hv
 | .ada i _ _ _,_,h,hv=>by
  simp only[oS,V]at hv ⊢
  rw[h i (by simp[cQ])]
  exact hv
 | .adr i _ _ _,_,h,hv=>by
  simp only[oS,V]at hv ⊢
  rw[h i (by simp[cQ])]
  exact hv
 | .fad _ cs _,_,h,hv=>by
  simp only[oS,V]at hv ⊢
  obtain⟨ad,e,hl⟩:=hv
  exact⟨ad,e,uB (fun i hi=>h i (by simpa only [cQ]using hi)) hl⟩
 | .agg cs,_,h,hv=>by
  simp only[oS,V,eV]at hv ⊢
  obtain⟨vs,e,hs,hl⟩:=hv
  exact⟨vs,e,hs,uB (fun i hi=>h i (by simpa only [cQ]using hi)) hl⟩
 | .tup cs,_,h,hv=>by
  simp only[oS,V,eV]at hv ⊢
  obtain⟨vs,e,hs,hl⟩:=hv
  exact⟨vs,e,hs,uB (fun i hi=>h i (by simpa only [cQ]using hi)) hl⟩
 | .fn _ cs,_,h,hv=>by
  simp only[oS,V,eV]at hv ⊢
  obtain⟨vs,e,hs,hl⟩:=hv
  exact⟨vs,e,hs,uB (fun i hi=>h i (by simpa only [cQ]using hi)) hl⟩
theorem uB{F:Bool→Addr→Value→Prop}{ρ ρ':Nat→Option Value}{f:Nat→Nat}:∀ {xs:List AVal} {g:Nat→Value→Prop},(∀i∈bH xs,ρ' i=ρ (f i))→VL F ρ (uY f xs) g→VL F ρ' xs g
 | [],_,_,_=>by simp only[VL]
 | x::xs,_,h,hv=>by
  simp only[uY,VL]at hv ⊢
  obtain⟨⟨u,q1,q2⟩,q3⟩:=hv
  exact⟨⟨u,q1,aFp (fun i hi=>h i (by simp[bH,hi])) q2⟩,uB (fun i hi=>h i (by simp[bH,hi])) q3⟩
end
def xX(h:Nat→Option Obj)(xs:List AVal):List Nat :=
 bH xs++(bH xs).flatMap fun i=>match h i with
  | some (.box cs)=>bH cs
  | _=>[]
/-! ### The other way round -/
mutual
theorem aGd{F:Bool→Addr→Value→Prop}{ρ ρ':Nat→Option Value}{f:Nat→Nat}:∀ {x:AVal} {v:Value},(∀i∈cQ x,ρ' (f i)=ρ i)→V F ρ x v→V F ρ' (oS f x) v
 | .p _ _ _,_,_,hv=>by simpa only [oS,V]using hv
 | .nils,_,_,hv=>by simpa only [oS,V]using hv
 | .nilp,_,_,hv=>by simpa only [oS,V]using hv
 | .lit _,_,_,hv=>by simpa only [oS,V]using hv
 | .unk,_,_,_=>by simp only[oS,V]
 | .sl i,_,h,hv=>by
  simp only[oS,V]at hv ⊢
  rw[h i (by simp[cQ])]
  exact hv
 | .mp i,_,h,hv=>by
  simp only[oS,V]at hv ⊢
  rw[h i (by simp[cQ])]
  exact hv
 | .ada i _ _ _,_,h,hv=>by
  simp only[oS,V]at hv ⊢
  rw[h i (by simp[cQ])]
  exact hv
 | .adr i _ _ _,_,h,hv=>by
  simp only[oS,V]at hv ⊢
  rw[h i (by simp[cQ])]
  exact hv
 | .fad _ cs _,_,h,hv=>by
  simp only[oS,V]at hv ⊢
  obtain⟨ad,e,hl⟩:=hv
  exact⟨ad,e,E3 (fun i hi=>h i (by simpa only [cQ]using hi)) hl⟩
 | .agg cs,_,h,hv=>by
  simp only[oS,V,eV]at hv ⊢
  obtain⟨vs,e,hs,hl⟩:=hv
  exact⟨vs,e,hs,E3 (fun i hi=>h i (by simpa only [cQ]using hi)) hl⟩
 | .tup cs,_,h,hv=>by
  simp only[oS,V,eV]at hv ⊢
  obtain⟨vs,e,hs,hl⟩:=hv
  exact⟨vs,e,hs,E3 (fun i hi=>h i (by simpa only [cQ]using hi)) hl⟩
 | .fn _ cs,_,h,hv=>by
  simp only[oS,V,eV]at hv ⊢
  obtain⟨vs,e,hs,hl⟩:=hv
  exact⟨vs,e,hs,E3 (fun i hi=>h i (by simpa only [cQ]using hi)) hl⟩
theorem E3{F:Bool→Addr→Value→Prop}{ρ ρ':Nat→Option Value}{f:Nat→Nat}:∀ {xs:List AVal} {g:Nat→Value→Prop},(∀i∈bH xs,ρ' (f i)=ρ i)→VL F ρ xs g→VL F ρ' (uY f xs) g
 | [],_,_,_=>by simp only[uY,VL]
 | x::xs,_,h,hv=>by
  simp only[uY,VL]at hv ⊢
  obtain⟨⟨u,q1,q2⟩,q3⟩:=hv
  exact⟨⟨u,q1,aGd (fun i hi=>h i (by simp[bH,hi])) q2⟩,E3 (fun i hi=>h i (by simp[bH,hi])) q3⟩
end
theorem aBu{F:Bool→Addr→Value→Prop}{ρ ρ':Nat→Option Value}{S:Nat→Prop}{w:World}{f:Nat→Nat}{e e2:TypeId}{A:Ty}{xss:List (List A.den)}{hole:Option (Nat×Nat)}{u:Value}
  (h:∀k id,hole=some (k,id)→ρ' (f id)=ρ id) (ho:OR F ρ S w (.mat e e2 A xss hole) u):OR F ρ' S w (oW f (.mat e e2 A xss hole)) u:=by
 obtain⟨hs,h0,hk,cells,h1,h2,h3⟩:=ho
 cases hole with
 | none=>exact⟨hs,h0,hk,cells,h1,fun i hi=>(h2 i hi).imp fun v q=>⟨q.1,q.2.1,q.2.2.1,fun id e=>by cases e⟩,h3⟩
 | some p =>
  obtain⟨k,id⟩:=p
  have hsh:∀i,T3 (some (k,f id)) i→T3 (some (k,id)) i:=fun i hh k' id' e=>by cases e;exact hh k (f id) rfl
  refine⟨hs,h0,fun k' id' e=>(by cases e;exact hk k id rfl),cells,h1,fun i hi=> ?_,fun i j vi vj b hij s1 s2=>h3 i j vi vj b hij (hsh i s1) (hsh j s2)⟩
  obtain⟨v,q1,q2,q3,q4⟩:=h2 i hi
  exact⟨v,q1,q2,fun s=>q3 (hsh i s),fun id' e=>by cases e;rw[h k id rfl];exact q4 id rfl⟩
theorem aAu{F:Bool→Addr→Value→Prop}{ρ ρ':Nat→Option Value}{S:Nat→Prop}{w:World}{f:Nat→Nat}{e e2:TypeId}{A:Ty}{xss:List (List A.den)}{hole:Option (Nat×Nat)}{u:Value}
  (h:∀k id,hole=some (k,id)→ρ' id=ρ (f id)) (ho:OR F ρ S w (oW f (.mat e e2 A xss hole)) u):OR F ρ' S w (.mat e e2 A xss hole) u:=by
 cases hole with
 | none =>
  obtain⟨hs,h0,hk,cells,h1,h2,h3⟩:=ho
  exact⟨hs,h0,hk,cells,h1,fun i hi=>(h2 i hi).imp fun v q=>⟨q.1,q.2.1,q.2.2.1,fun id e=>by cases e⟩,h3⟩
 | some p =>
  obtain⟨k,id⟩:=p
  obtain⟨hs,h0,hk,cells,h1,h2,h3⟩:=ho
  have hsh:∀i,T3 (some (k,id)) i→T3 (some (k,f id)) i:=fun i hh k' id' e=>by cases e;exact hh k id rfl
  refine⟨hs,h0,fun k' id' e=>(by cases e;exact hk k (f id) rfl),cells,h1,fun i hi=> ?_,fun i j vi vj b hij s1 s2=>h3 i j vi vj b hij (hsh i s1) (hsh j s2)⟩
  obtain⟨v,q1,q2,q3,q4⟩:=h2 i hi
  exact⟨v,q1,q2,fun s=>q3 (hsh i s),fun id' e=>by cases e;rw[h k id rfl];exact q4 (f id) rfl⟩
theorem aFk{F:Bool→Addr→Value→Prop}{ρ ρ':Nat→Option Value}{S:Nat→Prop}{w:World}{f:Nat→Nat}{o:Obj}{u:Value}(h:∀i∈wP o,ρ' (f i)=ρ i)(ho:OR F ρ S w o u):OR F ρ' S w (oW f o) u:=by
 cases o with
 | arr e A xs=>exact ho
 | fz A xs =>
  simp only[oW,OR]at ho ⊢
  exact yK rfl ho
 | box cs =>
  obtain⟨g,t,cells,e,sg,s1,s2,s3⟩:=ho
  exact⟨g,t,cells,e,sg,s1,by rw[s2,eV],E3 (fun i hi=>h i (by simpa only [wP]using hi)) s3⟩
 | mpo K A kv=>exact ho
 | mpl K kv=>exact ho
 | mat e e2 A xss hole=>exact aBu (fun k id e=>h id (by subst e;simp[wP])) ho
/-! ### What is not t5 -/
mutual
def oG:AVal→Bool
 | .p β T _=> !T.refs || !β
 | .fad β cs _=> !β && mL cs
 | .agg cs=>mL cs
 | .tup cs=>mL cs
 | .fn _ cs=>mL cs
 | .sl _=>true
 | .mp _=>true
 | .adr _ _ _ _=>true
 | .ada _ _ _ _=>true
 | .nils=>true
 | .nilp=>true
 | .lit _=>true
 | .unk=>true
def mL:List AVal→Bool
 | []=>true
 | x::xs=>oG x && mL xs
end
def J4:Obj→Bool
 | .box cs=>mL cs
 | _=>true
mutual
theorem I8{F:Bool→Addr→Value→Prop}{ρ:Nat→Option Value}:∀ {x:AVal} {v:Value},oG x=true→V F ρ x v→V (fun _=>F false) ρ x v
 | .p β T y,_,h,hv=>by
  simp only[V]at hv ⊢
  refine⟨hv.1,?_⟩
  cases β with
  | false=>exact hv.2
  | true =>
   simp[oG]at h
   exact j9 h hv.2
 | .nils,_,_,hv=>by simpa only [V]using hv
 | .nilp,_,_,hv=>by simpa only [V]using hv
 | .lit _,_,_,hv=>by simpa only [V]using hv
 | .unk,_,_,_=>by simp only[V]
 | .sl i,_,_,hv=>by simpa only [V]using hv
 | .mp i,_,_,hv=>by simpa only [V]using hv
 | .adr i _ _ _,_,_,hv=>by simpa only [V]using hv
 | .ada i _ _ _,_,_,hv=>by simpa only [V]using hv
 | .fad β cs _,_,h,hv=>by
  simp only[oG,Bool.and_eq_true,Bool.not_eq_true']at h
  obtain⟨rfl,h⟩:=h
  simp only[V]at hv ⊢
  obtain⟨ad,e,hl⟩:=hv
  exact⟨ad,e,nL h hl⟩
 | .agg cs,_,h,hv=>by
  simp only[oG]at h
  simp only[V]at hv ⊢
  obtain⟨vs,e,hs,hl⟩:=hv
  exact⟨vs,e,hs,nL h hl⟩
 | .tup cs,_,h,hv=>by
  simp only[oG]at h
  simp only[V]at hv ⊢
  obtain⟨vs,e,hs,hl⟩:=hv
  exact⟨vs,e,hs,nL h hl⟩
 | .fn _ cs,_,h,hv=>by
  simp only[oG]at h
  simp only[V]at hv ⊢
  obtain⟨vs,e,hs,hl⟩:=hv
  exact⟨vs,e,hs,nL h hl⟩
theorem nL{F:Bool→Addr→Value→Prop}{ρ:Nat→Option Value}:∀ {xs:List AVal} {g:Nat→Value→Prop},mL xs=true→VL F ρ xs g→VL (fun _=>F false) ρ xs g
 | [],_,_,_=>by simp only[VL]
 | x::xs,_,h,hv=>by
  simp only[mL,Bool.and_eq_true]at h
  simp only[VL]at hv ⊢
  obtain⟨⟨u,q1,q2⟩,q3⟩:=hv
  exact⟨⟨u,q1,I8 h.1 q2⟩,nL h.2 q3⟩
end
theorem aCC{F:Bool→Addr→Value→Prop}{ρ:Nat→Option Value}{S:Nat→Prop}{w:World}{o:Obj}{u:Value}(h:J4 o=true)(ho:OR F ρ S w o u):OR (fun _=>F false) ρ S w o u:=by
 cases o with
 | arr e A xs=>exact ho
 | fz A xs =>
  simp only[OR]at ho ⊢
  exact I8 (by simp[oG]) ho
 | box cs =>
  obtain⟨g,t,cells,e,sg,s1,s2,s3⟩:=ho
  exact⟨g,t,cells,e,sg,s1,s2,nL h s3⟩
 | mpo K A kv=>exact ho
 | mpl K kv=>exact ho
 | mat e e2 A xss hole=>exact ho
/-! ### Handing aGz -/
def gin(g:List Nat)(i:Nat):Nat:=g.idxOf i
def t6(g:List Nat)(new i:Nat):Nat:=if i<g.length then g.getD i 0 else new+(i - g.length)
def less(g:List Nat)(h:Nat→Option Obj)(i:Nat):Option Obj:=if g.contains i then none else h i
def G0(g:List Nat)(h:Nat→Option Obj)(x:AVal):Option AVal :=
 if(cQ x).all (fun i=>g.contains i) && !(cQ x).isEmpty then some (oS (gin g) x)else O6 h x
def tD(g:List Nat)(h:Nat→Option Obj):List AVal→Option (List AVal)
 | []=>some []
 | x::xs=>match G0 g h x,tD g h xs with
  | some y,some ys=>some (y::ys)
  | _,_=>none
def kG(g:List Nat)(h:Nat→Option Obj):Nat→List Nat→Option (List (Nat×Obj))
 | _,[]=>some []
 | i,id::r=>match h id with
  | some o=>if(wP o).all (fun j=>g.contains j)then match kG g h (i+1) r with
   | some l=>some ((i,oW (gin g) o)::l)
   | none=>none
   else none
  | none=>none
def y4:List Nat→Bool
 | []=>true
 | x::xs=> !xs.contains x && y4 xs
def wO(g:List Nat)(new:Nat)(hout:List (Nat×Obj)):j6 :=
 g.map (fun i=>(i,none))++hout.map (fun p=>(t6 g new p.1,some (oW (t6 g new) p.2)))
def vI(g:List Nat)(hout:List (Nat×Obj))(r:AVal):Bool :=
 y4 g && y4 (hout.map (·.1)) && oG r && (cQ r).all (fun i=>decide (i<g.length+8)) &&
  hout.all (fun p=>J4 p.2 && decide (p.1<g.length+8) && (wP p.2).all (fun i=>decide (i<g.length+8)))
structure Owns(P:Program)(f:FuncId)(args:List AVal)(hin:List (Nat×Obj))(r:AVal)(hout:List (Nat×Obj)):Prop where
 fn:∃fn,P.funcs[f]? = some fn∧(fn.name == "runtime.NumGoroutine")=false∧fn.body.isNone=false
 calls:∀(Bw:Nat→Prop) (b:Base P) (φ:Nat→Nat→Prop) (vals:Array Value),Mem Bw b b.pin φ (fun i=>look hin i) b.w →
  VVs (Fr (own φ (fun i=>look hin i)) Bw b.w) b.pin args vals.toList→(∀i u,b.pin i=some u→i<hin.length) →
  Calls P f vals b.w fun e w'=>∃v ρ' φ',e = .returned v∧Mem Bw b ρ' φ' (fun i=>look hout i) w'∧V (Fr (own φ' (fun i=>look hout i)) Bw w') ρ' r v
structure Dies(P:Program)(f:FuncId)(args:List AVal)(hin:List (Nat×Obj))(x:Value):Prop where
 fn:∃fn,P.funcs[f]? = some fn∧(fn.name == "runtime.NumGoroutine")=false∧fn.body.isNone=false
 calls:∀(Bw:Nat→Prop) (b:Base P) (φ:Nat→Nat→Prop) (vals:Array Value),Mem Bw b b.pin φ (fun i=>look hin i) b.w →
  VVs (Fr (own φ (fun i=>look hin i)) Bw b.w) b.pin args vals.toList→(∀i u,b.pin i=some u→i<hin.length) →
  Calls P f vals b.w fun e w'=>∃ρ' φ',e = .panicked [{ v:=x,recovered:=false }]∧Mem Bw b ρ' φ' (fun _=>none) w'
def Does(P:Program)(f:FuncId)(args:List AVal)(hin:List (Nat×Obj)):(AVal×List (Nat×Obj))⊕Value→Prop
 | .inl p=>Owns P f args hin p.1 p.2
 | .inr x=>Dies P f args hin x
section
variable{g:List Nat}{h:Nat→Option Obj}
theorem lG:∀ {l:List Nat},y4 l=true→l.Nodup
 | [],_=>List.nodup_nil
 | x::xs,h=>by
  simp only[y4,Bool.and_eq_true,Bool.not_eq_true',List.contains_eq_mem,decide_eq_false_iff_not]at h
  exact List.nodup_cons.2 ⟨h.1,lG h.2⟩
theorem aCw{i:Nat}(hi:i∈g):gin g i<g.length:=List.idxOf_lt_length_of_mem hi
theorem V1{i:Nat}(hi:i∈g):g.getD (gin g i) 0=i:=by
 unfold gin
 rw[List.getD_eq_getElem?_getD,List.getElem?_eq_getElem (List.idxOf_lt_length_of_mem hi),List.getElem_idxOf]
 rfl
theorem o6(hn:g.Nodup){i:Nat}(hi:i<g.length):gin g (g.getD i 0)=i:=by
 unfold gin
 have e:g.getD i 0=g[i]:=by simp[List.getD_eq_getElem?_getD,hi]
 rw[e]
 exact List.Nodup.idxOf_getElem hn i hi
theorem lL:∀ {l:List Nat} {i:Nat} {hin:List (Nat×Obj)},kG g h i l=some hin→hin.length=l.length
 | [],_,_,e=>by cases e;rfl
 | id::r,i,hin,e=>by
  simp only[kG]at e
  split at e
  ·split at e
   ·split at e
    ·rename_i l' hl
     cases e
     simp[lL hl]
    ·cases e
   ·cases e
  ·cases e
theorem x4:∀ {l:List Nat} {i:Nat} {hin:List (Nat×Obj)},kG g h i l=some hin→∀ {j:Nat} {o:Obj},look hin j=some o →
  ∃id o',i≤j∧l[j - i]? = some id∧h id=some o'∧o=oW (gin g) o'∧∀k∈wP o',k∈g
 | [],_,_,e,j,o,hj=>by cases e;cases hj
 | id::r,i,hin,e,j,o,hj=>by
  simp only[kG]at e
  split at e
  ·rename_i o' ho
   split at e
   ·rename_i hall
    split at e
    ·rename_i l' hl
     cases e
     simp only[look]at hj
     split at hj
     ·rename_i eij
      subst eij
      cases hj
      exact⟨id,o',Nat.le_refl _,by simp,ho,rfl,fun k hk=>by simpa using List.all_eq_true.1 hall k hk⟩
     ·obtain⟨id',o2,q1,q2,q3,q4,q5⟩:=x4 hl hj
      refine⟨id',o2,by omega,?_,q3,q4,q5⟩
      rw[show j - i=(j - (i+1))+1 by omega]
      simpa using q2
    ·cases e
   ·cases e
  ·cases e
theorem y9:∀ {us:j6} {h:Nat→Option Obj} {i:Nat} {o:Obj},apply us h i=some o→(i,some o)∈us∨(h i=some o∧∀p∈us,p.1≠i)
 | [],h,i,o,e=> .inr ⟨e,fun p hp=>by cases hp⟩
 | (j,x)::us,h,i,o,e=>by
  simp only[apply]at e
  rcases y9 e with q | ⟨q1,q2⟩
  ·exact .inl (List.mem_cons_of_mem _ q)
  ·by_cases eij:i=j
   ·subst eij
    rw[aM]at q1
    subst q1
    exact .inl (List.mem_cons_self ..)
   ·rw[bG _ _ eij]at q1
    refine .inr ⟨q1,fun p hp=> ?_⟩
    rcases List.mem_cons.1 hp with rfl | hp
    ·exact fun e=>eij e.symm
    ·exact q2 p hp
theorem vU:∀ {l:List (Nat×Obj)} {i:Nat} {o:Obj},(l.map (·.1)).Nodup→(i,o)∈l→look l i=some o
 | (j,x)::r,i,o,hn,hm=>by
  simp only[List.map_cons,List.nodup_cons]at hn
  simp only[look]
  rcases List.mem_cons.1 hm with e | hm
  ·cases e;rw[if_pos rfl]
  ·rw[if_neg (fun e=>hn.1 (List.mem_map.2 ⟨(i,o),hm,e.symm⟩))]
   exact vU hn.2 hm
end
end Go.Tv
namespace Go.Tv
open Go Go.RowKit
section
variable{P:Program}{Bw:Nat→Prop}{w0:Base P}{ρ:Nat→Option Value}{φ:Nat→Nat→Prop}{h:Nat→Option Obj}{w:World}{new:Nat}{g:List Nat}
theorem sV{i:Nat}{o:Obj}(hi:less g h i=some o):h i=some o∧i ∉ g:=by
 unfold less at hi
 split at hi
 ·cases hi
 ·rename_i hc
  exact⟨hi,by simpa using hc⟩
def tY(φ:Nat→Nat→Prop)(h:Nat→Option Obj)(g:List Nat)(k:Nat):Prop:=∃id o,id∈g∧h id=some o∧o.live=true∧φ id k
theorem hH{f:Nat→Nat}{o:Obj}:(oW f o).live=o.live:=by
 cases o with
 | mat e e2 A xss hole=>cases hole <;> rfl
 | _=>rfl
theorem aBC{k:Nat}(hk:tY φ h g k):own φ h k:=by
 obtain⟨id,o,_,h1,h2,h3⟩:=hk
 exact⟨id,o,h1,h2,h3⟩
def e9(m:Mem Bw w0 ρ φ h w)(g:List Nat):Base P :=
 ⟨w,fun k=>k<w.heap.size∧¬tY φ h g k,fun _ hk=>hk.1,fun i=>if i<g.length then ρ (g.getD i 0)else none,m.kp.laid,
  fun k hk=>⟨Nat.lt_of_lt_of_le (w0.lt k (w0.lk k hk)) m.kp.size,fun hm=>m.ow k (aBC hm) (w0.lk k hk)⟩⟩
theorem Q5(m:Mem Bw w0 ρ φ h w){x y:AVal}(hd:G0 g (less g h) x=some y){v:Value}(hv:V (Fr (own φ h) Bw w) ρ x v)
  {F':Bool→Addr→Value→Prop} (L:Lends φ h Bw w (less g h) F'):V F' (e9 m g).pin y v:=by
 unfold G0 at hd
 split at hd
 ·rename_i hc
  cases hd
  simp only[Bool.and_eq_true,List.all_eq_true,List.contains_eq_mem,decide_eq_true_eq]at hc
  refine aGd (ρ:=ρ) (fun i hi'=> ?_) (V.mono L.hA (fun _ _ h=>h) hv)
  have:=hc.1 i hi'
  simp only[e9]
  rw[if_pos (aCw this),V1 this]
 ·exact V.mono (fun _ _ _ h=>h) (fun _ _ e=>by cases e) (xQ m L hd hv)
theorem mR(m:Mem Bw w0 ρ φ h w){F':Bool→Addr→Value→Prop}(L:Lends φ h Bw w (less g h) F'):
  ∀ {xs ys:List AVal},tD g (less g h) xs=some ys→∀ {vs:List Value},VVs (Fr (own φ h) Bw w) ρ xs vs→VVs F' (e9 m g).pin ys vs
 | [],ys,hd,vs,hv=>by
  cases hd
  cases vs with
  | nil=>trivial
  | cons _ _=>exact hv.elim
 | x::xs,ys,hd,vs,hv=>by
  simp only[tD]at hd
  split at hd
  ·rename_i y ys' h1 h2
   cases hd
   cases vs with
   | nil=>exact hv.elim
   | cons v vs=>exact⟨Q5 m h1 hv.1 L,mR m L h2 hv.2⟩
  ·cases hd
theorem rO(m:Mem Bw w0 ρ φ h w)(hn:g.Nodup){hin:List (Nat×Obj)}(hi:kG g h 0 g=some hin):
  Mem (t5 φ (less g h) Bw) (e9 m g) (e9 m g).pin (fun i=>φ (g.getD i 0)) (fun i=>look hin i) w ∧
  Lends φ h Bw w (less g h) (Fr (own (fun i=>φ (g.getD i 0)) (fun i=>look hin i)) (t5 φ (less g h) Bw) w):=by
 have hlook:∀i o,look hin i=some o→i<g.length∧∃o',h (g.getD i 0)=some o'∧o=oW (gin g) o'∧∀k∈wP o',k∈g:=fun i o e=>by
  obtain⟨id,o',_,q2,q3,q4,q5⟩:=x4 hi e
  simp only[Nat.sub_zero]at q2
  have hlt:=(List.getElem?_eq_some_iff.1 q2).1
  refine⟨hlt,o',?_,q4,q5⟩
  rw[List.getD_eq_getElem?_getD,q2]
  exact q3
 have hmem:∀i,i<g.length→g.getD i 0∈g:=fun i hlt=>by
  rw[List.getD_eq_getElem?_getD,List.getElem?_eq_getElem hlt]
  exact List.getElem_mem hlt
 have hmv:∀k,own (fun i=>φ (g.getD i 0)) (fun i=>look hin i) k→tY φ h g k:=fun k ⟨i,o,q1,q2,q3⟩=>by
  obtain⟨hlt,o',r1,r2,_⟩:=hlook i o q1
  subst r2
  rw[hH]at q2
  exact⟨_,o',hmem i hlt,r1,q2,q3⟩
 have hmo:∀k,tY φ h g k→own φ h k:=fun k ⟨id,o,_,q2,q3,q4⟩=>⟨id,o,q2,q3,q4⟩
 have hlo:∀k,own φ (less g h) k→own φ h k∧¬tY φ h g k:=fun k ⟨id,o,q1,q2,q3⟩=>by
  obtain⟨r1,r2⟩:=sV q1
  refine⟨⟨id,o,r1,q2,q3⟩,fun⟨id',o',s1,s2,s3,s4⟩=> ?_⟩
  have:=m.dj id id' o o' k r1 q2 s2 s3 q3 s4
  subst this
  exact r2 s1
 have hF:∀β a v,Fr (own φ h) Bw w β a v→Fr (own (fun i=>φ (g.getD i 0)) (fun i=>look hin i)) (t5 φ (less g h) Bw) w β a v:=fun β a v hh =>
  ⟨fun e=>hh.1 (hmo _ (hmv _ e)),fun e hk=>hk.elim (fun q=>hh.1 (hlo _ q).1) (hh.2.1 e),hh.2.2⟩
 refine⟨⟨fun i o e=> ?_,fun i o k q1 q2 q3=> ?_,fun i j o o' k q1 q2 q3 q4 q5 q6=> ?_,fun k hk=> ?_,fun k hk hkp=>hkp.2 (hmv k hk),Kept.refl _,fun _ _ e=>e⟩,⟨fun i o e=>(sV e).1,hF,fun id o a v q1 q2 q3 q4=> ?_⟩⟩
 ·obtain⟨hlt,o',r1,rfl,r3⟩:=hlook i o e
  obtain⟨u,s1,s2⟩:=m.ob _ _ r1
  refine⟨u,by simp only[e9];rw[if_pos hlt];exact s1,?_⟩
  refine aFk (ρ:=ρ) (fun j hj=> ?_) (OR.mono hF (fun _ _ h=>h) (fun _ h=>h) (fun _ _ _=>rfl) s2)
  have:=r3 j hj
  simp only[e9]
  rw[if_pos (aCw this),V1 this]
 ·obtain⟨hlt,o',r1,rfl,r3⟩:=hlook i o q1
  rw[hH]at q2
  exact m.lt _ _ k r1 q2 q3
 ·obtain⟨hlt,o1,r1,rfl,_⟩:=hlook i o q1
  obtain⟨hlt',o2,r1',rfl,_⟩:=hlook j o' q3
  rw[hH]at q2 q4
  have:=m.dj _ _ _ _ k r1 q2 r1' q4 q5 q6
  rw[←o6 hn hlt,←o6 hn hlt',this]
 ·rcases hk with hk | hk
  ·obtain⟨q1,q2⟩:=hlo k hk
   exact⟨m.own_lt q1,q2⟩
  ·have:=m.bw k hk
   exact⟨Nat.lt_of_lt_of_le (w0.lt k this) m.kp.size,fun e=>m.ow k (hmo k e) this⟩
 ·obtain⟨r1,r2⟩:=sV q1
  refine⟨fun e=> ?_,fun e=>(by cases e),q4⟩
  exact(hlo _ ⟨id,o,q1,q2,q3⟩).2 (hmv _ e)
theorem rV(m:Mem Bw w0 ρ φ h w)(hn:g.Nodup)(hn8:∀j,j<8→ρ (new+j)=none)(hg:∀i∈g,∃o,h i=some o){hout:List (Nat×Obj)}{r:AVal}(hok:vI g hout r=true)
  {ρ':Nat→Option Value} {φ':Nat→Nat→Prop} {w':World} (m':Mem (t5 φ (less g h) Bw) (e9 m g) ρ' φ' (fun i=>look hout i) w') {v:Value}
  (hv:V (Fr (own φ' (fun i=>look hout i)) (t5 φ (less g h) Bw) w') ρ' r v) :
  Post Bw w0 ρ φ h w new (oS (t6 g new) r) (wO g new hout) v w':=by
 simp only[vI,Bool.and_eq_true,List.all_eq_true,decide_eq_true_eq]at hok
 obtain⟨⟨⟨⟨_,k1⟩,k2⟩,k3⟩,k4⟩:=hok
 have k1':=lG k1
 have hρg:∀i∈g,∃u,ρ i=some u:=fun i hi=>by
  obtain⟨o,ho⟩:=hg i hi
  obtain⟨u,q,_⟩:=m.ob i o ho
  exact⟨u,q⟩
 have hgn:∀i∈g,¬(new≤i∧i<new+8):=fun i hi ⟨e1,e2⟩=>by
  obtain⟨u,q⟩:=hρg i hi
  have:=hn8 (i - new) (by omega)
  rw[show new+(i - new)=i by omega,q]at this
  cases this
 have hmem:∀i,i<g.length→g.getD i 0∈g:=fun i hlt=>by
  rw[List.getD_eq_getElem?_getD,List.getElem?_eq_getElem hlt]
  exact List.getElem_mem hlt
 let ρ2:Nat→Option Value:=fun i=>if new≤i∧i<new+8 then ρ' (g.length+(i - new))else ρ i
 let φ2:Nat→Nat→Prop:=fun i=>if new≤i∧i<new+8 then φ' (g.length+(i - new))else if i∈g then φ' (gin g i)else φ i
 have hρ:∀i u,ρ i=some u→ρ2 i=some u:=fun i u hi=>by
  simp only[ρ2]
  split
  ·rename_i hc
   have:=hn8 (i - new) (by omega)
   rw[show new+(i - new)=i by omega,hi]at this
   cases this
  ·exact hi
 have hρo:∀i,i<g.length+8→ρ2 (t6 g new i)=ρ' i:=fun i hi=>by
  unfold t6
  split
  ·rename_i hlt
   have h1:=hmem i hlt
   simp only[ρ2]
   rw[if_neg (hgn _ h1)]
   obtain⟨u,q⟩:=hρg _ h1
   have:=m'.pin i u (by simp only[e9];rw[if_pos hlt];exact q)
   rw[q,this]
  ·simp only[ρ2]
   rw[if_pos (by omega)]
   congr 1
   omega
 have hφo:∀i,i<g.length+8→φ2 (t6 g new i)=φ' i:=fun i hi=>by
  unfold t6
  split
  ·rename_i hlt
   have h1:=hmem i hlt
   simp only[φ2]
   rw[if_neg (hgn _ h1),if_pos h1,o6 hn hlt]
  ·simp only[φ2]
   rw[if_pos (by omega)]
   congr 1
   omega
 have hginj:∀i j,i<g.length+8→j<g.length+8→t6 g new i=t6 g new j→i=j:=fun i j hi hj e=>by
  unfold t6 at e
  split at e <;> split at e
  ·rename_i h1 h2
   rw[←o6 hn h1,←o6 hn h2,e]
  ·rename_i h1 h2
   exact absurd ⟨by omega,by omega⟩ (hgn _ (hmem i h1))
  ·rename_i h1 h2
   exact absurd ⟨by omega,by omega⟩ (hgn _ (hmem j h2))
  ·omega
 have hcase:∀id o,apply (wO g new hout) h id=some o→(id ∉ g∧h id=some o∧¬(new≤id∧id<new+8)) ∨
   ∃i o',look hout i=some o'∧i<g.length+8∧(∀j∈wP o',j<g.length+8)∧J4 o'=true∧id=t6 g new i∧o=oW (t6 g new) o':=fun id o e=>by
  rcases y9 e with hm | ⟨q1,q2⟩
  ·right
   simp only[wO,List.mem_append,List.mem_map]at hm
   rcases hm with⟨i,_,e⟩ | ⟨⟨i,o'⟩,hm,e⟩
   ·simp at e
   ·simp only[Prod.mk.injEq,Option.some.injEq]at e
    have:=k4 _ hm
    exact⟨i,o',vU k1' hm,this.1.2,this.2,this.1.1,e.1.symm,e.2.symm⟩
  ·left
   refine⟨fun hi=>q2 (id,none) (by simp[wO,hi]) rfl,q1,fun hc=> ?_⟩
   obtain⟨u,r1,_⟩:=m.ob id o q1
   have:=hn8 (id - new) (by omega)
   rw[show new+(id - new)=id by omega,r1]at this
   cases this
 have hφn:∀id,id ∉ g→¬(new≤id∧id<new+8)→φ2 id=φ id:=fun id h1 h2=>by simp only[φ2];rw[if_neg h2,if_neg h1]
 have hmo:∀k,tY φ h g k→own φ h k:=fun k ⟨id,o,_,q2,q3,q4⟩=>⟨id,o,q2,q3,q4⟩
 have hout':∀i o' k,look hout i=some o'→o'.live=true→φ' i k→w.heap.size≤k∨tY φ h g k:=fun i o' k q1 q2 q3=>by
  have:=m'.ow k ⟨i,o',q1,q2,q3⟩
  by_cases hk:k<w.heap.size
  ·exact .inr (Classical.byContradiction fun hh=>this ⟨hk,hh⟩)
  ·exact .inl (by omega)
 have hstay:∀id o k,id ∉ g→h id=some o→o.live=true→φ id k→k<w.heap.size∧¬tY φ h g k:=fun id o k q1 q2 q3 q4=>by
  refine⟨m.lt id o k q2 q3 q4,fun⟨id',o',s1,s2,s3,s4⟩=> ?_⟩
  have:=m.dj id id' o o' k q2 q3 s2 s3 q4 s4
  subst this
  exact q1 s1
 have hblock:∀k,k<w.heap.size→¬tY φ h g k→w'.heap[k]? = w.heap[k]? :=fun k h1 h2=>m'.kp.block k ⟨h1,h2⟩
 have hown:∀k,own φ2 (apply (wO g new hout) h) k→(∃id o,id ∉ g∧h id=some o∧o.live=true∧φ id k)∨own φ' (fun i=>look hout i) k:=fun k ⟨id,o,q1,q2,q3⟩=>by
  rcases hcase id o q1 with⟨r1,r2,r3⟩ | ⟨i,o',r1,r2,r3,r4,rfl,rfl⟩
  ·rw[hφn id r1 r3]at q3
   exact .inl ⟨id,o,r1,r2,q2,q3⟩
  ·rw[hφo i r2]at q3
   rw[hH]at q2
   exact .inr ⟨i,o',r1,q2,q3⟩
 have hF:∀β a v,Fr (own φ h) Bw w β a v→Fr (own φ2 (apply (wO g new hout) h)) Bw w' β a v:=fun β a v=>Fr.evo (fun k h1 h2=>hblock k h1 fun e=>h2 (hmo k e)) (fun k hk=>by
  rcases hown k hk with⟨id,o,_,q2,q3,q4⟩ | ⟨i,o',q1,q2,q3⟩
  ·exact .inl ⟨id,o,q2,q3,q4⟩
  ·exact(hout' i o' k q1 q2 q3).elim .inr (fun e=> .inl (hmo k e))) β a v
 have hF':∀a v,Fr (own φ' (fun i=>look hout i)) (t5 φ (less g h) Bw) w' false a v→∀β,Fr (own φ2 (apply (wO g new hout) h)) Bw w' β a v:=fun a v hh β=>by
  refine⟨fun e=> ?_,fun _ hb=>hh.2.1 rfl (.inr hb),hh.2.2⟩
  rcases hown _ e with⟨id,o,q1,q2,q3,q4⟩ | q
  ·exact hh.2.1 rfl (.inl ⟨id,o,by unfold less;rw[if_neg (by simpa using q1)];exact q2,q3,q4⟩)
  ·exact hh.1 q
 have hb0:(e9 m g).w=w:=rfl
 refine⟨ρ2,φ2,⟨fun id o e=> ?_,fun id o k q1 q2 q3=> ?_,fun id id' o o' k q1 q2 q3 q4 q5 q6=> ?_,m.bw,fun k hk hkp=> ?_,?_,fun i u hi=>hρ i u (m.pin i u hi)⟩,hF,hρ,fun i u hi=> ?_,?_⟩
 ·rcases hcase id o e with⟨r1,r2,r3⟩ | ⟨i,o',r1,r2,r3,r4,rfl,rfl⟩
  ·obtain⟨u,s1,s2⟩:=m.ob id o r2
   refine⟨u,hρ id u s1,?_⟩
   rw[hφn id r1 r3]
   exact OR.mono hF hρ (fun _ h=>h) (fun hl k hk=>by
    obtain⟨t1,t2⟩:=hstay id o k r1 r2 hl hk
    exact hblock k t1 t2) s2
  ·obtain⟨u,s1,s2⟩:=m'.ob i o' r1
   refine⟨u,by rw[hρo i r2];exact s1,?_⟩
   rw[hφo i r2]
   refine aFk (ρ:=ρ') (fun j hj=>hρo j (r3 j hj)) ?_
   exact OR.mono (fun β a v hh=>hF' a v hh β) (fun _ _ h=>h) (fun _ h=>h) (fun _ _ _=>rfl) (aCC r4 s2)
 ·rcases hcase id o q1 with⟨r1,r2,r3⟩ | ⟨i,o',r1,r2,r3,r4,rfl,rfl⟩
  ·rw[hφn id r1 r3]at q3
   exact Nat.lt_of_lt_of_le (m.lt id o k r2 q2 q3) m'.kp.size
  ·rw[hφo i r2]at q3
   rw[hH]at q2
   exact m'.lt i o' k r1 q2 q3
 ·rcases hcase id o q1 with⟨r1,r2,r3⟩ | ⟨i,o1,r1,r2,r3,r4,rfl,rfl⟩ <;> rcases hcase id' o' q3 with⟨s1,s2,s3⟩ | ⟨j,o2,s1,s2,s3,s4,rfl,rfl⟩
  ·rw[hφn id r1 r3]at q5;rw[hφn id' s1 s3]at q6
   exact m.dj id id' o o' k r2 q2 s2 q4 q5 q6
  ·rw[hφn id r1 r3]at q5;rw[hφo j s2]at q6
   rw[hH]at q4
   obtain⟨t1,t2⟩:=hstay id o k r1 r2 q2 q5
   rcases hout' j o2 k s1 q4 q6 with t3 | t3
   ·omega
   ·exact absurd t3 t2
  ·rw[hφo i r2]at q5;rw[hφn id' s1 s3]at q6
   rw[hH]at q2
   obtain⟨t1,t2⟩:=hstay id' o' k s1 s2 q4 q6
   rcases hout' i o1 k r1 q2 q5 with t3 | t3
   ·omega
   ·exact absurd t3 t2
  ·rw[hφo i r2]at q5;rw[hφo j s2]at q6
   rw[hH]at q2 q4
   rw[m'.dj i j o1 o2 k r1 q2 s1 q4 q5 q6]
 ·rcases hown k hk with⟨id,o,_,q2,q3,q4⟩ | ⟨i,o',q1,q2,q3⟩
  ·exact m.ow k ⟨id,o,q2,q3,q4⟩ hkp
  ·rcases hout' i o' k q1 q2 q3 with t | t
   ·have:=w0.lt k hkp
    have:=m.kp.size
    omega
   ·exact m.ow k (hmo k t) hkp
 ·refine⟨m'.kp.os.trans m.kp.os,m'.kp.tape.trans m.kp.tape,m'.kp.output.trans m.kp.output,Nat.le_trans m.kp.size m'.kp.size,fun k hk=> ?_⟩
  rw[hblock k (Nat.lt_of_lt_of_le (w0.lt k hk) m.kp.size) (fun e=>m.ow k (hmo k e) hk)]
  exact m.kp.block k hk
 ·simp only[ρ2]at hi
  split at hi
  ·rename_i hc
   exact .inr ⟨i - new,by omega,by omega⟩
  ·exact .inl hi
 ·exact aGd (ρ:=ρ') (fun i hi=>hρo i (k3 i hi)) (V.mono (fun β a v hh=>hF' a v hh β) (fun _ _ h=>h) (I8 k2 hv))
theorem qE:∀ {l:List Nat} {i:Nat} {hin:List (Nat×Obj)},kG g h i l=some hin→∀id∈l,∃o,h id=some o
 | [],_,_,_,id,hm=>by cases hm
 | x::r,i,hin,e,id,hm=>by
  simp only[kG]at e
  split at e
  ·rename_i o' ho
   split at e
   ·split at e
    ·rename_i l' hl
     rcases List.mem_cons.1 hm with rfl | hm
     ·exact⟨o',ho⟩
     ·exact qE hl id hm
    ·cases e
   ·cases e
  ·cases e
theorem aCv(m:Mem Bw w0 ρ φ h w)(hn8:∀j,j<8→ρ (new+j)=none){o:Oper}{a:Act}{fo:Operand}{argo:Array Operand}{tys:Array TypeId}(ho:o.op = .call { callee:= .value fo,args:=argo,argTypes:=tys })
  {f:FuncId} {caps:List AVal} (hf:V (Fr (own φ h) Bw w) ρ (.fn f caps) (a.eval fo)) {xs:List AVal} (hx:VVs (Fr (own φ h) Bw w) ρ xs (argo.toList.map a.eval)) {args:List AVal} (hl:tD g (less g h) (xs++caps)=some args)
  {hin:List (Nat×Obj)} (hi:kG g h 0 g=some hin) {r:AVal} {hout:List (Nat×Obj)} (hok:vI g hout r=true)
  (hp:Owns P f args hin r hout):Good P o a w (Post Bw w0 ρ φ h w new (oS (t6 g new) r) (wO g new hout)):=by
 simp only[V]at hf
 obtain⟨vs,hfe,hvs,hcaps⟩:=hf
 obtain⟨fn,hfn,hname,hbody⟩:=hp.fn
 have hlist:∀(cs:List AVal) (us:List Value),us.length=cs.length→VL (Fr (own φ h) Bw w) ρ cs (fun k u=>us[k]? = some u)→VVs (Fr (own φ h) Bw w) ρ cs us:=fun cs=>by
  induction cs with
  | nil=>intro us hl _;cases us with | nil=>trivial | cons _ _=>simp at hl
  | cons c cs ih =>
   intro us hl hv
   cases us with
   | nil=>simp at hl
   | cons u us =>
    simp only[VL]at hv
    obtain⟨⟨u',q1,q2⟩,q3⟩:=hv
    simp at q1
    subst q1
    exact⟨q2,ih us (by simpa using hl) (VL.mono (fun _ _ _ h=>h) (fun _ _ h=>h) (fun k u hk=>by simpa using hk) q3)⟩
 have happ:∀(xs:List AVal) (us:List Value),VVs (Fr (own φ h) Bw w) ρ xs us→VVs (Fr (own φ h) Bw w) ρ (xs++caps) (us++vs.toList):=fun xs=>by
  induction xs with
  | nil =>
   intro us hv
   cases us with
   | nil=>exact hlist caps vs.toList (by simpa using hvs) (VL.mono (fun _ _ _ h=>h) (fun _ _ h=>h) (fun k u hk=>by simpa using hk) hcaps)
   | cons _ _=>exact hv.elim
  | cons x xs ih =>
   intro us hv
   cases us with
   | nil=>exact hv.elim
   | cons u us=>exact⟨hv.1,ih us hv.2⟩
 have hn:g.Nodup:=by
  simp only[vI,Bool.and_eq_true]at hok
  exact lG hok.1.1.1.1
 obtain⟨mc,L⟩:=rO m hn hi
 have hargs:=mR m L hl (happ xs _ hx)
 have hcall:=hp.calls (t5 φ (less g h) Bw) (e9 m g) (fun i=>φ (g.getD i 0)) (argo.map a.eval++vs) mc (by rw[Array.toList_append,Array.toList_map];exact hargs) (fun i u e=>by
  rw[lL hi]
  simp only[e9]at e
  split at e
  ·assumption
  ·cases e)
 refine Good.of_call (f:=f) (args:=argo.map a.eval++vs) (w':=w) ?_ (hcall.mono fun e w' ⟨v,ρ',φ',he,hm',hv⟩=>⟨v,he,?_⟩)
 ·have n1:¬fn.name = "runtime.NumGoroutine" :=by simpa using hname
  have n2:¬fn.body=none:=fun e=>by rw[e]at hbody;cases hbody
  simp[execOp,ho,resolve,hfe,Deferred.ofValue,invoke,callFunc,hfn,n1,n2]
 ·exact rV m hn hn8 (qE hi) hok hm' hv
theorem aEI(m:Mem Bw w0 ρ φ h w)(hn8:∀j,j<8→ρ (new+j)=none){o:Oper}{a:Act}{fo:Operand}{argo:Array Operand}{tys:Array TypeId}(ho:o.op = .call { callee:= .value fo,args:=argo,argTypes:=tys })
  {f:FuncId} {caps:List AVal} (hf:V (Fr (own φ h) Bw w) ρ (.fn f caps) (a.eval fo)) {xs:List AVal} (hx:VVs (Fr (own φ h) Bw w) ρ xs (argo.toList.map a.eval)) {args:List AVal} (hl:tD g (less g h) (xs++caps)=some args)
  {hin:List (Nat×Obj)} (hi:kG g h 0 g=some hin) (hok:vI g [] .unk=true) {x:Value}
  (hp:Dies P f args hin x):Bad P o a w x (fun w'=>∃v,Post Bw w0 ρ φ h w new .unk (wO g new []) v w'):=by
 simp only[V]at hf
 obtain⟨vs,hfe,hvs,hcaps⟩:=hf
 obtain⟨fn,hfn,hname,hbody⟩:=hp.fn
 have hlist:∀(cs:List AVal) (us:List Value),us.length=cs.length→VL (Fr (own φ h) Bw w) ρ cs (fun k u=>us[k]? = some u)→VVs (Fr (own φ h) Bw w) ρ cs us:=fun cs=>by
  induction cs with
  | nil=>intro us hl _;cases us with | nil=>trivial | cons _ _=>simp at hl
  | cons c cs ih =>
   intro us hl hv
   cases us with
   | nil=>simp at hl
   | cons u us =>
    simp only[VL]at hv
    obtain⟨⟨u',q1,q2⟩,q3⟩:=hv
    simp at q1
    subst q1
    exact⟨q2,ih us (by simpa using hl) (VL.mono (fun _ _ _ h=>h) (fun _ _ h=>h) (fun k u hk=>by simpa using hk) q3)⟩
 have happ:∀(xs:List AVal) (us:List Value),VVs (Fr (own φ h) Bw w) ρ xs us→VVs (Fr (own φ h) Bw w) ρ (xs++caps) (us++vs.toList):=fun xs=>by
  induction xs with
  | nil =>
   intro us hv
   cases us with
   | nil=>exact hlist caps vs.toList (by simpa using hvs) (VL.mono (fun _ _ _ h=>h) (fun _ _ h=>h) (fun k u hk=>by simpa using hk) hcaps)
   | cons _ _=>exact hv.elim
  | cons x xs ih =>
   intro us hv
   cases us with
   | nil=>exact hv.elim
   | cons u us=>exact⟨hv.1,ih us hv.2⟩
 have hn:g.Nodup:=by
  simp only[vI,Bool.and_eq_true]at hok
  exact lG hok.1.1.1.1
 obtain⟨mc,L⟩:=rO m hn hi
 have hargs:=mR m L hl (happ xs _ hx)
 have hcall:=hp.calls (t5 φ (less g h) Bw) (e9 m g) (fun i=>φ (g.getD i 0)) (argo.map a.eval++vs) mc (by rw[Array.toList_append,Array.toList_map];exact hargs) (fun i u e=>by
  rw[lL hi]
  simp only[e9]at e
  split at e
  ·assumption
  ·cases e)
 refine Bad.of_call (f:=f) (args:=argo.map a.eval++vs) (w':=w) ?_ (hcall.mono fun e w' ⟨ρ',φ',he,hm'⟩=>⟨he,undef,?_⟩)
 ·have n1:¬fn.name = "runtime.NumGoroutine" :=by simpa using hname
  have n2:¬fn.body=none:=fun e=>by rw[e]at hbody;cases hbody
  simp[execOp,ho,resolve,hfe,Deferred.ofValue,invoke,callFunc,hfn,n1,n2]
 ·exact rV m hn hn8 (qE hi) (r:= .unk) hok hm' trivial
end
end Go.Tv
