import Derived.Test.YtobbjfkfmdiklaaGreatDoorTvM
namespace Go.Tv
open Go Go.RowKit
theorem gq{h h':Nat→Qz}{i:Nat}(e:h i=h' i):∀(u:gP),apply u h i=apply u h' i:=fun u=>by
 induction u generalizing h h' with
 | nil=>exact e
 | cons p u v =>
  obtain⟨j,o⟩:=p;simp only[apply];refine v ?_;by_cases q:i=j
  ·subst q;rw[aB,aB]
  ·rw[aR _ _ q,aR _ _ q];exact e
section
variable{h h':Nat→Qz}
theorem nP{x:af}(j:∀i∈ids x,h i=h' i):fV h x=fV h' x:=by
 cases x <;> try rfl
 rename_i id;simp only[fV,j id (by simp[ids])]
theorem om:∀ {xs:List af} {h h':Nat→Qz},(∀i∈bu xs,h i=h' i)→pR h xs=pR h' xs
 | [],_,_,_=>rfl
 | x::xs,h,h',f=>by
  simp only[pR,nP (x:=x) (fun i hi=>f i (by simp[bu,hi]))];cases hd:fV h' x with
  | none=>rfl
  | some p =>
   obtain⟨y,u⟩:=p;simp only[om (xs:=xs) (h:=apply u h) (h':=apply u h') (fun i hi=>gq (f i (by simp[bu,hi])) u)]
theorem Bm(f j:List af):bu (f++j)=bu f++bu j:=by
 induction f with
 | nil=>rfl
 | cons x f p=>simp only[List.cons_append,bu,p,List.append_assoc]
theorem xQ(k:IntKind)(l:QK):bu (l.map fun i=>af.p false (.int k) i)=[]:=by
 induction l with
 | nil=>rfl
 | cons x j f=>simp only[List.map_cons,bu,ids,f,List.append_nil]
theorem tG{x:af}:bu (cellsOf x)=ids x:=by
 cases x with
 | lag k n xs f =>
  simp only[cellsOf,ids];rw[Bm];have:=xQ k xs.1;exact(congrArg (· ++ bu f) this).trans (List.nil_append _)
 | _=>simp[cellsOf,bu,ids]
theorem Cu{T:Ty}{x:af}(f:∀i∈ids x,h i=h' i):EP T h x=EP T h' x:=by
 unfold EP;rw[om (xs:=cellsOf x) (by rw[tG];exact f)]
theorem sZ{T:Ty}{x:af}(f:∀i∈ids x,h i=h' i):Fk T h x=Fk T h' x:=by
 unfold Fk;split
 ·rename_i id i sz off;rw[f id (by simp[ids])]
 ·rfl
 ·exact Cu f
theorem vC{A:Ty}:∀ {xs:List af} {h h':Nat→Qz},(∀i∈bu xs,h i=h' i)→Bv A h xs=Bv A h' xs
 | [],_,_,_=>rfl
 | x::xs,h,h',j=>by
  simp only[Bv,sZ (x:=x) (T:=A) (fun i hi=>j i (by simp[bu,hi]))];cases hd:Fk A h' x with
  | none=>rfl
  | some p =>
   obtain⟨y,u⟩:=p;simp only[vC (xs:=xs) (h:=apply u h) (h':=apply u h') (fun i hi=>gq (j i (by simp[bu,hi])) u)]
theorem wS{x:af}(j:∀i∈ids x,h i=h' i):lU h x=lU h' x:=by
 unfold lU;split <;> first
  | rfl
  | (rename_i id;rw[j id (by simp[ids])])
  | (rename_i id i sz off;rw[j id (by simp[ids])])
theorem Bu{x:af}{i:Int}(f:∀i∈ids x,h i=h' i):xX h x i=xX h' x i:=by
 unfold xX;split <;> first
  | rfl
  | (rename_i id;rw[f id (by simp[ids])])
  | (rename_i id i sz off;rw[f id (by simp[ids])])
theorem Ak{x:af}(j:∀i∈ids x,h i=h' i):lenOf h x=lenOf h' x:=by
 unfold lenOf;split <;> first
  | rfl
  | (rename_i id;rw[j id (by simp[ids])])
  | (rename_i id i sz off;rw[j id (by simp[ids])])
theorem CO{s d:TK}{x:af}(j:∀i∈ids x,h i=h' i):conv s d h x=conv s d h' x:=by
 unfold conv
 split <;> first
  | rfl
  | (rename_i id;rw[j id (by simp[ids])])
  | (rename_i id i sz off;rw[j id (by simp[ids])])
theorem mg{A:Ty}{x:af}(f:∀i∈ids x,h i=h' i):eG h A x=eG h' A x:=by
 unfold eG;split <;> first
  | rfl
  | (rename_i id;rw[f id (by simp[ids])])
  | (rename_i id i sz off;rw[f id (by simp[ids])])
theorem wi(β:Bool):∀(T:Ty) (x:T.den),bu (flat β T x)=[]
 | .unit,_=>rfl
 | .prod a b,x=>by
  have h1:=wi β a x.1;have h2:=wi β b x.2;apply List.eq_nil_iff_forall_not_mem.2;intro i hi;simp only[flat,cE,List.mem_append]at hi;obtain⟨y,f,hi⟩:=hi;rcases f with f | f
  ·have:i∈bu (flat β a x.1):=cE.2 ⟨y,f,hi⟩;rw[h1]at this;cases this
  ·have:i∈bu (flat β b x.2):=cE.2 ⟨y,f,hi⟩;rw[h2]at this;cases this
 | .int _,_=>rfl
 | .bool,_=>rfl
 | .str,_=>rfl
 | .flt,_=>rfl
 | .slice _,_=>rfl
 | .ptr _,_=>rfl
 | .tree _ _,_=>rfl
 | .arr k _,x=>xQ k x.1
 | .mapi _ _,_=>rfl
theorem Kj{j new:List af}{p i:Nat}(hi:i∈bu (wr j p new)):i∈bu j∨i∈bu new:=by
 obtain⟨y,f,hi⟩:=cE.1 hi;simp only[wr,List.mem_append]at f;rcases f with(f | f) | f
 ·exact .inl (cE.2 ⟨y,List.mem_of_mem_take f,hi⟩)
 ·exact .inr (cE.2 ⟨y,f,hi⟩)
 ·exact .inl (cE.2 ⟨y,List.mem_of_mem_drop f,hi⟩)
theorem Ae{A:Ty}{xs:List A.den}{i off:Nat}{y:af}(p:∀i∈ids y,h i=h' i):BL A h xs i off y=BL A h' xs i off y:=by
 unfold BL;refine sZ fun j f=>?_
 simp only[ids]at f;rcases Kj f with h1 | h1
 ·rw[wi]at h1;cases h1
 ·rw[tG]at h1;exact p j h1
theorem ud{x:af}(f:∀i∈ids x,h i=h' i):wv h x=wv h' x:=by
 cases x <;> try rfl
 rename_i id;simp only[wv,f id (by simp[ids])]
theorem nK:∀ {xs:List af},(∀i∈bu xs,h i=h' i)→oK h xs=oK h' xs
 | [],_=>rfl
 | x::xs,f=>by
  simp only[oK,ud (x:=x) (fun i hi=>f i (by simp[bu,hi])),nK (xs:=xs) (fun i hi=>f i (by simp[bu,hi]))]
def JC(h h':Nat→Qz)(I:QV):Prop:=∀i∈I,h i=h' i∧∀p,h i=some (.box p)→∀j∈bu p,h j=h' j
theorem tq{x:af}(j:JC h h' (ids x)):qI h x=qI h' x:=by
 have p:∀i∈ids x,h i=h' i:=fun i hi=>(j i hi).1
 cases x <;> try rfl
 ·simp only[qI,ud p]
 ·rename_i id i sz off;simp only[qI];have h1:=j id (by simp[ids]);rw[←h1.1];cases q:h id with
  | none=>rfl
  | some ob =>
   cases ob with
   | box f=>simp only[nK (xs:=f) (h:=h) (h':=h') (h1.2 f q)]
   | arr _ _ _=>rfl
   | fz _ _=>rfl
   | mpo _ _ _=>rfl
   | mpl _ _=>rfl
   | bytes _ _=>rfl
   | cutz _ _=>rfl
   | lmp _ _ _ _=>rfl
   | vrow _ _ _=>rfl
   | mat _ _ _ _ _=>rfl
   | nds _ _ _ _=>rfl
   | mpq _ _=>rfl
 ·rename_i f;simp only[qI];rw[nK (xs:=f) (h:=h) (h':=h') (fun i hi=>p i (by simpa [ids]using hi))]
theorem qT:∀ {xs:List af},JC h h' (bu xs)→qE h xs=qE h' xs
 | [],_=>rfl
 | x::xs,f=>by
  simp only[qE,tq (x:=x) (fun i hi=>f i (by simp[bu,hi])),qT (xs:=xs) (fun i hi=>f i (by simp[bu,hi]))]
theorem vh{x:af}(j:JC h h' (ids x)):Bg h x=Bg h' x:=by
 cases x <;> try (simp only[Bg];exact tq j)
 rename_i f p;simp only[Bg];rw[qT (xs:=p) (h:=h) (h':=h') (fun i hi=>j i (by simpa [ids]using hi))]
theorem pf:∀ {xs:List af},JC h h' (bu xs)→nT h xs=nT h' xs
 | [],_=>rfl
 | x::xs,j=>by
  simp only[nT,vh (x:=x) (fun i hi=>j i (by simp[bu,hi])),pf (xs:=xs) (fun i hi=>j i (by simp[bu,hi]))]
theorem wI{g:QV}{i:Nat}(e:h i=h' i):less g h i=less g h' i:=by
 unfold less;split
 ·rfl
 ·exact e
theorem wM{α β:Type}{l:List α}{f j:α→List β}(e:∀x∈l,f x=j x):l.flatMap f=l.flatMap j:=by
 induction l with
 | nil=>rfl
 | cons x l p=>simp only[List.flatMap_cons,e x (by simp),p (fun y q=>e y (by simp[q]))]
theorem ue{g:QV}:∀ {xs:List af},JC h h' (bu xs)→ra g h xs=ra g h' xs
 | [],_=>rfl
 | x::xs,j=>by
  have e:yl g h x=yl g h' x:=by unfold yl;rw[vh (x:=x) (fun i hi=>j i (by simp[bu,hi]))]
  simp only[ra,e,ue (xs:=xs) (fun i hi=>j i (by simp[bu,hi]))]
theorem AT{g:QV}{h h':Nat→Qz}(j:∀i∈g,h i=h' i):jR g h 0 g=jR g h' 0 g:=by
 have key:∀(l:QV) (k:Nat),(∀i∈l,i∈g)→jR g h k l=jR g h' k l:=fun l=>by
  induction l with
  | nil=>intro k _;rfl
  | cons x l p =>intro k hl;simp only[jR,j x (hl x (by simp)),p (k+1) (fun i hi=>hl i (by simp[hi]))]
 exact key g 0 fun _ h=>h
theorem Cn{x:af}(f:∀i∈ids x,h i=h' i):wZ h x=wZ h' x:=by
 cases x <;> try (simp only[wZ];exact nP f)
 rename_i j;simp only[wZ];rw[om (xs:=j) (h:=h) (h':=h') (fun i hi=>f i (by simpa [ids]using hi))]
theorem qq:∀ {bs:List Bool} {xs:List af} {h h':Nat→Qz},(∀i∈bu xs,h i=h' i)→frzL h bs xs=frzL h' bs xs
 | _,[],_,_,_=>by simp only[frzL]
 | [],_::_,_,_,_=>rfl
 | false::bs,x::xs,h,h',j=>by
  simp only[frzL,qq (bs:=bs) (xs:=xs) (h:=h) (h':=h') (fun i hi=>j i (by simp[bu,hi]))]
 | true::bs,x::xs,h,h',j=>by
  simp only[frzL,Cn (x:=x) (h:=h) (h':=h') (fun i hi=>j i (by simp[bu,hi]))];cases wZ h' x with
  | none=>rfl
  | some p =>
   obtain⟨y,u⟩:=p;simp only[qq (bs:=bs) (xs:=xs) (h:=apply u h) (h':=apply u h') (fun i hi=>gq (j i (by simp[bu,hi])) u)]
def qH(u:gP):Prop:=∀p∈u,∃A f,p.2=some (.fz A f)
theorem qH.append{u v:gP}(hu:qH u)(j:qH v):qH (u++v):=fun p hp=>(List.mem_append.1 hp).elim (hu p) (j p)
theorem xT{x y:af}{u:gP}(hd:fV h x=some (y,u)):qH u∧∀i∈ids y,i∈ids x:=by
 unfold fV at hd;split at hd
 ·split at hd
  ·cases hd;exact⟨fun p hp=>by simp at hp;subst hp;exact⟨_,_,rfl⟩,fun i hi=>by simp[ids]at hi⟩
  ·cases hd;exact⟨fun p hp=>by simp at hp,fun i hi=>by simp[ids]at hi⟩
  ·cases hd;exact⟨fun p hp=>by simp at hp;subst hp;exact⟨_,_,rfl⟩,fun i hi=>by simp[ids]at hi⟩
  ·cases hd;exact⟨fun p hp=>by simp at hp;subst hp;exact⟨_,_,rfl⟩,fun i hi=>by simp[ids]at hi⟩
  ·cases hd;exact⟨fun p hp=>by simp at hp;subst hp;exact⟨_,_,rfl⟩,fun i hi=>by simp[ids]at hi⟩
  ·cases hd
 ·cases hd;exact⟨fun p hp=>by simp at hp,fun i hi=>hi⟩
theorem By:∀ {j f:List af} {h:Nat→Qz} {u:gP},pR h j=some (f,u)→qH u∧∀i∈bu f,i∈bu j
 | [],f,h,u,hd=>by cases hd;exact⟨fun p hp=>by simp at hp,fun i hi=>hi⟩
 | x::j,f,h,u,hd=>by
  simp only[pR]at hd;split at hd
  ·rename_i y C h1;split at hd
   ·rename_i q D h2;cases hd;obtain⟨v,z⟩:=xT h1;obtain⟨A,B⟩:=By h2;refine⟨v.append A,fun i hi=>?_⟩;simp only[bu,List.mem_append]at hi ⊢;exact hi.imp (z i) (B i)
   ·cases hd
  ·cases hd
theorem H9{x y:af}{u:gP}(hd:wZ h x=some (y,u)):qH u∧∀i∈ids y,i∈ids x:=by
 unfold wZ at hd;split at hd
 ·split at hd
  ·rename_i p q h1;cases hd;obtain⟨f,j⟩:=By h1;exact⟨f,fun i hi=>by simp only[ids]at hi ⊢;exact j i hi⟩
  ·cases hd
 ·exact xT hd
theorem zC:∀ {bs:List Bool} {xs j:List af} {h:Nat→Qz} {u:gP},frzL h bs xs=some (j,u)→qH u∧∀i∈bu j,i∈bu xs
 | _,[],j,h,u,hd=>by simp only[frzL]at hd;cases hd;exact⟨fun p hp=>by simp at hp,fun i hi=>hi⟩
 | [],_::_,j,h,u,hd=>by simp only[frzL]at hd;cases hd;exact⟨fun p hp=>by simp at hp,fun i hi=>hi⟩
 | false::bs,x::xs,j,h,u,hd=>by
  simp only[frzL]at hd;split at hd
  ·rename_i q D h1;cases hd;obtain⟨v,z⟩:=zC h1;refine⟨v,fun i hi=>?_⟩;simp only[bu,List.mem_append]at hi ⊢;exact hi.imp (fun h=>h) (z i)
  ·cases hd
 | true::bs,x::xs,j,h,u,hd=>by
  simp only[frzL]at hd;split at hd
  ·rename_i y E h1;split at hd
   ·rename_i q I h2;cases hd;obtain⟨v,z⟩:=H9 h1;obtain⟨B,C⟩:=zC h2;refine⟨v.append B,fun i hi=>?_⟩;simp only[bu,List.mem_append]at hi ⊢;exact hi.imp (z i) (C i)
   ·cases hd
  ·cases hd
theorem yG{u:gP}(hu:qH u){i:Nat}{v:List af}:∀ {h:Nat→Qz},apply u h i=some (.box v)→h i=some (.box v):=by
 induction u with
 | nil=>intro h hb;exact hb
 | cons p u x =>
  intro h hb;obtain⟨j,o⟩:=p;have h1:=x (fun q z=>hu q (by simp[z])) hb;by_cases e:i=j
  ·subst e;rw[aB]at h1;obtain⟨A,xs,h2⟩:=hu (i,o) (by simp);simp only at h2;rw[h1]at h2;cases h2
  ·rw[aR _ _ e]at h1;exact h1
theorem Aw{xs:List af}(p:∀i∈vD h xs,h i=h' i):JC h h' (bu xs):=fun i hi =>
 ⟨p i (List.mem_append_left _ hi),fun u hc j q=>p j (List.mem_append_right _ (List.mem_flatMap.2 ⟨i,hi,by rw[hc];exact q⟩))⟩
theorem vv{tb:bQ}{new:Nat}{t:TypeId}{x:af}{j hi:Option (Option Int)}(p:∀i∈ids x,h i=h' i):oF tb new t x j hi h=oF tb new t x j hi h':=by
 unfold oF;split
 ·split
  ·split <;> first
    | rfl
    | (rename_i id;rw[p id (by simp[ids])])
  ·rfl
 ·rfl
theorem xF{new:Nat}{ti:TI}{x:af}(v:∀i∈ids x,h i=h' i)(z:∀i∈ids x,∀e u A q k j,h i=some (.mat e u A q (some (k,j)))→h j=h' j):lR new ti x h=lR new ti x h':=by
 unfold lR;cases x <;> try rfl
 rename_i id i sz off;simp only;have B:=v id (by simp[ids]);have u:=z id (by simp[ids]);rw[←B];cases hm:h id with
 | none=>rfl
 | some ob =>
  cases ob with
  | mat e C A q hole =>
   cases hole with
   | none=>rfl
   | some p =>
    obtain⟨k,j⟩:=p;simp only[u _ _ _ _ _ _ hm]
  | _=>rfl
theorem vt{ti:TI}{x:af}(p:∀i∈ids x,h i=h' i):mC ti x h=mC ti x h':=by
 unfold mC;split
 ·rename_i id b n i k _;have j:=p id (by simp[ids]);rw[j]
 ·rfl
theorem uh{ti:TI}{x y:af}(j:∀i∈ids x,h i=h' i):kH ti x y h=kH ti x y h':=by
 unfold kH;split
 ·rename_i id b n i _ k v;have f:=j id (by simp[ids]);rw[f]
 ·rfl
theorem ui{tb:bQ}{t:TypeId}{x i:af}(p:∀i∈ids x,h i=h' i):kL tb t x i h=kL tb t x i h':=by
 unfold kL;cases tb.find t with
 | none=>rfl
 | some ti =>
  simp only;split
  ·split
   ·split
    ·split
     ·rename_i id j sz off _ _ _;rw[p id (by simp[ids])]
     ·rfl
     ·rfl
    ·split
     ·split
      ·rename_i id j sz off _ _ _;rw[p id (by simp[ids])]
      ·rfl
     ·rfl
   ·rfl
  ·rfl
theorem qu{tb:bQ}{t:TypeId}{x i:af}(j:∀i∈ids x,h i=h' i):iS tb t x i h=iS tb t x i h':=by
 unfold iS;cases gZ tb t with
 | none=>rfl
 | some q =>
  simp only;split
  ·rw[Bu j]
  ·rfl
theorem uk{P:Program}{tb:bQ}{t:TypeId}{x k:af}{ok:Bool}(j:∀i∈ids x,h i=h' i):mG P tb t x k ok h=mG P tb t x k ok h':=by
 unfold mG;split
 ·split
  ·rename_i id;rw[j id (by simp[ids])]
  ·rfl
 ·rfl
theorem sP{P:Program}{tb:bQ}{t:TypeId}{g:QV}{x k:af}{ok:Bool}(j:∀i∈ids x,h i=h' i):lq P tb t g x k ok h=lq P tb t g x k ok h':=by
 unfold lq;split
 ·split
  ·rename_i id;rw[j id (by simp[ids])]
  ·rfl
 ·rfl
theorem kT{P:Program}{tb:bQ}{t:TypeId}{x k y:af}(j:∀i∈ids x,h i=h' i)(p:∀i∈ids y,h i=h' i):fG P tb t x k y h=fG P tb t x k y h':=by
 unfold fG;split
 ·split
  ·rename_i id;rw[j id (by simp[ids])];split
   ·split
    ·split
     ·rw[sZ p]
     ·rfl
    ·rfl
   ·rfl
  ·rfl
 ·rfl
theorem kd{P:Program}{tb:bQ}{t:TypeId}{x k y:af}(j:∀i∈ids x,h i=h' i):eU P tb t x k y h=eU P tb t x k y h':=by
 unfold eU;split
 ·split
  ·rename_i id;rw[j id (by simp[ids])]
  ·rfl
 ·rfl
theorem zb{id i:Nat}{e e2:TypeId}{A:Ty}{xss:List (List A.den)}{hole:Option (Nat×Nat)}{y:af}(f:∀i∈ids y,h i=h' i)(q:∀k j,hole=some (k,j)→h j=h' j):sA id i e e2 A xss hole y h=sA id i e e2 A xss hole y h':=by
 unfold sA;cases y <;> try rfl
 rename_i r;simp only;rw[←f r (by simp[ids])];cases h r with
 | none=>rfl
 | some ob =>
  cases ob with
  | arr u B v =>
   cases hole with
   | none=>rfl
   | some p =>
    obtain⟨k,j⟩:=p;simp only[q k j rfl]
  | _=>rfl
theorem vA{tb:bQ}{t:TypeId}{x y:af}(u:∀i∈ids x,h i=h' i)(v:∀i∈ids y,h i=h' i)(z:∀i∈ids x,∀e e2 A xss k j,h i=some (.mat e e2 A xss (some (k,j)))→h j=h' j):ov tb t x y h=ov tb t x y h':=by
 unfold ov;cases tb.find t with
 | none=>rfl
 | some ti =>
  simp only;split
  ·cases x <;> try rfl
   case ada=>exact uh u
   rename_i id i sz off;simp only;have p:=u id (by simp[ids]);have q:=z id (by simp[ids]);rw[←p];cases hm:h id with
   | none=>rfl
   | some ob =>
    cases ob with
    | arr e A xs=>simp only[Ae (A:=A) (xs:=xs) (i:=i) (off:=off) v]
    | fz _ _=>rfl
    | box _=>rfl
    | mpo _ _ _=>rfl
    | mpl _ _=>rfl
    | bytes _ _=>rfl
    | cutz _ _=>rfl
    | lmp _ _ _ _=>rfl
    | vrow _ _ _=>rfl
    | nds _ _ _ _=>rfl
    | mpq _ _=>rfl
    | mat e e2 A xss hole=>simp only[zb (id:=id) (i:=i) (e:=e) (e2:=e2) (A:=A) (xss:=xss) (hole:=hole) v (fun k j B=>q e e2 A xss k j (by rw[hm,B]))]
  ·rfl
theorem ur{tb:bQ}{new:Nat}{t:TypeId}{x y:af}(j:∀i∈ids x,h i=h' i)(q:∀i∈ids y,h i=h' i):mH tb new t x y h=mH tb new t x y h':=by
 unfold mH;cases gZ tb t with
 | none=>rfl
 | some p =>
  obtain⟨e,u,A⟩:=p;simp only[mg (A:=A) q];cases eG h' A y with
  | none=>rfl
  | some v =>
   simp only;cases x <;> try rfl
   rename_i id;simp only;rw[j id (by simp[ids])]
theorem xG{tb:bQ}{t:TypeId}{x y:af}(j:∀i∈ids x,h i=h' i)(q:∀i∈ids y,h i=h' i):rT tb t x y h=rT tb t x y h':=by
 unfold rT;cases gZ tb t with
 | none=>rfl
 | some p =>
  obtain⟨e,u,A⟩:=p;simp only[mg (A:=A) q];cases eG h' A y with
  | none=>rfl
  | some v =>
   simp only;cases x <;> try rfl
   rename_i id;simp only;rw[j id (by simp[ids])]
end
def fk(s:Nat→af)(op:Op):List af:=op.operands.toList.map (ev s)
theorem fH{s:Nat→af}{op:Op}{x:Operand}(j:x∈op.operands.toList):∀i∈ids (ev s x),i∈bu (fk s op):=fun _ hi =>
 cE.2 ⟨ev s x,List.mem_map.2 ⟨x,j,rfl⟩,hi⟩
def uZ(h:Nat→Qz)(f:List af):QV :=
 bu f++(bu f).flatMap fun i=>match h i with
  | some (.mat _ _ _ _ (some (_,j)))=>[j]
  | _=>[]
theorem wD{h:Nat→Qz}{xs:List af}{i:Nat}{e q:TypeId}{A:Ty}{p:List (List A.den)}{k j:Nat}(hi:i∈bu xs)(hm:h i=some (.mat e q A p (some (k,j)))):j∈uZ h xs :=
 List.mem_append_right _ (List.mem_flatMap.2 ⟨i,hi,by rw[hm];exact .head _⟩)
def jD(h:Nat→Qz)(op:Op)(xs:List af):QV :=
 match op with
 | .call _=>vD h xs
 | .load _ _=>uZ h xs
 | .store _ _ _=>uZ h xs
 | .move _=>[]
 | .assign _=>[]
 | .nilCheck _=>[]
 | .fieldAddr _ _ _=>[]
 | _=>bu xs
theorem CU{P:Program}{tb:bQ}{new:Nat}{asm:Option Bool}{iE:Option wE}{op:Op}{s N:Nat→af}{h h':Nat→Qz}
  (v:∀x∈op.operands.toList,ev s x=ev N x) (hh:∀i∈jD h op (fk s op),h i=h' i):gN P tb new asm iE op s h=gN P tb new asm iE op N h':=by
 by_cases I:(∃x,op = .move x)∨(∃x,op = .assign x)∨(∃x,op = .nilCheck x)∨∃t x f,op = .fieldAddr t x f
 ·rcases I with⟨x,rfl⟩ | ⟨x,rfl⟩ | ⟨x,rfl⟩ | ⟨t,x,f,rfl⟩ <;> simp only[gN,v x (by simp[Op.operands])]
 have a2:∀i∈bu (fk s op),h i=h' i:=fun i hi=>by
  refine hh i ?_;unfold jD;split
  ·exact List.mem_append_left _ hi
  ·exact List.mem_append_left _ hi
  ·exact List.mem_append_left _ hi
  ·rename_i x;exact absurd (.inl ⟨x,rfl⟩) I
  ·rename_i x;exact absurd (.inr (.inl ⟨x,rfl⟩)) I
  ·rename_i x;exact absurd (.inr (.inr (.inl ⟨x,rfl⟩))) I
  ·rename_i t x f;exact absurd (.inr (.inr (.inr ⟨t,x,f,rfl⟩))) I
  ·exact hi
 have key:∀x∈op.operands.toList,∀i∈ids (ev s x),h i=h' i:=fun x O i hi=>a2 i (fH O i hi)
 cases op with
 | move x=>simp only[gN,v x (by simp[Op.operands])]
 | assign x=>simp only[gN,v x (by simp[Op.operands])]
 | pick c x y =>
  have e:∀b:Bool,ev s (if b=true then x else y)=ev N (if b=true then x else y):=fun b=>by
   cases b
   ·exact v y (by simp[Op.operands])
   ·exact v x (by simp[Op.operands])
  simp only[gN,yZ,v c (by simp[Op.operands]),e,v x (by simp[Op.operands]),v y (by simp[Op.operands])]
 | alloc t=>rfl
 | box t x=>simp only[gN,v x (by simp[Op.operands])]
 | build t ps =>
  simp only[gN];have e:ps.toList.map (fun p=>ev s p.2)=ps.toList.map (fun p=>ev N p.2):=List.map_congr_left (fun p hp=>v p.2 (by simp only[Op.operands,List.mem_map];exact⟨p,hp,rfl⟩));rw[e]
 | buildSlice t len ps =>
  simp only[gN];have e:ps.toList.map (fun p=>ev s p.2)=ps.toList.map (fun p=>ev N p.2):=List.map_congr_left (fun p hp=>v p.2 (by simp only[Op.operands,List.mem_map];exact⟨p,hp,rfl⟩));rw[←e];unfold mf;cases gZ tb t with
  | none=>rfl
  | some q =>
   obtain⟨e,te,A⟩:=q;simp only;split
   ·rw[vC (A:=A) (fun i hi=>by
     obtain⟨y,C,hi⟩:=cE.1 hi;obtain⟨p,hp,rfl⟩:=List.mem_map.1 C;exact key p.2 (by simp only[Op.operands,List.mem_map];exact⟨p,hp,rfl⟩) i hi)]
   ·rfl
 | load t x =>
  simp only[gN,←v x (by simp[Op.operands])];have O:=key x (by simp[Op.operands]);have e2:∀ti,lR new ti (ev s x) h=lR new ti (ev s x) h':=fun ti=>xF O (fun i hi e e2 A a3 k j hm=>hh j (wD (fH (by simp[Op.operands]) i hi) hm))
  unfold yL;simp only[wS O,vt O,e2]
 | store t x y =>
  simp only[gN,←v x (by simp[Op.operands]),←v y (by simp[Op.operands])];exact vA (key x (by simp[Op.operands])) (key y (by simp[Op.operands])) (fun i hi e e2 A a3 k j hm=>hh j (wD (fH (by simp[Op.operands]) i hi) hm))
 | binOp o t x y t'=>simp only[gN,v x (by simp[Op.operands]),v y (by simp[Op.operands])]
 | unOp o t x=>simp only[gN,v x (by simp[Op.operands])]
 | nilCheck x=>simp only[gN,v x (by simp[Op.operands])]
 | convert st dt x =>
  simp only[gN,←v x (by simp[Op.operands])];cases iE with
  | some _=>rfl
  | none=>?_
  simp only;unfold yK;cases tb.find st with
  | none=>rfl
  | some si =>
   cases tb.find dt with
   | none=>rfl
   | some di =>
    simp only;cases Ha tb di.k (ev s x)with
    | some r=>rfl
    | none=>simp only[CO (s:=si.k) (d:=di.k) (key x (by simp[Op.operands]))]
 | slice t x lo hi mx =>
  cases mx with
  | some mo =>
   cases hi with
   | none=>rfl
   | some a4 =>
    have e1:pL s lo=pL N lo:=by
     cases lo with
     | none=>rfl
     | some y=>simp only[pL,v y (by simp[Op.operands])]
    simp only[gN,←v x (by simp[Op.operands]),←v a4 (by simp[Op.operands]),←v mo (by simp[Op.operands]),←e1];have O:=key x (by simp[Op.operands]);cases iE with
    | some _ =>
     simp only;unfold CA;rw[nP O]
    | none=>?_
    simp only;unfold sR;split
    ·split
     ·rfl
     ·rename_i id ex;rw[O id (by rw[ex];simp[ids])]
     ·rfl
    ·rfl
  | none =>
   have e1:pL s lo=pL N lo:=by
    cases lo with
    | none=>rfl
    | some y=>simp only[pL,v y (by simp[Op.operands])]
   have e2:pL s hi=pL N hi:=by
    cases hi with
    | none=>rfl
    | some y=>simp only[pL,v y (by simp[Op.operands])]
   simp only[gN,←v x (by simp[Op.operands]),←e1,←e2];exact vv (key x (by simp[Op.operands]))
 | fieldAddr t x f=>simp only[gN,v x (by simp[Op.operands])]
 | indexAddr t x i =>
  simp only[gN,←v x (by simp[Op.operands]),←v i (by simp[Op.operands])];simp only[ui (key x (by simp[Op.operands])),qu (key x (by simp[Op.operands]))]
 | index t x i=>simp only[gN,v x (by simp[Op.operands]),v i (by simp[Op.operands])]
 | extract x i=>simp only[gN,v x (by simp[Op.operands])]
 | typeAssert x xt t ok=>simp only[gN,v x (by simp[Op.operands])]
 | makeFunc f fs cs =>
  simp only[gN];rw[List.map_congr_left (f:=ev s) (g:=ev N) (fun p hp=>v p (by simp only[Op.operands,Array.toList_append,List.mem_append];exact .inr hp))]
 | makeSlice t l c=>simp only[gN,v l (by simp[Op.operands]),v c (by simp[Op.operands])]
 | call c =>
  obtain⟨callee,args,D⟩:=c;have B:∀x∈args.toList,x∈(Op.call { callee,args,argTypes:=D }).operands.toList:=fun x O=>by simp only[Op.operands,Call.operands,Array.toList_append,List.mem_append];exact .inr O
  have e:args.toList.map (ev s)=args.toList.map (ev N):=List.map_congr_left (fun p hp=>v p (B p hp));have hk:∀y∈args.toList.map (ev s),∀i∈ids y,h i=h' i:=fun y C i hi=>by obtain⟨p,hp,rfl⟩:=List.mem_map.1 C;exact key p (B p hp) i hi
  have hc:=Aw (h':=h') (xs:=fk s (Op.call { callee,args,argTypes:=D })) hh;simp only[gN,pz];cases callee with
  | builtin b =>
   simp only[←e];unfold qm;split
   ·rename_i y t V et;split
    ·unfold sv;split
     ·split
      ·rename_i id _ _;rw[hk (.mp id) (by rw[V];simp) id (by simp[ids])]
      ·rfl
     ·rfl
    ·unfold CX;rw[Ak (hk y (by rw[V];simp))]
   ·rfl
   ·rfl
   ·rename_i y z t t' V et;split
    ·exact ur (hk y (by rw[V];simp)) (hk z (by rw[V];simp))
    ·rfl
   ·rename_i y z t t' V et;exact xG (hk y (by rw[V];simp)) (hk z (by rw[V];simp))
   ·rfl
  | value f =>
   have hf:f∈(Op.call { callee:= .value f,args,argTypes:=D }).operands.toList:=by simp[Op.operands,Call.operands]
   simp only[←e,←v f hf];generalize a5:gK tb (HP iE) D.toList (args.toList.map (ev s))=xs;have X:∀i∈bu xs,i∈bu (args.toList.map (ev s)):=fun i hi=>by rw[←a5,nf]at hi;exact hi
   unfold uB;split
   ·rename_i fid a1 q ef;have hin:∀i∈bu (A8 (ev s f)::xs),i∈bu (fk s (Op.call { callee:= .value f,args,argTypes:=D })):=fun i hi=>by
     simp only[bu,List.mem_append]at hi;rcases hi with hi | hi
     ·exact fH hf i (Bq i hi)
     ·obtain⟨y,C,E⟩:=cE.1 (X i hi);obtain⟨p,hp,rfl⟩:=List.mem_map.1 C;exact fH (B p hp) i E
    rw[qq (bs:=q.fl) (h:=h) (h':=h') (fun i hi=>by
     obtain⟨y,C,E⟩:=cE.1 (X i hi);exact hk y C i E)]
    cases a6:frzL h' q.fl xs with
    | none=>rfl
    | some p =>
     obtain⟨ys,u⟩:=p;obtain⟨z1,z2⟩:=zC a6;have J:JC (apply u h) (apply u h') (bu (ys++a1)):=fun i hi=>by
      have Y:i∈bu (fk s (Op.call { callee:= .value f,args,argTypes:=D })):=by
       obtain⟨y,C,E⟩:=cE.1 hi;rcases List.mem_append.1 C with C | C
       ·obtain⟨y2,a7,Y⟩:=cE.1 (X i (z2 i (cE.2 ⟨y,C,E⟩)));obtain⟨p,hp,rfl⟩:=List.mem_map.1 a7;exact fH (B p hp) i Y
       ·refine fH hf i (Bq i ?_);rw[ef];simp only[ids];exact cE.2 ⟨y,C,E⟩
      obtain⟨c1,c2⟩:=hc i Y;exact⟨gq c1 u,fun cs L j hj=>gq (c2 cs (yG z1 L) j hj) u⟩
     simp only;split
     ·have M:vD h (A8 (ev s f)::xs)=vD h' (A8 (ev s f)::xs):=by
       unfold vD;congr 1;refine wM fun i hi=>?_
       rw[(hc i (hin i hi)).1]
      rw[M];split
      ·rename_i hg;have a8:∀i∈q.g,h i=h' i:=fun i hi=>by
        have:=List.all_eq_true.1 hg i hi;rw[←M]at this;simp only[List.contains_eq_mem,decide_eq_true_eq]at this;unfold vD at this;rcases List.mem_append.1 this with h1 | h1
        ·exact(hc i (hin i h1)).1
        ·obtain⟨j,hj,Z⟩:=List.mem_flatMap.1 h1;split at Z
         ·rename_i cs L;exact(hc j (hin j hj)).2 cs L i Z
         ·cases Z
       rw[AT (g:=q.g) (h:=apply u h) (h':=apply u h') (fun i hi=>gq (a8 i hi) u),
        ue (g:=q.g) (h:=less q.g (apply u h)) (h':=less q.g (apply u h')) (fun i hi=>⟨wI (J i hi).1,fun cs L j hj=>wI ((J i hi).2 cs (rO L).1 j hj)⟩)]
      ·rfl
     ·rw[pf (h:=apply u h) (h':=apply u h') J]
   ·rfl
  | invoke r m=>rfl
 | makeMap t r=>cases r <;> rfl
 | lookup t x k ok =>
  simp only[gN,←v x (by simp[Op.operands]),←v k (by simp[Op.operands])];rw[uk (key x (by simp[Op.operands])),sP (key x (by simp[Op.operands]))]
 | mapUpdate t x k y =>
  simp only[gN,←v x (by simp[Op.operands]),←v k (by simp[Op.operands]),←v y (by simp[Op.operands])];rw[kT (key x (by simp[Op.operands])) (key y (by simp[Op.operands])),kd (key x (by simp[Op.operands]))]
 | insert t x k y =>
  simp only[gN,←v x (by simp[Op.operands]),←v k (by simp[Op.operands]),←v y (by simp[Op.operands])];rw[kT (key x (by simp[Op.operands])) (key y (by simp[Op.operands])),kd (key x (by simp[Op.operands]))]
 | _=>rfl
theorem yr{P:Program}{tb:bQ}{new:Nat}{asm:Option Bool}{iE:Option wE}{op:Op}{s u:Nat→af}{h h':Nat→Qz}
  (v:∀x∈op.operands.toList,ev s x=ev u x) (z:∀i∈jD h op (fk s op),h i=h' i):EC P tb new asm iE op s h=EC P tb new asm iE op u h':=by
 have key:∀x∈op.operands.toList,(¬((∃x,op = .move x)∨(∃x,op = .assign x)∨(∃x,op = .nilCheck x)∨∃t x f,op = .fieldAddr t x f))→∀i∈ids (ev s x),h i=h' i:=fun x q j i hi=>by
  have p:=fH q i hi;refine z i ?_;unfold jD;split
  ·exact List.mem_append_left _ p
  ·exact List.mem_append_left _ p
  ·exact List.mem_append_left _ p
  ·rename_i x;exact absurd (.inl ⟨x,rfl⟩) j
  ·rename_i x;exact absurd (.inr (.inl ⟨x,rfl⟩)) j
  ·rename_i x;exact absurd (.inr (.inr (.inl ⟨x,rfl⟩))) j
  ·rename_i t x f;exact absurd (.inr (.inr (.inr ⟨t,x,f,rfl⟩))) j
  ·exact p
 have C:pJ tb new iE.isSome op s h=pJ tb new iE.isSome op u h':=De v key;have D:iZ P tb new iE op s h=iZ P tb new iE op u h':=CR v key (fun c hc I E=>by
  subst hc;have B:=Aw (h':=h') (xs:=fk s (Op.call c)) z;refine pf fun i hi=>?_
  obtain⟨x,q,hi⟩:=E i hi;exact B i (fH q i hi)) (fun c hc A x q=>by
  subst hc;exact mg (fun i hi=>key x q (by rintro(⟨_,e⟩ | ⟨_,e⟩ | ⟨_,e⟩ | ⟨_,_,_,e⟩) <;> cases e) i hi))
 unfold EC;rw[C,D,CU v z]
end Go.Tv
