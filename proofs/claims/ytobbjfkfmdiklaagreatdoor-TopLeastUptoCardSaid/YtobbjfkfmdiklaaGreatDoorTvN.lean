import Derived.Test.YtobbjfkfmdiklaaGreatDoorTvM
namespace Go.Tv
open Go Go.RowKit
theorem gA{h h':Nat→Qz}{i:Nat}(e:h i=h' i):∀(u:gZ),apply u h i=apply u h' i:=fun u=>by
 induction u generalizing h h' with
 | nil=>exact e
 | cons p u v =>
  obtain⟨j,o⟩:=p;simp only[apply];refine v ?_;by_cases q:i=j
  ·subst q;rw[aB,aB]
  ·rw[aR _ _ q,aR _ _ q];exact e
section
variable{h h':Nat→Qz}
theorem nr{x:af}(j:∀i∈ids x,h i=h' i):gf h x=gf h' x:=by
 cases x <;> try rfl
 rename_i id;simp only[gf,j id (by simp[ids])]
theorem oF:∀ {xs:List af} {h h':Nat→Qz},(∀i∈bu xs,h i=h' i)→qi h xs=qi h' xs
 | [],_,_,_=>rfl
 | x::xs,h,h',f=>by
  simp only[qi,nr (x:=x) (fun i hi=>f i (by simp[bu,hi]))];cases hd:gf h' x with
  | none=>rfl
  | some p =>
   obtain⟨y,u⟩:=p;simp only[oF (xs:=xs) (h:=apply u h) (h':=apply u h') (fun i hi=>gA (f i (by simp[bu,hi])) u)]
theorem BB(f j:List af):bu (f++j)=bu f++bu j:=by
 induction f with
 | nil=>rfl
 | cons x f p=>simp only[List.cons_append,bu,p,List.append_assoc]
theorem yT(k:IntKind)(l:QK):bu (l.map fun i=>af.p false (.int k) i)=[]:=by
 induction l with
 | nil=>rfl
 | cons x j f=>simp only[List.map_cons,bu,ids,f,List.append_nil]
theorem tS{x:af}:bu (cellsOf x)=ids x:=by
 cases x with
 | lag k n xs f =>
  simp only[cellsOf,ids];rw[BB];have:=yT k xs.1;exact(congrArg (· ++ bu f) this).trans (List.nil_append _)
 | _=>simp[cellsOf,bu,ids]
theorem C7{T:Ty}{x:af}(f:∀i∈ids x,h i=h' i):Fj T h x=Fj T h' x:=by
 unfold Fj;rw[oF (xs:=cellsOf x) (by rw[tS];exact f)]
theorem ta{T:Ty}{x:af}(f:∀i∈ids x,h i=h' i):F1 T h x=F1 T h' x:=by
 unfold F1;split
 ·rename_i id i sz off;rw[f id (by simp[ids])]
 ·rfl
 ·exact C7 f
theorem ve{A:Ty}:∀ {xs:List af} {h h':Nat→Qz},(∀i∈bu xs,h i=h' i)→AH A h xs=AH A h' xs
 | [],_,_,_=>rfl
 | x::xs,h,h',j=>by
  simp only[AH,ta (x:=x) (T:=A) (fun i hi=>j i (by simp[bu,hi]))];cases hd:F1 A h' x with
  | none=>rfl
  | some p =>
   obtain⟨y,u⟩:=p;simp only[ve (xs:=xs) (h:=apply u h) (h':=apply u h') (fun i hi=>gA (j i (by simp[bu,hi])) u)]
theorem xp{x:af}(j:∀i∈ids x,h i=h' i):me h x=me h' x:=by
 unfold me;split <;> first
  | rfl
  | (rename_i id;rw[j id (by simp[ids])])
  | (rename_i id i sz off;rw[j id (by simp[ids])])
theorem AU{x:af}{i:Int}(f:∀i∈ids x,h i=h' i):yh h x i=yh h' x i:=by
 unfold yh;split <;> first
  | rfl
  | (rename_i id;rw[f id (by simp[ids])])
  | (rename_i id i sz off;rw[f id (by simp[ids])])
theorem Bm{x:af}(j:∀i∈ids x,h i=h' i):lenOf h x=lenOf h' x:=by
 unfold lenOf;split <;> first
  | rfl
  | (rename_i id;rw[j id (by simp[ids])])
  | (rename_i id i sz off;rw[j id (by simp[ids])])
theorem Dy{s d:TK}{x:af}(j:∀i∈ids x,h i=h' i):conv s d h x=conv s d h' x:=by
 unfold conv
 split <;> first
  | rfl
  | (rename_i id;rw[j id (by simp[ids])])
  | (rename_i id i sz off;rw[j id (by simp[ids])])
theorem mF{A:Ty}{x:af}(f:∀i∈ids x,h i=h' i):eL h A x=eL h' A x:=by
 unfold eL;split <;> first
  | rfl
  | (rename_i id;rw[f id (by simp[ids])])
  | (rename_i id i sz off;rw[f id (by simp[ids])])
theorem vJ(β:Bool):∀(T:Ty) (x:T.den),bu (flat β T x)=[]
 | .unit,_=>rfl
 | .prod a b,x=>by
  have h1:=vJ β a x.1;have h2:=vJ β b x.2;apply List.eq_nil_iff_forall_not_mem.2;intro i hi;simp only[flat,cD,List.mem_append]at hi;obtain⟨y,f,hi⟩:=hi;rcases f with f | f
  ·have:i∈bu (flat β a x.1):=cD.2 ⟨y,f,hi⟩;rw[h1]at this;cases this
  ·have:i∈bu (flat β b x.2):=cD.2 ⟨y,f,hi⟩;rw[h2]at this;cases this
 | .int _,_=>rfl
 | .bool,_=>rfl
 | .str,_=>rfl
 | .flt,_=>rfl
 | .slice _,_=>rfl
 | .ptr _,_=>rfl
 | .tree _ _,_=>rfl
 | .arr k _,x=>yT k x.1
 | .mapi _ _,_=>rfl
theorem KJ{j new:List af}{p i:Nat}(hi:i∈bu (wr j p new)):i∈bu j∨i∈bu new:=by
 obtain⟨y,f,hi⟩:=cD.1 hi;simp only[wr,List.mem_append]at f;rcases f with(f | f) | f
 ·exact .inl (cD.2 ⟨y,List.mem_of_mem_take f,hi⟩)
 ·exact .inr (cD.2 ⟨y,f,hi⟩)
 ·exact .inl (cD.2 ⟨y,List.mem_of_mem_drop f,hi⟩)
theorem AD{A:Ty}{xs:List A.den}{i off:Nat}{y:af}(p:∀i∈ids y,h i=h' i):Cb A h xs i off y=Cb A h' xs i off y:=by
 unfold Cb;refine ta fun j f=>?_
 simp only[ids]at f;rcases KJ f with h1 | h1
 ·rw[vJ]at h1;cases h1
 ·rw[tS]at h1;exact p j h1
theorem ud{x:af}(f:∀i∈ids x,h i=h' i):wL h x=wL h' x:=by
 cases x <;> try rfl
 rename_i id;simp only[wL,f id (by simp[ids])]
theorem nV:∀ {xs:List af},(∀i∈bu xs,h i=h' i)→oW h xs=oW h' xs
 | [],_=>rfl
 | x::xs,f=>by
  simp only[oW,ud (x:=x) (fun i hi=>f i (by simp[bu,hi])),nV (xs:=xs) (fun i hi=>f i (by simp[bu,hi]))]
def Kh(h h':Nat→Qz)(I:QV):Prop:=∀i∈I,h i=h' i∧∀p,h i=some (.box p)→∀j∈bu p,h j=h' j
theorem um{x:af}(j:Kh h h' (ids x)):rV h x=rV h' x:=by
 have p:∀i∈ids x,h i=h' i:=fun i hi=>(j i hi).1
 cases x <;> try rfl
 ·simp only[rV,ud p]
 ·rename_i id i sz off;simp only[rV];have h1:=j id (by simp[ids]);rw[←h1.1];cases q:h id with
  | none=>rfl
  | some ob =>
   cases ob with
   | box f=>simp only[nV (xs:=f) (h:=h) (h':=h') (h1.2 f q)]
   | arr _ _ _=>rfl
   | fz _ _=>rfl
   | mpo _ _ _=>rfl
   | mpl _ _=>rfl
   | bytes _ _=>rfl
   | cutz _ _=>rfl
   | lmp _ _ _ _=>rfl
   | vrow _ _ _=>rfl
   | mat _ _ _ _ _=>rfl
   | nds _ _ _ _=>rfl
   | mpq _ _=>rfl
 ·rename_i f;simp only[rV];rw[nV (xs:=f) (h:=h) (h':=h') (fun i hi=>p i (by simpa [ids]using hi))]
theorem qW:∀ {xs:List af},Kh h h' (bu xs)→qQ h xs=qQ h' xs
 | [],_=>rfl
 | x::xs,f=>by
  simp only[qQ,um (x:=x) (fun i hi=>f i (by simp[bu,hi])),qW (xs:=xs) (fun i hi=>f i (by simp[bu,hi]))]
theorem vW{x:af}(j:Kh h h' (ids x)):Bq h x=Bq h' x:=by
 cases x <;> try (simp only[Bq];exact um j)
 rename_i f p;simp only[Bq];rw[qW (xs:=p) (h:=h) (h':=h') (fun i hi=>j i (by simpa [ids]using hi))]
theorem oN:∀ {xs:List af},Kh h h' (bu xs)→om h xs=om h' xs
 | [],_=>rfl
 | x::xs,j=>by
  simp only[om,vW (x:=x) (fun i hi=>j i (by simp[bu,hi])),oN (xs:=xs) (fun i hi=>j i (by simp[bu,hi]))]
theorem wg{g:QV}{i:Nat}(e:h i=h' i):less g h i=less g h' i:=by
 unfold less;split
 ·rfl
 ·exact e
theorem u9{α β:Type}{l:List α}{f j:α→List β}(e:∀x∈l,f x=j x):l.flatMap f=l.flatMap j:=by
 induction l with
 | nil=>rfl
 | cons x l p=>simp only[List.flatMap_cons,e x (by simp),p (fun y q=>e y (by simp[q]))]
theorem tR{g:QV}:∀ {xs:List af},Kh h h' (bu xs)→ri g h xs=ri g h' xs
 | [],_=>rfl
 | x::xs,j=>by
  have e:yt g h x=yt g h' x:=by unfold yt;rw[vW (x:=x) (fun i hi=>j i (by simp[bu,hi]))]
  simp only[ri,e,tR (xs:=xs) (fun i hi=>j i (by simp[bu,hi]))]
theorem Am{g:QV}{h h':Nat→Qz}(j:∀i∈g,h i=h' i):jZ g h 0 g=jZ g h' 0 g:=by
 have key:∀(l:QV) (k:Nat),(∀i∈l,i∈g)→jZ g h k l=jZ g h' k l:=fun l=>by
  induction l with
  | nil=>intro k _;rfl
  | cons x l p =>intro k hl;simp only[jZ,j x (hl x (by simp)),p (k+1) (fun i hi=>hl i (by simp[hi]))]
 exact key g 0 fun _ h=>h
theorem Di{x:af}(f:∀i∈ids x,h i=h' i):xR h x=xR h' x:=by
 cases x <;> try (simp only[xR];exact nr f)
 rename_i j;simp only[xR];rw[oF (xs:=j) (h:=h) (h':=h') (fun i hi=>f i (by simpa [ids]using hi))]
theorem qM:∀ {bs:List Bool} {xs:List af} {h h':Nat→Qz},(∀i∈bu xs,h i=h' i)→frzL h bs xs=frzL h' bs xs
 | _,[],_,_,_=>by simp only[frzL]
 | [],_::_,_,_,_=>rfl
 | false::bs,x::xs,h,h',j=>by
  simp only[frzL,qM (bs:=bs) (xs:=xs) (h:=h) (h':=h') (fun i hi=>j i (by simp[bu,hi]))]
 | true::bs,x::xs,h,h',j=>by
  simp only[frzL,Di (x:=x) (h:=h) (h':=h') (fun i hi=>j i (by simp[bu,hi]))];cases xR h' x with
  | none=>rfl
  | some p =>
   obtain⟨y,u⟩:=p;simp only[qM (bs:=bs) (xs:=xs) (h:=apply u h) (h':=apply u h') (fun i hi=>gA (j i (by simp[bu,hi])) u)]
def se(u:gZ):Prop:=∀p∈u,∃A f,p.2=some (.fz A f)
theorem se.append{u v:gZ}(hu:se u)(j:se v):se (u++v):=fun p hp=>(List.mem_append.1 hp).elim (hu p) (j p)
theorem yx{x y:af}{u:gZ}(hd:gf h x=some (y,u)):se u∧∀i∈ids y,i∈ids x:=by
 unfold gf at hd;split at hd
 ·split at hd
  ·cases hd;exact⟨fun p hp=>by simp at hp;subst hp;exact⟨_,_,rfl⟩,fun i hi=>by simp[ids]at hi⟩
  ·cases hd;exact⟨fun p hp=>by simp at hp,fun i hi=>by simp[ids]at hi⟩
  ·cases hd;exact⟨fun p hp=>by simp at hp;subst hp;exact⟨_,_,rfl⟩,fun i hi=>by simp[ids]at hi⟩
  ·cases hd;exact⟨fun p hp=>by simp at hp;subst hp;exact⟨_,_,rfl⟩,fun i hi=>by simp[ids]at hi⟩
  ·cases hd;exact⟨fun p hp=>by simp at hp;subst hp;exact⟨_,_,rfl⟩,fun i hi=>by simp[ids]at hi⟩
  ·cases hd
 ·cases hd;exact⟨fun p hp=>by simp at hp,fun i hi=>hi⟩
theorem AL:∀ {j f:List af} {h:Nat→Qz} {u:gZ},qi h j=some (f,u)→se u∧∀i∈bu f,i∈bu j
 | [],f,h,u,hd=>by cases hd;exact⟨fun p hp=>by simp at hp,fun i hi=>hi⟩
 | x::j,f,h,u,hd=>by
  simp only[qi]at hd;split at hd
  ·rename_i y C h1;split at hd
   ·rename_i q D h2;cases hd;obtain⟨v,z⟩:=yx h1;obtain⟨A,B⟩:=AL h2;refine⟨v.append A,fun i hi=>?_⟩;simp only[bu,List.mem_append]at hi ⊢;exact hi.imp (z i) (B i)
   ·cases hd
  ·cases hd
theorem Jc{x y:af}{u:gZ}(hd:xR h x=some (y,u)):se u∧∀i∈ids y,i∈ids x:=by
 unfold xR at hd;split at hd
 ·split at hd
  ·rename_i p q h1;cases hd;obtain⟨f,j⟩:=AL h1;exact⟨f,fun i hi=>by simp only[ids]at hi ⊢;exact j i hi⟩
  ·cases hd
 ·exact yx hd
theorem Ad:∀ {bs:List Bool} {xs j:List af} {h:Nat→Qz} {u:gZ},frzL h bs xs=some (j,u)→se u∧∀i∈bu j,i∈bu xs
 | _,[],j,h,u,hd=>by simp only[frzL]at hd;cases hd;exact⟨fun p hp=>by simp at hp,fun i hi=>hi⟩
 | [],_::_,j,h,u,hd=>by simp only[frzL]at hd;cases hd;exact⟨fun p hp=>by simp at hp,fun i hi=>hi⟩
 | false::bs,x::xs,j,h,u,hd=>by
  simp only[frzL]at hd;split at hd
  ·rename_i q D h1;cases hd;obtain⟨v,z⟩:=Ad h1;refine⟨v,fun i hi=>?_⟩;simp only[bu,List.mem_append]at hi ⊢;exact hi.imp (fun h=>h) (z i)
  ·cases hd
 | true::bs,x::xs,j,h,u,hd=>by
  simp only[frzL]at hd;split at hd
  ·rename_i y E h1;split at hd
   ·rename_i q I h2;cases hd;obtain⟨v,z⟩:=Jc h1;obtain⟨B,C⟩:=Ad h2;refine⟨v.append B,fun i hi=>?_⟩;simp only[bu,List.mem_append]at hi ⊢;exact hi.imp (z i) (C i)
   ·cases hd
  ·cases hd
theorem Ag{u:gZ}(hu:se u){i:Nat}{v:List af}:∀ {h:Nat→Qz},apply u h i=some (.box v)→h i=some (.box v):=by
 induction u with
 | nil=>intro h hb;exact hb
 | cons p u x =>
  intro h hb;obtain⟨j,o⟩:=p;have h1:=x (fun q z=>hu q (by simp[z])) hb;by_cases e:i=j
  ·subst e;rw[aB]at h1;obtain⟨A,xs,h2⟩:=hu (i,o) (by simp);simp only at h2;rw[h1]at h2;cases h2
  ·rw[aR _ _ e]at h1;exact h1
theorem AR{xs:List af}(p:∀i∈vL h xs,h i=h' i):Kh h h' (bu xs):=fun i hi =>
 ⟨p i (List.mem_append_left _ hi),fun u hc j q=>p j (List.mem_append_right _ (List.mem_flatMap.2 ⟨i,hi,by rw[hc];exact q⟩))⟩
theorem wN{tb:bQ}{new:Nat}{t:TypeId}{x:af}{j hi:Option (Option Int)}(p:∀i∈ids x,h i=h' i):oE tb new t x j hi h=oE tb new t x j hi h':=by
 unfold oE;split
 ·split
  ·split <;> first
    | rfl
    | (rename_i id;rw[p id (by simp[ids])])
  ·rfl
 ·rfl
theorem xF{new:Nat}{ti:TI}{x:af}(v:∀i∈ids x,h i=h' i)(ho:∀i∈ids x,∀e u A q k j,h i=some (.mat e u A q (some (k,j)))→h j=h' j):l9 new ti x h=l9 new ti x h':=by
 unfold l9;cases x <;> try rfl
 rename_i id i sz off;simp only;have z:=v id (by simp[ids]);have u:=ho id (by simp[ids]);rw[←z];cases hm:h id with
 | none=>rfl
 | some ob =>
  cases ob with
  | mat e B A q hole =>
   cases hole with
   | none=>rfl
   | some p =>
    obtain⟨k,j⟩:=p;simp only[u _ _ _ _ _ _ hm]
  | _=>rfl
theorem vT{ti:TI}{x:af}(p:∀i∈ids x,h i=h' i):mT ti x h=mT ti x h':=by
 unfold mT;split
 ·rename_i id b n i k _;have j:=p id (by simp[ids]);rw[j]
 ·rfl
theorem uL{ti:TI}{x y:af}(j:∀i∈ids x,h i=h' i):lq ti x y h=lq ti x y h':=by
 unfold lq;split
 ·rename_i id b n i _ k v;have f:=j id (by simp[ids]);rw[f]
 ·rfl
theorem uE{tb:bQ}{t:TypeId}{x i:af}(p:∀i∈ids x,h i=h' i):la tb t x i h=la tb t x i h':=by
 unfold la;cases tb.find t with
 | none=>rfl
 | some ti =>
  simp only;split
  ·split
   ·split
    ·split
     ·rename_i id j sz off _ _ _;rw[p id (by simp[ids])]
     ·rfl
     ·rfl
    ·split
     ·split
      ·rename_i id j sz off _ _ _;rw[p id (by simp[ids])]
      ·rfl
     ·rfl
   ·rfl
  ·rfl
theorem qx{tb:bQ}{t:TypeId}{x i:af}(j:∀i∈ids x,h i=h' i):jg tb t x i h=jg tb t x i h':=by
 unfold jg;cases ij tb t with
 | none=>rfl
 | some q =>
  simp only;split
  ·rw[AU j]
  ·rfl
theorem uJ{P:Program}{tb:bQ}{t:TypeId}{x k:af}{ok:Bool}(j:∀i∈ids x,h i=h' i):na P tb t x k ok h=na P tb t x k ok h':=by
 unfold na;split
 ·split
  ·rename_i id;rw[j id (by simp[ids])]
  ·rfl
 ·rfl
theorem sM{P:Program}{tb:bQ}{t:TypeId}{g:QV}{x k:af}{ok:Bool}(j:∀i∈ids x,h i=h' i):lD P tb t g x k ok h=lD P tb t g x k ok h':=by
 unfold lD;split
 ·split
  ·rename_i id;rw[j id (by simp[ids])]
  ·rfl
 ·rfl
theorem lC{P:Program}{tb:bQ}{t:TypeId}{x k y:af}(j:∀i∈ids x,h i=h' i)(p:∀i∈ids y,h i=h' i):fR P tb t x k y h=fR P tb t x k y h':=by
 unfold fR;split
 ·split
  ·rename_i id;rw[j id (by simp[ids])];split
   ·split
    ·split
     ·rw[ta p]
     ·rfl
    ·rfl
   ·rfl
  ·rfl
 ·rfl
theorem kz{P:Program}{tb:bQ}{t:TypeId}{x k y:af}(j:∀i∈ids x,h i=h' i):fc P tb t x k y h=fc P tb t x k y h':=by
 unfold fc;split
 ·split
  ·rename_i id;rw[j id (by simp[ids])]
  ·rfl
 ·rfl
theorem zz{id i:Nat}{e e2:TypeId}{A:Ty}{xss:List (List A.den)}{hole:Option (Nat×Nat)}{y:af}(f:∀i∈ids y,h i=h' i)(ho:∀k j,hole=some (k,j)→h j=h' j):td id i e e2 A xss hole y h=td id i e e2 A xss hole y h':=by
 unfold td;cases y <;> try rfl
 rename_i r;simp only;rw[←f r (by simp[ids])];cases h r with
 | none=>rfl
 | some ob =>
  cases ob with
  | arr q B u =>
   cases hole with
   | none=>rfl
   | some p =>
    obtain⟨k,j⟩:=p;simp only[ho k j rfl]
  | _=>rfl
theorem vd{tb:bQ}{t:TypeId}{x y:af}(u:∀i∈ids x,h i=h' i)(v:∀i∈ids y,h i=h' i)(ho:∀i∈ids x,∀e e2 A xss k j,h i=some (.mat e e2 A xss (some (k,j)))→h j=h' j):oQ tb t x y h=oQ tb t x y h':=by
 unfold oQ;cases tb.find t with
 | none=>rfl
 | some ti =>
  simp only;split
  ·cases x <;> try rfl
   case ada=>exact uL u
   rename_i id i sz off;simp only;have p:=u id (by simp[ids]);have q:=ho id (by simp[ids]);rw[←p];cases hm:h id with
   | none=>rfl
   | some ob =>
    cases ob with
    | arr e A xs=>simp only[AD (A:=A) (xs:=xs) (i:=i) (off:=off) v]
    | fz _ _=>rfl
    | box _=>rfl
    | mpo _ _ _=>rfl
    | mpl _ _=>rfl
    | bytes _ _=>rfl
    | cutz _ _=>rfl
    | lmp _ _ _ _=>rfl
    | vrow _ _ _=>rfl
    | nds _ _ _ _=>rfl
    | mpq _ _=>rfl
    | mat e e2 A xss hole=>simp only[zz (id:=id) (i:=i) (e:=e) (e2:=e2) (A:=A) (xss:=xss) (hole:=hole) v (fun k j z=>q e e2 A xss k j (by rw[hm,z]))]
  ·rfl
theorem uK{tb:bQ}{new:Nat}{t:TypeId}{x y:af}(j:∀i∈ids x,h i=h' i)(q:∀i∈ids y,h i=h' i):nb tb new t x y h=nb tb new t x y h':=by
 unfold nb;cases ij tb t with
 | none=>rfl
 | some p =>
  obtain⟨e,u,A⟩:=p;simp only[mF (A:=A) q];cases eL h' A y with
  | none=>rfl
  | some v =>
   simp only;cases x <;> try rfl
   rename_i id;simp only;rw[j id (by simp[ids])]
theorem xm{tb:bQ}{t:TypeId}{x y:af}(j:∀i∈ids x,h i=h' i)(q:∀i∈ids y,h i=h' i):rW tb t x y h=rW tb t x y h':=by
 unfold rW;cases ij tb t with
 | none=>rfl
 | some p =>
  obtain⟨e,u,A⟩:=p;simp only[mF (A:=A) q];cases eL h' A y with
  | none=>rfl
  | some v =>
   simp only;cases x <;> try rfl
   rename_i id;simp only;rw[j id (by simp[ids])]
end
def fp(s:Nat→af)(op:Op):List af:=op.operands.toList.map (ev s)
theorem fP{s:Nat→af}{op:Op}{x:Operand}(j:x∈op.operands.toList):∀i∈ids (ev s x),i∈bu (fp s op):=fun _ hi =>
 cD.2 ⟨ev s x,List.mem_map.2 ⟨x,j,rfl⟩,hi⟩
def vB(h:Nat→Qz)(f:List af):QV :=
 bu f++(bu f).flatMap fun i=>match h i with
  | some (.mat _ _ _ _ (some (_,j)))=>[j]
  | _=>[]
theorem vC{h:Nat→Qz}{xs:List af}{i:Nat}{e q:TypeId}{A:Ty}{p:List (List A.den)}{k j:Nat}(hi:i∈bu xs)(hm:h i=some (.mat e q A p (some (k,j)))):j∈vB h xs :=
 List.mem_append_right _ (List.mem_flatMap.2 ⟨i,hi,by rw[hm];exact .head _⟩)
def j3(h:Nat→Qz)(op:Op)(xs:List af):QV :=
 match op with
 | .call _=>vL h xs
 | .load _ _=>vB h xs
 | .store _ _ _=>vB h xs
 | .move _=>[]
 | .assign _=>[]
 | .nilCheck _=>[]
 | .fieldAddr _ _ _=>[]
 | _=>bu xs
theorem C1{P:Program}{tb:bQ}{new:Nat}{asm:Option Bool}{iR:Option vE}{op:Op}{s N:Nat→af}{h h':Nat→Qz}
  (v:∀x∈op.operands.toList,ev s x=ev N x) (hh:∀i∈j3 h op (fp s op),h i=h' i):gU P tb new asm iR op s h=gU P tb new asm iR op N h':=by
 by_cases I:(∃x,op = .move x)∨(∃x,op = .assign x)∨(∃x,op = .nilCheck x)∨∃t x f,op = .fieldAddr t x f
 ·rcases I with⟨x,rfl⟩ | ⟨x,rfl⟩ | ⟨x,rfl⟩ | ⟨t,x,f,rfl⟩ <;> simp only[gU,v x (by simp[Op.operands])]
 have a2:∀i∈bu (fp s op),h i=h' i:=fun i hi=>by
  refine hh i ?_;unfold j3;split
  ·exact List.mem_append_left _ hi
  ·exact List.mem_append_left _ hi
  ·exact List.mem_append_left _ hi
  ·rename_i x;exact absurd (.inl ⟨x,rfl⟩) I
  ·rename_i x;exact absurd (.inr (.inl ⟨x,rfl⟩)) I
  ·rename_i x;exact absurd (.inr (.inr (.inl ⟨x,rfl⟩))) I
  ·rename_i t x f;exact absurd (.inr (.inr (.inr ⟨t,x,f,rfl⟩))) I
  ·exact hi
 have key:∀x∈op.operands.toList,∀i∈ids (ev s x),h i=h' i:=fun x O i hi=>a2 i (fP O i hi)
 cases op with
 | move x=>simp only[gU,v x (by simp[Op.operands])]
 | assign x=>simp only[gU,v x (by simp[Op.operands])]
 | pick c x y =>
  have e:∀b:Bool,ev s (if b=true then x else y)=ev N (if b=true then x else y):=fun b=>by
   cases b
   ·exact v y (by simp[Op.operands])
   ·exact v x (by simp[Op.operands])
  simp only[gU,z9,v c (by simp[Op.operands]),e,v x (by simp[Op.operands]),v y (by simp[Op.operands])]
 | alloc t=>rfl
 | box t x=>simp only[gU,v x (by simp[Op.operands])]
 | build t ps =>
  simp only[gU];have e:ps.toList.map (fun p=>ev s p.2)=ps.toList.map (fun p=>ev N p.2):=List.map_congr_left (fun p hp=>v p.2 (by simp only[Op.operands,List.mem_map];exact⟨p,hp,rfl⟩));rw[e]
 | buildSlice t len ps =>
  simp only[gU];have e:ps.toList.map (fun p=>ev s p.2)=ps.toList.map (fun p=>ev N p.2):=List.map_congr_left (fun p hp=>v p.2 (by simp only[Op.operands,List.mem_map];exact⟨p,hp,rfl⟩));rw[←e];unfold mH;cases ij tb t with
  | none=>rfl
  | some q =>
   obtain⟨e,te,A⟩:=q;simp only;split
   ·rw[ve (A:=A) (fun i hi=>by
     obtain⟨y,C,hi⟩:=cD.1 hi;obtain⟨p,hp,rfl⟩:=List.mem_map.1 C;exact key p.2 (by simp only[Op.operands,List.mem_map];exact⟨p,hp,rfl⟩) i hi)]
   ·rfl
 | load t x =>
  simp only[gU,←v x (by simp[Op.operands])];have O:=key x (by simp[Op.operands]);have e2:∀ti,l9 new ti (ev s x) h=l9 new ti (ev s x) h':=fun ti=>xF O (fun i hi e e2 A a3 k j hm=>hh j (vC (fP (by simp[Op.operands]) i hi) hm))
  unfold ze;simp only[xp O,vT O,e2]
 | store t x y =>
  simp only[gU,←v x (by simp[Op.operands]),←v y (by simp[Op.operands])];exact vd (key x (by simp[Op.operands])) (key y (by simp[Op.operands])) (fun i hi e e2 A a3 k j hm=>hh j (vC (fP (by simp[Op.operands]) i hi) hm))
 | binOp o t x y t'=>simp only[gU,v x (by simp[Op.operands]),v y (by simp[Op.operands])]
 | unOp o t x=>simp only[gU,v x (by simp[Op.operands])]
 | nilCheck x=>simp only[gU,v x (by simp[Op.operands])]
 | convert st dt x =>
  simp only[gU,←v x (by simp[Op.operands])];cases iR with
  | some _=>rfl
  | none=>?_
  simp only;unfold zc;cases tb.find st with
  | none=>rfl
  | some si =>
   cases tb.find dt with
   | none=>rfl
   | some di =>
    simp only;cases HL tb di.k (ev s x)with
    | some r=>rfl
    | none=>simp only[Dy (s:=si.k) (d:=di.k) (key x (by simp[Op.operands]))]
 | slice t x lo hi mx =>
  cases mx with
  | some mo =>
   cases hi with
   | none=>rfl
   | some a4 =>
    have e1:pZ s lo=pZ N lo:=by
     cases lo with
     | none=>rfl
     | some y=>simp only[pZ,v y (by simp[Op.operands])]
    simp only[gU,←v x (by simp[Op.operands]),←v a4 (by simp[Op.operands]),←v mo (by simp[Op.operands]),←e1];have O:=key x (by simp[Op.operands]);cases iR with
    | some _ =>
     simp only;unfold CK;rw[nr O]
    | none=>?_
    simp only;unfold tv;split
    ·split
     ·rfl
     ·rename_i id ex;rw[O id (by rw[ex];simp[ids])]
     ·rfl
    ·rfl
  | none =>
   have e1:pZ s lo=pZ N lo:=by
    cases lo with
    | none=>rfl
    | some y=>simp only[pZ,v y (by simp[Op.operands])]
   have e2:pZ s hi=pZ N hi:=by
    cases hi with
    | none=>rfl
    | some y=>simp only[pZ,v y (by simp[Op.operands])]
   simp only[gU,←v x (by simp[Op.operands]),←e1,←e2];exact wN (key x (by simp[Op.operands]))
 | fieldAddr t x f=>simp only[gU,v x (by simp[Op.operands])]
 | indexAddr t x i =>
  simp only[gU,←v x (by simp[Op.operands]),←v i (by simp[Op.operands])];simp only[uE (key x (by simp[Op.operands])),qx (key x (by simp[Op.operands]))]
 | index t x i=>simp only[gU,v x (by simp[Op.operands]),v i (by simp[Op.operands])]
 | extract x i=>simp only[gU,v x (by simp[Op.operands])]
 | typeAssert x xt t ok=>simp only[gU,v x (by simp[Op.operands])]
 | makeFunc f fs cs =>
  simp only[gU];rw[List.map_congr_left (f:=ev s) (g:=ev N) (fun p hp=>v p (by simp only[Op.operands,Array.toList_append,List.mem_append];exact .inr hp))]
 | makeSlice t l c=>simp only[gU,v l (by simp[Op.operands]),v c (by simp[Op.operands])]
 | call c =>
  obtain⟨callee,args,D⟩:=c;have B:∀x∈args.toList,x∈(Op.call { callee,args,argTypes:=D }).operands.toList:=fun x O=>by simp only[Op.operands,Call.operands,Array.toList_append,List.mem_append];exact .inr O
  have e:args.toList.map (ev s)=args.toList.map (ev N):=List.map_congr_left (fun p hp=>v p (B p hp));have hk:∀y∈args.toList.map (ev s),∀i∈ids y,h i=h' i:=fun y C i hi=>by obtain⟨p,hp,rfl⟩:=List.mem_map.1 C;exact key p (B p hp) i hi
  have hc:=AR (h':=h') (xs:=fp s (Op.call { callee,args,argTypes:=D })) hh;simp only[gU,pS];cases callee with
  | builtin b =>
   simp only[←e];unfold qE;split
   ·rename_i y t V et;split
    ·unfold sS;split
     ·split
      ·rename_i id _ _;rw[hk (.mp id) (by rw[V];simp) id (by simp[ids])]
      ·rfl
     ·rfl
    ·unfold CT;rw[Bm (hk y (by rw[V];simp))]
   ·rfl
   ·rfl
   ·rename_i y z t t' V et;split
    ·exact uK (hk y (by rw[V];simp)) (hk z (by rw[V];simp))
    ·rfl
   ·rename_i y z t t' V et;exact xm (hk y (by rw[V];simp)) (hk z (by rw[V];simp))
   ·rfl
  | value f =>
   have hf:f∈(Op.call { callee:= .value f,args,argTypes:=D }).operands.toList:=by simp[Op.operands,Call.operands]
   simp only[←e,←v f hf];generalize a5:gX tb (I5 iR) D.toList (args.toList.map (ev s))=xs;have X:∀i∈bu xs,i∈bu (args.toList.map (ev s)):=fun i hi=>by rw[←a5,nw]at hi;exact hi
   unfold uX;split
   ·rename_i fid a1 q ef;have hin:∀i∈bu (AV (ev s f)::xs),i∈bu (fp s (Op.call { callee:= .value f,args,argTypes:=D })):=fun i hi=>by
     simp only[bu,List.mem_append]at hi;rcases hi with hi | hi
     ·exact fP hf i (BR i hi)
     ·obtain⟨y,C,E⟩:=cD.1 (X i hi);obtain⟨p,hp,rfl⟩:=List.mem_map.1 C;exact fP (B p hp) i E
    rw[qM (bs:=q.fl) (h:=h) (h':=h') (fun i hi=>by
     obtain⟨y,C,E⟩:=cD.1 (X i hi);exact hk y C i E)]
    cases a6:frzL h' q.fl xs with
    | none=>rfl
    | some p =>
     obtain⟨ys,u⟩:=p;obtain⟨z1,z2⟩:=Ad a6;have J:Kh (apply u h) (apply u h') (bu (ys++a1)):=fun i hi=>by
      have Y:i∈bu (fp s (Op.call { callee:= .value f,args,argTypes:=D })):=by
       obtain⟨y,C,E⟩:=cD.1 hi;rcases List.mem_append.1 C with C | C
       ·obtain⟨y2,a7,Y⟩:=cD.1 (X i (z2 i (cD.2 ⟨y,C,E⟩)));obtain⟨p,hp,rfl⟩:=List.mem_map.1 a7;exact fP (B p hp) i Y
       ·refine fP hf i (BR i ?_);rw[ef];simp only[ids];exact cD.2 ⟨y,C,E⟩
      obtain⟨c1,c2⟩:=hc i Y;exact⟨gA c1 u,fun cs L j hj=>gA (c2 cs (Ag z1 L) j hj) u⟩
     simp only;split
     ·have M:vL h (AV (ev s f)::xs)=vL h' (AV (ev s f)::xs):=by
       unfold vL;congr 1;refine u9 fun i hi=>?_
       rw[(hc i (hin i hi)).1]
      rw[M];split
      ·rename_i hg;have a8:∀i∈q.g,h i=h' i:=fun i hi=>by
        have:=List.all_eq_true.1 hg i hi;rw[←M]at this;simp only[List.contains_eq_mem,decide_eq_true_eq]at this;unfold vL at this;rcases List.mem_append.1 this with h1 | h1
        ·exact(hc i (hin i h1)).1
        ·obtain⟨j,hj,Z⟩:=List.mem_flatMap.1 h1;split at Z
         ·rename_i cs L;exact(hc j (hin j hj)).2 cs L i Z
         ·cases Z
       rw[Am (g:=q.g) (h:=apply u h) (h':=apply u h') (fun i hi=>gA (a8 i hi) u),
        tR (g:=q.g) (h:=less q.g (apply u h)) (h':=less q.g (apply u h')) (fun i hi=>⟨wg (J i hi).1,fun cs L j hj=>wg ((J i hi).2 cs (rY L).1 j hj)⟩)]
      ·rfl
     ·rw[oN (h:=apply u h) (h':=apply u h') J]
   ·rfl
  | invoke r m=>rfl
 | makeMap t r=>cases r <;> rfl
 | lookup t x k ok =>
  simp only[gU,←v x (by simp[Op.operands]),←v k (by simp[Op.operands])];rw[uJ (key x (by simp[Op.operands])),sM (key x (by simp[Op.operands]))]
 | mapUpdate t x k y =>
  simp only[gU,←v x (by simp[Op.operands]),←v k (by simp[Op.operands]),←v y (by simp[Op.operands])];rw[lC (key x (by simp[Op.operands])) (key y (by simp[Op.operands])),kz (key x (by simp[Op.operands]))]
 | insert t x k y =>
  simp only[gU,←v x (by simp[Op.operands]),←v k (by simp[Op.operands]),←v y (by simp[Op.operands])];rw[lC (key x (by simp[Op.operands])) (key y (by simp[Op.operands])),kz (key x (by simp[Op.operands]))]
 | _=>rfl
theorem yG{P:Program}{tb:bQ}{new:Nat}{asm:Option Bool}{iR:Option vE}{op:Op}{s u:Nat→af}{h h':Nat→Qz}
  (v:∀x∈op.operands.toList,ev s x=ev u x) (z:∀i∈j3 h op (fp s op),h i=h' i):FJ P tb new asm iR op s h=FJ P tb new asm iR op u h':=by
 have key:∀x∈op.operands.toList,(¬((∃x,op = .move x)∨(∃x,op = .assign x)∨(∃x,op = .nilCheck x)∨∃t x f,op = .fieldAddr t x f))→∀i∈ids (ev s x),h i=h' i:=fun x q j i hi=>by
  have p:=fP q i hi;refine z i ?_;unfold j3;split
  ·exact List.mem_append_left _ p
  ·exact List.mem_append_left _ p
  ·exact List.mem_append_left _ p
  ·rename_i x;exact absurd (.inl ⟨x,rfl⟩) j
  ·rename_i x;exact absurd (.inr (.inl ⟨x,rfl⟩)) j
  ·rename_i x;exact absurd (.inr (.inr (.inl ⟨x,rfl⟩))) j
  ·rename_i t x f;exact absurd (.inr (.inr (.inr ⟨t,x,f,rfl⟩))) j
  ·exact p
 have C:pU tb new iR.isSome op s h=pU tb new iR.isSome op u h':=CX v key;have D:jr P tb new iR op s h=jr P tb new iR op u h':=C4 v key (fun c hc I E=>by
  subst hc;have B:=AR (h':=h') (xs:=fp s (Op.call c)) z;refine oN fun i hi=>?_
  obtain⟨x,q,hi⟩:=E i hi;exact B i (fP q i hi)) (fun c hc A x q=>by
  subst hc;exact mF (fun i hi=>key x q (by rintro(⟨_,e⟩ | ⟨_,e⟩ | ⟨_,e⟩ | ⟨_,_,_,e⟩) <;> cases e) i hi))
 unfold FJ;rw[C,D,C1 v z]
end Go.Tv
