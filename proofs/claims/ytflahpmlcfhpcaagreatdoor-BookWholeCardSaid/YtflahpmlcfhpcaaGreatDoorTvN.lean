import Derived.Test.YtflahpmlcfhpcaaGreatDoorTvM
namespace Go.Tv
open Go Go.RowKit
theorem gk{h h':Nat→Qz}{i:Nat}(e:h i=h' i):∀(u:gT),apply u h i=apply u h' i:=fun u=>by
 induction u generalizing h h' with
 | nil=>exact e
 | cons p u v =>
  obtain⟨j,o⟩:=p;simp only[apply];refine v ?_;by_cases q:i=j
  ·subst q;rw[aB,aB]
  ·rw[aR _ _ q,aR _ _ q];exact e
section
variable{h h':Nat→Qz}
theorem np{x:af}(e:∀i∈ids x,h i=h' i):fY h x=fY h' x:=by
 cases x <;> try rfl
 rename_i id;simp only[fY,e id (by simp[ids])]
theorem ot:∀ {xs:List af} {h h':Nat→Qz},(∀i∈bu xs,h i=h' i)→pT h xs=pT h' xs
 | [],_,_,_=>rfl
 | x::xs,h,h',e=>by
  simp only[pT,np (x:=x) (fun i hi=>e i (by simp[bu,hi]))];cases hd:fY h' x with
  | none=>rfl
  | some p =>
   obtain⟨y,u⟩:=p;simp only[ot (xs:=xs) (h:=apply u h) (h':=apply u h') (fun i hi=>gk (e i (by simp[bu,hi])) u)]
theorem A0(e f:List af):bu (e++f)=bu e++bu f:=by
 induction e with
 | nil=>rfl
 | cons x e j=>simp only[List.cons_append,bu,j,List.append_assoc]
theorem xN(k:IntKind)(l:QK):bu (l.map fun i=>af.p false (.int k) i)=[]:=by
 induction l with
 | nil=>rfl
 | cons x f e=>simp only[List.map_cons,bu,ids,e,List.append_nil]
theorem tB{x:af}:bu (cellsOf x)=ids x:=by
 cases x with
 | lag k n xs e =>
  simp only[cellsOf,ids];rw[A0];have:=xN k xs.1;exact(congrArg (· ++ bu e) this).trans (List.nil_append _)
 | _=>simp[cellsOf,bu,ids]
theorem CI{T:Ty}{x:af}(e:∀i∈ids x,h i=h' i):E3 T h x=E3 T h' x:=by
 unfold E3;rw[ot (xs:=cellsOf x) (by rw[tB];exact e)]
theorem sA{T:Ty}{x:af}(e:∀i∈ids x,h i=h' i):Fm T h x=Fm T h' x:=by
 unfold Fm;split
 ·rename_i id i sz off;rw[e id (by simp[ids])]
 ·rfl
 ·exact CI e
theorem vT{A:Ty}:∀ {xs:List af} {h h':Nat→Qz},(∀i∈bu xs,h i=h' i)→Ba A h xs=Ba A h' xs
 | [],_,_,_=>rfl
 | x::xs,h,h',e=>by
  simp only[Ba,sA (x:=x) (T:=A) (fun i hi=>e i (by simp[bu,hi]))];cases hd:Fm A h' x with
  | none=>rfl
  | some p =>
   obtain⟨y,u⟩:=p;simp only[vT (xs:=xs) (h:=apply u h) (h':=apply u h') (fun i hi=>gk (e i (by simp[bu,hi])) u)]
theorem xd{x:af}(e:∀i∈ids x,h i=h' i):lP h x=lP h' x:=by
 unfold lP;split <;> first
  | rfl
  | (rename_i id;rw[e id (by simp[ids])])
  | (rename_i id i sz off;rw[e id (by simp[ids])])
theorem zL{x:af}{i:Int}(e:∀i∈ids x,h i=h' i):yb h x i=yb h' x i:=by
 unfold yb;split <;> first
  | rfl
  | (rename_i id;rw[e id (by simp[ids])])
  | (rename_i id i sz off;rw[e id (by simp[ids])])
theorem BJ{x:af}(e:∀i∈ids x,h i=h' i):lenOf h x=lenOf h' x:=by
 unfold lenOf;split <;> first
  | rfl
  | (rename_i id;rw[e id (by simp[ids])])
  | (rename_i id i sz off;rw[e id (by simp[ids])])
theorem BX{s d:TK}{x:af}(e:∀i∈ids x,h i=h' i):conv s d h x=conv s d h' x:=by
 unfold conv
 split <;> first
  | rfl
  | (rename_i id;rw[e id (by simp[ids])])
  | (rename_i id i sz off;rw[e id (by simp[ids])])
theorem ma{A:Ty}{x:af}(e:∀i∈ids x,h i=h' i):eT h A x=eT h' A x:=by
 unfold eT;split <;> first
  | rfl
  | (rename_i id;rw[e id (by simp[ids])])
  | (rename_i id i sz off;rw[e id (by simp[ids])])
theorem uS(β:Bool):∀(T:Ty) (x:T.den),bu (flat β T x)=[]
 | .unit,_=>rfl
 | .prod a b,x=>by
  have f:=uS β a x.1;have j:=uS β b x.2;apply List.eq_nil_iff_forall_not_mem.2;intro i hi;simp only[flat,cF,List.mem_append]at hi;obtain⟨y,e,hi⟩:=hi;rcases e with e | e
  ·have:i∈bu (flat β a x.1):=cF.2 ⟨y,e,hi⟩;rw[f]at this;cases this
  ·have:i∈bu (flat β b x.2):=cF.2 ⟨y,e,hi⟩;rw[j]at this;cases this
 | .int _,_=>rfl
 | .bool,_=>rfl
 | .str,_=>rfl
 | .flt,_=>rfl
 | .slice _,_=>rfl
 | .ptr _,_=>rfl
 | .tree _ _,_=>rfl
 | .arr k _,x=>xN k x.1
 | .mapi _ _,_=>rfl
theorem Jy{f new:List af}{p i:Nat}(hi:i∈bu (wr f p new)):i∈bu f∨i∈bu new:=by
 obtain⟨y,e,hi⟩:=cF.1 hi;simp only[wr,List.mem_append]at e;rcases e with(e | e) | e
 ·exact .inl (cF.2 ⟨y,List.mem_of_mem_take e,hi⟩)
 ·exact .inr (cF.2 ⟨y,e,hi⟩)
 ·exact .inl (cF.2 ⟨y,List.mem_of_mem_drop e,hi⟩)
theorem Bx{A:Ty}{xs:List A.den}{i off:Nat}{y:af}(q:∀i∈ids y,h i=h' i):BK A h xs i off y=BK A h' xs i off y:=by
 unfold BK;refine sA fun j p=>?_
 simp only[ids]at p;rcases Jy p with f | f
 ·rw[uS]at f;cases f
 ·rw[tB]at f;exact q j f
theorem tq{x:af}(e:∀i∈ids x,h i=h' i):vO h x=vO h' x:=by
 cases x <;> try rfl
 rename_i id;simp only[vO,e id (by simp[ids])]
theorem ny:∀ {xs:List af},(∀i∈bu xs,h i=h' i)→oo h xs=oo h' xs
 | [],_=>rfl
 | x::xs,e=>by
  simp only[oo,tq (x:=x) (fun i hi=>e i (by simp[bu,hi])),ny (xs:=xs) (fun i hi=>e i (by simp[bu,hi]))]
def Jt(h h':Nat→Qz)(I:QV):Prop:=∀i∈I,h i=h' i∧∀e,h i=some (.box e)→∀j∈bu e,h j=h' j
theorem tK{x:af}(f:Jt h h' (ids x)):rJ h x=rJ h' x:=by
 have j:∀i∈ids x,h i=h' i:=fun i hi=>(f i hi).1
 cases x <;> try rfl
 ·simp only[rJ,tq j]
 ·rename_i id i sz off;simp only[rJ];have p:=f id (by simp[ids]);rw[←p.1];cases q:h id with
  | none=>rfl
  | some ob =>
   cases ob with
   | box e=>simp only[ny (xs:=e) (h:=h) (h':=h') (p.2 e q)]
   | arr _ _ _=>rfl
   | fz _ _=>rfl
   | mpo _ _ _=>rfl
   | mpl _ _=>rfl
   | bytes _ _=>rfl
   | cutz _ _=>rfl
   | lmp _ _ _ _=>rfl
   | vrow _ _ _=>rfl
   | mat _ _ _ _ _=>rfl
   | nds _ _ _ _=>rfl
   | mpq _ _=>rfl
 ·rename_i e;simp only[rJ];rw[ny (xs:=e) (h:=h) (h':=h') (fun i hi=>j i (by simpa [ids]using hi))]
theorem qC:∀ {xs:List af},Jt h h' (bu xs)→qu h xs=qu h' xs
 | [],_=>rfl
 | x::xs,e=>by
  simp only[qu,tK (x:=x) (fun i hi=>e i (by simp[bu,hi])),qC (xs:=xs) (fun i hi=>e i (by simp[bu,hi]))]
theorem vC{x:af}(e:Jt h h' (ids x)):Ad h x=Ad h' x:=by
 cases x <;> try (simp only[Ad];exact tK e)
 rename_i f j;simp only[Ad];rw[qC (xs:=j) (h:=h) (h':=h') (fun i hi=>e i (by simpa [ids]using hi))]
theorem oR:∀ {xs:List af},Jt h h' (bu xs)→nU h xs=nU h' xs
 | [],_=>rfl
 | x::xs,e=>by
  simp only[nU,vC (x:=x) (fun i hi=>e i (by simp[bu,hi])),oR (xs:=xs) (fun i hi=>e i (by simp[bu,hi]))]
theorem vK{g:QV}{i:Nat}(e:h i=h' i):less g h i=less g h' i:=by
 unfold less;split
 ·rfl
 ·exact e
theorem vL{α β:Type}{l:List α}{f j:α→List β}(e:∀x∈l,f x=j x):l.flatMap f=l.flatMap j:=by
 induction l with
 | nil=>rfl
 | cons x l p=>simp only[List.flatMap_cons,e x (by simp),p (fun y q=>e y (by simp[q]))]
theorem tV{g:QV}:∀ {xs:List af},Jt h h' (bu xs)→qX g h xs=qX g h' xs
 | [],_=>rfl
 | x::xs,j=>by
  have e:yh g h x=yh g h' x:=by unfold yh;rw[vC (x:=x) (fun i hi=>j i (by simp[bu,hi]))]
  simp only[qX,e,tV (xs:=xs) (fun i hi=>j i (by simp[bu,hi]))]
theorem BO{g:QV}{h h':Nat→Qz}(e:∀i∈g,h i=h' i):jO g h 0 g=jO g h' 0 g:=by
 have key:∀(l:QV) (k:Nat),(∀i∈l,i∈g)→jO g h k l=jO g h' k l:=fun l=>by
  induction l with
  | nil=>intro k _;rfl
  | cons x l j =>intro k hl;simp only[jO,e x (hl x (by simp)),j (k+1) (fun i hi=>hl i (by simp[hi]))]
 exact key g 0 fun _ h=>h
theorem Cl{x:af}(e:∀i∈ids x,h i=h' i):wW h x=wW h' x:=by
 cases x <;> try (simp only[wW];exact np e)
 rename_i f;simp only[wW];rw[ot (xs:=f) (h:=h) (h':=h') (fun i hi=>e i (by simpa [ids]using hi))]
theorem qp:∀ {bs:List Bool} {xs:List af} {h h':Nat→Qz},(∀i∈bu xs,h i=h' i)→frzL h bs xs=frzL h' bs xs
 | _,[],_,_,_=>by simp only[frzL]
 | [],_::_,_,_,_=>rfl
 | false::bs,x::xs,h,h',e=>by
  simp only[frzL,qp (bs:=bs) (xs:=xs) (h:=h) (h':=h') (fun i hi=>e i (by simp[bu,hi]))]
 | true::bs,x::xs,h,h',e=>by
  simp only[frzL,Cl (x:=x) (h:=h) (h':=h') (fun i hi=>e i (by simp[bu,hi]))];cases wW h' x with
  | none=>rfl
  | some p =>
   obtain⟨y,u⟩:=p;simp only[qp (bs:=bs) (xs:=xs) (h:=apply u h) (h':=apply u h') (fun i hi=>gk (e i (by simp[bu,hi])) u)]
def qH(u:gT):Prop:=∀p∈u,∃A e,p.2=some (.fz A e)
theorem qH.append{u v:gT}(hu:qH u)(e:qH v):qH (u++v):=fun p j=>(List.mem_append.1 j).elim (hu p) (e p)
theorem yc{x y:af}{u:gT}(hd:fY h x=some (y,u)):qH u∧∀i∈ids y,i∈ids x:=by
 unfold fY at hd;split at hd
 ·split at hd
  ·cases hd;exact⟨fun p e=>by simp at e;subst e;exact⟨_,_,rfl⟩,fun i hi=>by simp[ids]at hi⟩
  ·cases hd;exact⟨fun p e=>by simp at e,fun i hi=>by simp[ids]at hi⟩
  ·cases hd;exact⟨fun p e=>by simp at e;subst e;exact⟨_,_,rfl⟩,fun i hi=>by simp[ids]at hi⟩
  ·cases hd;exact⟨fun p e=>by simp at e;subst e;exact⟨_,_,rfl⟩,fun i hi=>by simp[ids]at hi⟩
  ·cases hd;exact⟨fun p e=>by simp at e;subst e;exact⟨_,_,rfl⟩,fun i hi=>by simp[ids]at hi⟩
  ·cases hd
 ·cases hd;exact⟨fun p e=>by simp at e,fun i hi=>hi⟩
theorem BE:∀ {f e:List af} {h:Nat→Qz} {u:gT},pT h f=some (e,u)→qH u∧∀i∈bu e,i∈bu f
 | [],e,h,u,hd=>by cases hd;exact⟨fun p j=>by simp at j,fun i hi=>hi⟩
 | x::f,e,h,u,hd=>by
  simp only[pT]at hd;split at hd
  ·rename_i y E q;split at hd
   ·rename_i v I z;cases hd;obtain⟨A,B⟩:=yc q;obtain⟨C,D⟩:=BE z;refine⟨A.append C,fun i hi=>?_⟩;simp only[bu,List.mem_append]at hi ⊢;exact hi.imp (B i) (D i)
   ·cases hd
  ·cases hd
theorem Ij{x y:af}{u:gT}(hd:wW h x=some (y,u)):qH u∧∀i∈ids y,i∈ids x:=by
 unfold wW at hd;split at hd
 ·split at hd
  ·rename_i p q e;cases hd;obtain⟨f,j⟩:=BE e;exact⟨f,fun i hi=>by simp only[ids]at hi ⊢;exact j i hi⟩
  ·cases hd
 ·exact yc hd
theorem yL:∀ {bs:List Bool} {xs e:List af} {h:Nat→Qz} {u:gT},frzL h bs xs=some (e,u)→qH u∧∀i∈bu e,i∈bu xs
 | _,[],e,h,u,hd=>by simp only[frzL]at hd;cases hd;exact⟨fun p j=>by simp at j,fun i hi=>hi⟩
 | [],_::_,e,h,u,hd=>by simp only[frzL]at hd;cases hd;exact⟨fun p j=>by simp at j,fun i hi=>hi⟩
 | false::bs,x::xs,e,h,u,hd=>by
  simp only[frzL]at hd;split at hd
  ·rename_i q I v;cases hd;obtain⟨z,B⟩:=yL v;refine⟨z,fun i hi=>?_⟩;simp only[bu,List.mem_append]at hi ⊢;exact hi.imp (fun h=>h) (B i)
  ·cases hd
 | true::bs,x::xs,e,h,u,hd=>by
  simp only[frzL]at hd;split at hd
  ·rename_i y J v;split at hd
   ·rename_i q L C;cases hd;obtain⟨z,B⟩:=Ij v;obtain⟨D,E⟩:=yL C;refine⟨z.append D,fun i hi=>?_⟩;simp only[bu,List.mem_append]at hi ⊢;exact hi.imp (B i) (E i)
   ·cases hd
  ·cases hd
theorem yA{u:gT}(hu:qH u){i:Nat}{z:List af}:∀ {h:Nat→Qz},apply u h i=some (.box z)→h i=some (.box z):=by
 induction u with
 | nil=>intro h hb;exact hb
 | cons p u B =>
  intro h hb;obtain⟨j,o⟩:=p;have v:=B (fun q C=>hu q (by simp[C])) hb;by_cases e:i=j
  ·subst e;rw[aB]at v;obtain⟨A,xs,x⟩:=hu (i,o) (by simp);simp only at x;rw[v]at x;cases x
  ·rw[aR _ _ e]at v;exact v
theorem AL{xs:List af}(e:∀i∈u6 h xs,h i=h' i):Jt h h' (bu xs):=fun i hi =>
 ⟨e i (List.mem_append_left _ hi),fun q hc j p=>e j (List.mem_append_right _ (List.mem_flatMap.2 ⟨i,hi,by rw[hc];exact p⟩))⟩
theorem vV{tb:bQ}{new:Nat}{t:TypeId}{x:af}{e hi:Option (Option Int)}(j:∀i∈ids x,h i=h' i):oL tb new t x e hi h=oL tb new t x e hi h':=by
 unfold oL;split
 ·split
  ·split <;> first
    | rfl
    | (rename_i id;rw[j id (by simp[ids])])
  ·rfl
 ·rfl
theorem xq{new:Nat}{ti:TI}{x:af}(v:∀i∈ids x,h i=h' i)(z:∀i∈ids x,∀e u A q k j,h i=some (.mat e u A q (some (k,j)))→h j=h' j):lX new ti x h=lX new ti x h':=by
 unfold lX;cases x <;> try rfl
 rename_i id i sz off;simp only;have B:=v id (by simp[ids]);have u:=z id (by simp[ids]);rw[←B];cases C:h id with
 | none=>rfl
 | some ob =>
  cases ob with
  | mat e D A q hole =>
   cases hole with
   | none=>rfl
   | some p =>
    obtain⟨k,j⟩:=p;simp only[u _ _ _ _ _ _ C]
  | _=>rfl
theorem wc{ti:TI}{x:af}(j:∀i∈ids x,h i=h' i):mK ti x h=mK ti x h':=by
 unfold mK;split
 ·rename_i id b n i k _;have e:=j id (by simp[ids]);rw[e]
 ·rfl
theorem ug{ti:TI}{x y:af}(j:∀i∈ids x,h i=h' i):kM ti x y h=kM ti x y h':=by
 unfold kM;split
 ·rename_i id b n i _ k v;have f:=j id (by simp[ids]);rw[f]
 ·rfl
theorem uk{tb:bQ}{t:TypeId}{x i:af}(e:∀i∈ids x,h i=h' i):kL tb t x i h=kL tb t x i h':=by
 unfold kL;cases tb.find t with
 | none=>rfl
 | some ti =>
  simp only;split
  ·split
   ·split
    ·split
     ·rename_i id j sz off _ _ _;rw[e id (by simp[ids])]
     ·rfl
     ·rfl
    ·split
     ·split
      ·rename_i id j sz off _ _ _;rw[e id (by simp[ids])]
      ·rfl
     ·rfl
   ·rfl
  ·rfl
theorem qd{tb:bQ}{t:TypeId}{x i:af}(e:∀i∈ids x,h i=h' i):iS tb t x i h=iS tb t x i h':=by
 unfold iS;cases gU tb t with
 | none=>rfl
 | some q =>
  simp only;split
  ·rw[zL e]
  ·rfl
theorem ud{P:Program}{tb:bQ}{t:TypeId}{x k:af}{ok:Bool}(e:∀i∈ids x,h i=h' i):mz P tb t x k ok h=mz P tb t x k ok h':=by
 unfold mz;split
 ·split
  ·rename_i id;rw[e id (by simp[ids])]
  ·rfl
 ·rfl
theorem sD{P:Program}{tb:bQ}{t:TypeId}{g:QV}{x k:af}{ok:Bool}(e:∀i∈ids x,h i=h' i):lz P tb t g x k ok h=lz P tb t g x k ok h':=by
 unfold lz;split
 ·split
  ·rename_i id;rw[e id (by simp[ids])]
  ·rfl
 ·rfl
theorem la{P:Program}{tb:bQ}{t:TypeId}{x k y:af}(e:∀i∈ids x,h i=h' i)(j:∀i∈ids y,h i=h' i):fK P tb t x k y h=fK P tb t x k y h':=by
 unfold fK;split
 ·split
  ·rename_i id;rw[e id (by simp[ids])];split
   ·split
    ·split
     ·rw[sA j]
     ·rfl
    ·rfl
   ·rfl
  ·rfl
 ·rfl
theorem kd{P:Program}{tb:bQ}{t:TypeId}{x k y:af}(e:∀i∈ids x,h i=h' i):eY P tb t x k y h=eY P tb t x k y h':=by
 unfold eY;split
 ·split
  ·rename_i id;rw[e id (by simp[ids])]
  ·rfl
 ·rfl
theorem zv{id i:Nat}{e e2:TypeId}{A:Ty}{xss:List (List A.den)}{hole:Option (Nat×Nat)}{y:af}(f:∀i∈ids y,h i=h' i)(q:∀k j,hole=some (k,j)→h j=h' j):sM id i e e2 A xss hole y h=sM id i e e2 A xss hole y h':=by
 unfold sM;cases y <;> try rfl
 rename_i r;simp only;rw[←f r (by simp[ids])];cases h r with
 | none=>rfl
 | some ob =>
  cases ob with
  | arr u B v =>
   cases hole with
   | none=>rfl
   | some p =>
    obtain⟨k,j⟩:=p;simp only[q k j rfl]
  | _=>rfl
theorem wu{tb:bQ}{t:TypeId}{x y:af}(u:∀i∈ids x,h i=h' i)(v:∀i∈ids y,h i=h' i)(z:∀i∈ids x,∀e e2 A xss k j,h i=some (.mat e e2 A xss (some (k,j)))→h j=h' j):pb tb t x y h=pb tb t x y h':=by
 unfold pb;cases tb.find t with
 | none=>rfl
 | some ti =>
  simp only;split
  ·cases x <;> try rfl
   case ada=>exact ug u
   rename_i id i sz off;simp only;have p:=u id (by simp[ids]);have q:=z id (by simp[ids]);rw[←p];cases B:h id with
   | none=>rfl
   | some ob =>
    cases ob with
    | arr e A xs=>simp only[Bx (A:=A) (xs:=xs) (i:=i) (off:=off) v]
    | fz _ _=>rfl
    | box _=>rfl
    | mpo _ _ _=>rfl
    | mpl _ _=>rfl
    | bytes _ _=>rfl
    | cutz _ _=>rfl
    | lmp _ _ _ _=>rfl
    | vrow _ _ _=>rfl
    | nds _ _ _ _=>rfl
    | mpq _ _=>rfl
    | mat e e2 A xss hole=>simp only[zv (id:=id) (i:=i) (e:=e) (e2:=e2) (A:=A) (xss:=xss) (hole:=hole) v (fun k j C=>q e e2 A xss k j (by rw[B,C]))]
  ·rfl
theorem um{tb:bQ}{new:Nat}{t:TypeId}{x y:af}(j:∀i∈ids x,h i=h' i)(q:∀i∈ids y,h i=h' i):mG tb new t x y h=mG tb new t x y h':=by
 unfold mG;cases gU tb t with
 | none=>rfl
 | some p =>
  obtain⟨e,u,A⟩:=p;simp only[ma (A:=A) q];cases eT h' A y with
  | none=>rfl
  | some v =>
   simp only;cases x <;> try rfl
   rename_i id;simp only;rw[j id (by simp[ids])]
theorem w7{tb:bQ}{t:TypeId}{x y:af}(j:∀i∈ids x,h i=h' i)(q:∀i∈ids y,h i=h' i):rW tb t x y h=rW tb t x y h':=by
 unfold rW;cases gU tb t with
 | none=>rfl
 | some p =>
  obtain⟨e,u,A⟩:=p;simp only[ma (A:=A) q];cases eT h' A y with
  | none=>rfl
  | some v =>
   simp only;cases x <;> try rfl
   rename_i id;simp only;rw[j id (by simp[ids])]
end
def fm(s:Nat→af)(op:Op):List af:=op.operands.toList.map (ev s)
theorem fM{s:Nat→af}{op:Op}{x:Operand}(e:x∈op.operands.toList):∀i∈ids (ev s x),i∈bu (fm s op):=fun _ hi =>
 cF.2 ⟨ev s x,List.mem_map.2 ⟨x,e,rfl⟩,hi⟩
def vJ(h:Nat→Qz)(e:List af):QV :=
 bu e++(bu e).flatMap fun i=>match h i with
  | some (.mat _ _ _ _ (some (_,j)))=>[j]
  | _=>[]
theorem vh{h:Nat→Qz}{xs:List af}{i:Nat}{e q:TypeId}{A:Ty}{p:List (List A.den)}{k j:Nat}(hi:i∈bu xs)(u:h i=some (.mat e q A p (some (k,j)))):j∈vJ h xs :=
 List.mem_append_right _ (List.mem_flatMap.2 ⟨i,hi,by rw[u];exact .head _⟩)
def jR(h:Nat→Qz)(op:Op)(xs:List af):QV :=
 match op with
 | .call _=>u6 h xs
 | .load _ _=>vJ h xs
 | .store _ _ _=>vJ h xs
 | .move _=>[]
 | .assign _=>[]
 | .nilCheck _=>[]
 | .fieldAddr _ _ _=>[]
 | _=>bu xs
theorem C7{P:Program}{tb:bQ}{new:Nat}{asm:Option Bool}{iG:Option uY}{op:Op}{s O:Nat→af}{h h':Nat→Qz}
  (v:∀x∈op.operands.toList,ev s x=ev O x) (hh:∀i∈jR h op (fm s op),h i=h' i):gO P tb new asm iG op s h=gO P tb new asm iG op O h':=by
 by_cases J:(∃x,op = .move x)∨(∃x,op = .assign x)∨(∃x,op = .nilCheck x)∨∃t x f,op = .fieldAddr t x f
 ·rcases J with⟨x,rfl⟩ | ⟨x,rfl⟩ | ⟨x,rfl⟩ | ⟨t,x,f,rfl⟩ <;> simp only[gO,v x (by simp[Op.operands])]
 have a3:∀i∈bu (fm s op),h i=h' i:=fun i hi=>by
  refine hh i ?_;unfold jR;split
  ·exact List.mem_append_left _ hi
  ·exact List.mem_append_left _ hi
  ·exact List.mem_append_left _ hi
  ·rename_i x;exact absurd (.inl ⟨x,rfl⟩) J
  ·rename_i x;exact absurd (.inr (.inl ⟨x,rfl⟩)) J
  ·rename_i x;exact absurd (.inr (.inr (.inl ⟨x,rfl⟩))) J
  ·rename_i t x f;exact absurd (.inr (.inr (.inr ⟨t,x,f,rfl⟩))) J
  ·exact hi
 have key:∀x∈op.operands.toList,∀i∈ids (ev s x),h i=h' i:=fun x V i hi=>a3 i (fM V i hi)
 cases op with
 | move x=>simp only[gO,v x (by simp[Op.operands])]
 | assign x=>simp only[gO,v x (by simp[Op.operands])]
 | pick c x y =>
  have e:∀b:Bool,ev s (if b=true then x else y)=ev O (if b=true then x else y):=fun b=>by
   cases b
   ·exact v y (by simp[Op.operands])
   ·exact v x (by simp[Op.operands])
  simp only[gO,yt,v c (by simp[Op.operands]),e,v x (by simp[Op.operands]),v y (by simp[Op.operands])]
 | alloc t=>rfl
 | box t x=>simp only[gO,v x (by simp[Op.operands])]
 | build t ps =>
  simp only[gO];have e:ps.toList.map (fun p=>ev s p.2)=ps.toList.map (fun p=>ev O p.2):=List.map_congr_left (fun p C=>v p.2 (by simp only[Op.operands,List.mem_map];exact⟨p,C,rfl⟩));rw[e]
 | buildSlice t len ps =>
  simp only[gO];have e:ps.toList.map (fun p=>ev s p.2)=ps.toList.map (fun p=>ev O p.2):=List.map_congr_left (fun p C=>v p.2 (by simp only[Op.operands,List.mem_map];exact⟨p,C,rfl⟩));rw[←e];unfold me;cases gU tb t with
  | none=>rfl
  | some q =>
   obtain⟨e,te,A⟩:=q;simp only;split
   ·rw[vT (A:=A) (fun i hi=>by
     obtain⟨y,D,hi⟩:=cF.1 hi;obtain⟨p,C,rfl⟩:=List.mem_map.1 D;exact key p.2 (by simp only[Op.operands,List.mem_map];exact⟨p,C,rfl⟩) i hi)]
   ·rfl
 | load t x =>
  simp only[gO,←v x (by simp[Op.operands])];have V:=key x (by simp[Op.operands]);have e2:∀ti,lX new ti (ev s x) h=lX new ti (ev s x) h':=fun ti=>xq V (fun i hi e e2 A a4 k j hm=>hh j (vh (fM (by simp[Op.operands]) i hi) hm))
  unfold yZ;simp only[xd V,wc V,e2]
 | store t x y =>
  simp only[gO,←v x (by simp[Op.operands]),←v y (by simp[Op.operands])];exact wu (key x (by simp[Op.operands])) (key y (by simp[Op.operands])) (fun i hi e e2 A a4 k j hm=>hh j (vh (fM (by simp[Op.operands]) i hi) hm))
 | binOp o t x y t'=>simp only[gO,v x (by simp[Op.operands]),v y (by simp[Op.operands])]
 | unOp o t x=>simp only[gO,v x (by simp[Op.operands])]
 | nilCheck x=>simp only[gO,v x (by simp[Op.operands])]
 | convert st dt x =>
  simp only[gO,←v x (by simp[Op.operands])];cases iG with
  | some _=>rfl
  | none=>?_
  simp only;unfold zd;cases tb.find st with
  | none=>rfl
  | some si =>
   cases tb.find dt with
   | none=>rfl
   | some di =>
    simp only;cases GW tb di.k (ev s x)with
    | some r=>rfl
    | none=>simp only[BX (s:=si.k) (d:=di.k) (key x (by simp[Op.operands]))]
 | slice t x lo hi mx =>
  cases mx with
  | some mo =>
   cases hi with
   | none=>rfl
   | some a5 =>
    have e1:pF s lo=pF O lo:=by
     cases lo with
     | none=>rfl
     | some y=>simp only[pF,v y (by simp[Op.operands])]
    simp only[gO,←v x (by simp[Op.operands]),←v a5 (by simp[Op.operands]),←v mo (by simp[Op.operands]),←e1];have V:=key x (by simp[Op.operands]);cases iG with
    | some _ =>
     simp only;unfold Ce;rw[np V]
    | none=>?_
    simp only;unfold sS;split
    ·split
     ·rfl
     ·rename_i id ex;rw[V id (by rw[ex];simp[ids])]
     ·rfl
    ·rfl
  | none =>
   have e1:pF s lo=pF O lo:=by
    cases lo with
    | none=>rfl
    | some y=>simp only[pF,v y (by simp[Op.operands])]
   have e2:pF s hi=pF O hi:=by
    cases hi with
    | none=>rfl
    | some y=>simp only[pF,v y (by simp[Op.operands])]
   simp only[gO,←v x (by simp[Op.operands]),←e1,←e2];exact vV (key x (by simp[Op.operands]))
 | fieldAddr t x f=>simp only[gO,v x (by simp[Op.operands])]
 | indexAddr t x i =>
  simp only[gO,←v x (by simp[Op.operands]),←v i (by simp[Op.operands])];simp only[uk (key x (by simp[Op.operands])),qd (key x (by simp[Op.operands]))]
 | index t x i=>simp only[gO,v x (by simp[Op.operands]),v i (by simp[Op.operands])]
 | extract x i=>simp only[gO,v x (by simp[Op.operands])]
 | typeAssert x xt t ok=>simp only[gO,v x (by simp[Op.operands])]
 | makeFunc f fs cs =>
  simp only[gO];rw[List.map_congr_left (f:=ev s) (g:=ev O) (fun p C=>v p (by simp only[Op.operands,Array.toList_append,List.mem_append];exact .inr C))]
 | makeSlice t l c=>simp only[gO,v l (by simp[Op.operands]),v c (by simp[Op.operands])]
 | call c =>
  obtain⟨callee,args,E⟩:=c;have B:∀x∈args.toList,x∈(Op.call { callee,args,argTypes:=E }).operands.toList:=fun x V=>by simp only[Op.operands,Call.operands,Array.toList_append,List.mem_append];exact .inr V
  have e:args.toList.map (ev s)=args.toList.map (ev O):=List.map_congr_left (fun p C=>v p (B p C));have hk:∀y∈args.toList.map (ev s),∀i∈ids y,h i=h' i:=fun y D i hi=>by obtain⟨p,C,rfl⟩:=List.mem_map.1 D;exact key p (B p C) i hi
  have hc:=AL (h':=h') (xs:=fm s (Op.call { callee,args,argTypes:=E })) hh;simp only[gO,po];cases callee with
  | builtin b =>
   simp only[←e];unfold qz;split
   ·rename_i y t X et;split
    ·unfold sL;split
     ·split
      ·rename_i id _ _;rw[hk (.mp id) (by rw[X];simp) id (by simp[ids])]
      ·rfl
     ·rfl
    ·unfold Cz;rw[BJ (hk y (by rw[X];simp))]
   ·rfl
   ·rfl
   ·rename_i y z t t' X et;split
    ·exact um (hk y (by rw[X];simp)) (hk z (by rw[X];simp))
    ·rfl
   ·rename_i y z t t' X et;exact w7 (hk y (by rw[X];simp)) (hk z (by rw[X];simp))
   ·rfl
  | value f =>
   have hf:f∈(Op.call { callee:= .value f,args,argTypes:=E }).operands.toList:=by simp[Op.operands,Call.operands]
   simp only[←e,←v f hf];generalize a6:gR tb (IP iG) E.toList (args.toList.map (ev s))=xs;have Y:∀i∈bu xs,i∈bu (args.toList.map (ev s)):=fun i hi=>by rw[←a6,m8]at hi;exact hi
   unfold uC;split
   ·rename_i fid a2 q ef;have hin:∀i∈bu (Ae (ev s f)::xs),i∈bu (fm s (Op.call { callee:= .value f,args,argTypes:=E })):=fun i hi=>by
     simp only[bu,List.mem_append]at hi;rcases hi with hi | hi
     ·exact fM hf i (AI i hi)
     ·obtain⟨y,D,I⟩:=cF.1 (Y i hi);obtain⟨p,C,rfl⟩:=List.mem_map.1 D;exact fM (B p C) i I
    rw[qp (bs:=q.fl) (h:=h) (h':=h') (fun i hi=>by
     obtain⟨y,D,I⟩:=cF.1 (Y i hi);exact hk y D i I)]
    cases a7:frzL h' q.fl xs with
    | none=>rfl
    | some p =>
     obtain⟨ys,u⟩:=p;obtain⟨z1,z2⟩:=yL a7;have L:Jt (apply u h) (apply u h') (bu (ys++a2)):=fun i hi=>by
      have Z:i∈bu (fm s (Op.call { callee:= .value f,args,argTypes:=E })):=by
       obtain⟨y,D,I⟩:=cF.1 hi;rcases List.mem_append.1 D with D | D
       ·obtain⟨y2,a8,Z⟩:=cF.1 (Y i (z2 i (cF.2 ⟨y,D,I⟩)));obtain⟨p,C,rfl⟩:=List.mem_map.1 a8;exact fM (B p C) i Z
       ·refine fM hf i (AI i ?_);rw[ef];simp only[ids];exact cF.2 ⟨y,D,I⟩
      obtain⟨c1,c2⟩:=hc i Z;exact⟨gk c1 u,fun cs M j hj=>gk (c2 cs (yA z1 M) j hj) u⟩
     simp only;split
     ·have N:u6 h (Ae (ev s f)::xs)=u6 h' (Ae (ev s f)::xs):=by
       unfold u6;congr 1;refine vL fun i hi=>?_
       rw[(hc i (hin i hi)).1]
      rw[N];split
      ·rename_i hg;have a9:∀i∈q.g,h i=h' i:=fun i hi=>by
        have:=List.all_eq_true.1 hg i hi;rw[←N]at this;simp only[List.contains_eq_mem,decide_eq_true_eq]at this;unfold u6 at this;rcases List.mem_append.1 this with h1 | h1
        ·exact(hc i (hin i h1)).1
        ·obtain⟨j,hj,a1⟩:=List.mem_flatMap.1 h1;split at a1
         ·rename_i cs M;exact(hc j (hin j hj)).2 cs M i a1
         ·cases a1
       rw[BO (g:=q.g) (h:=apply u h) (h':=apply u h') (fun i hi=>gk (a9 i hi) u),
        tV (g:=q.g) (h:=less q.g (apply u h)) (h':=less q.g (apply u h')) (fun i hi=>⟨vK (L i hi).1,fun cs M j hj=>vK ((L i hi).2 cs (rP M).1 j hj)⟩)]
      ·rfl
     ·rw[oR (h:=apply u h) (h':=apply u h') L]
   ·rfl
  | invoke r m=>rfl
 | makeMap t r=>cases r <;> rfl
 | lookup t x k ok =>
  simp only[gO,←v x (by simp[Op.operands]),←v k (by simp[Op.operands])];rw[ud (key x (by simp[Op.operands])),sD (key x (by simp[Op.operands]))]
 | mapUpdate t x k y =>
  simp only[gO,←v x (by simp[Op.operands]),←v k (by simp[Op.operands]),←v y (by simp[Op.operands])];rw[la (key x (by simp[Op.operands])) (key y (by simp[Op.operands])),kd (key x (by simp[Op.operands]))]
 | insert t x k y =>
  simp only[gO,←v x (by simp[Op.operands]),←v k (by simp[Op.operands]),←v y (by simp[Op.operands])];rw[la (key x (by simp[Op.operands])) (key y (by simp[Op.operands])),kd (key x (by simp[Op.operands]))]
 | _=>rfl
theorem yl{P:Program}{tb:bQ}{new:Nat}{asm:Option Bool}{iG:Option uY}{op:Op}{s u:Nat→af}{h h':Nat→Qz}
  (v:∀x∈op.operands.toList,ev s x=ev u x) (z:∀i∈jR h op (fm s op),h i=h' i):EM P tb new asm iG op s h=EM P tb new asm iG op u h':=by
 have key:∀x∈op.operands.toList,(¬((∃x,op = .move x)∨(∃x,op = .assign x)∨(∃x,op = .nilCheck x)∨∃t x f,op = .fieldAddr t x f))→∀i∈ids (ev s x),h i=h' i:=fun x q j i hi=>by
  have p:=fM q i hi;refine z i ?_;unfold jR;split
  ·exact List.mem_append_left _ p
  ·exact List.mem_append_left _ p
  ·exact List.mem_append_left _ p
  ·rename_i x;exact absurd (.inl ⟨x,rfl⟩) j
  ·rename_i x;exact absurd (.inr (.inl ⟨x,rfl⟩)) j
  ·rename_i x;exact absurd (.inr (.inr (.inl ⟨x,rfl⟩))) j
  ·rename_i t x f;exact absurd (.inr (.inr (.inr ⟨t,x,f,rfl⟩))) j
  ·exact p
 have C:pH tb new iG.isSome op s h=pH tb new iG.isSome op u h':=C4 v key;have D:jc P tb new iG op s h=jc P tb new iG op u h':=Cr v key (fun c hc I E=>by
  subst hc;have B:=AL (h':=h') (xs:=fm s (Op.call c)) z;refine oR fun i hi=>?_
  obtain⟨x,q,hi⟩:=E i hi;exact B i (fM q i hi)) (fun c hc A x q=>by
  subst hc;exact ma (fun i hi=>key x q (by rintro(⟨_,e⟩ | ⟨_,e⟩ | ⟨_,e⟩ | ⟨_,_,_,e⟩) <;> cases e) i hi))
 unfold EM;rw[C,D,C7 v z]
end Go.Tv
