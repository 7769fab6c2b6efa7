import Derived.Test.YtflahpmlcfhpcaaGreatDoorTvM
namespace Go.Tv
open Go Go.RowKit
theorem gq{h h':Nat→Qz}{i:Nat}(e:h i=h' i):∀(u:gT),apply u h i=apply u h' i:=fun u=>by
 induction u generalizing h h' with
 | nil=>exact e
 | cons p u v =>
  obtain⟨j,o⟩:=p;simp only[apply];refine v ?_;by_cases q:i=j
  ·subst q;rw[aB,aB]
  ·rw[aQ _ _ q,aQ _ _ q];exact e
section
variable{h h':Nat→Qz}
theorem nf{x:af}(e:∀i∈ids x,h i=h' i):fT h x=fT h' x:=by
 cases x <;> try rfl
 rename_i id;simp only[fT,e id (by simp[ids])]
theorem oA:∀ {xs:List af} {h h':Nat→Qz},(∀i∈br xs,h i=h' i)→pF h xs=pF h' xs
 | [],_,_,_=>rfl
 | x::xs,h,h',e=>by
  simp only[pF,nf (x:=x) (fun i hi=>e i (by simp[br,hi]))];cases hd:fT h' x with
  | none=>rfl
  | some p =>
   obtain⟨y,u⟩:=p;simp only[oA (xs:=xs) (h:=apply u h) (h':=apply u h') (fun i hi=>gq (e i (by simp[br,hi])) u)]
theorem AG(e f:List af):br (e++f)=br e++br f:=by
 induction e with
 | nil=>rfl
 | cons x e j=>simp only[List.cons_append,br,j,List.append_assoc]
theorem yk(k:IntKind)(l:QK):br (l.map fun i=>af.p false (.int k) i)=[]:=by
 induction l with
 | nil=>rfl
 | cons x f e=>simp only[List.map_cons,br,ids,e,List.append_nil]
theorem sY{x:af}:br (cellsOf x)=ids x:=by
 cases x with
 | lag k n xs e =>
  simp only[cellsOf,ids];rw[AG];have:=yk k xs.1;exact(congrArg (· ++ br e) this).trans (List.nil_append _)
 | _=>simp[cellsOf,br,ids]
theorem BK{T:Ty}{x:af}(e:∀i∈ids x,h i=h' i):ES T h x=ES T h' x:=by
 unfold ES;rw[oA (xs:=cellsOf x) (by rw[sY];exact e)]
theorem sL{T:Ty}{x:af}(e:∀i∈ids x,h i=h' i):Fb T h x=Fb T h' x:=by
 unfold Fb;split
 ·rename_i id i sz off;rw[e id (by simp[ids])]
 ·rfl
 ·exact BK e
theorem u4{A:Ty}:∀ {xs:List af} {h h':Nat→Qz},(∀i∈br xs,h i=h' i)→BB A h xs=BB A h' xs
 | [],_,_,_=>rfl
 | x::xs,h,h',e=>by
  simp only[BB,sL (x:=x) (T:=A) (fun i hi=>e i (by simp[br,hi]))];cases hd:Fb A h' x with
  | none=>rfl
  | some p =>
   obtain⟨y,u⟩:=p;simp only[u4 (xs:=xs) (h:=apply u h) (h':=apply u h') (fun i hi=>gq (e i (by simp[br,hi])) u)]
theorem xr{x:af}(e:∀i∈ids x,h i=h' i):lI h x=lI h' x:=by
 unfold lI;split <;> first
  | rfl
  | (rename_i id;rw[e id (by simp[ids])])
  | (rename_i id i sz off;rw[e id (by simp[ids])])
theorem Bc{x:af}{i:Int}(e:∀i∈ids x,h i=h' i):yd h x i=yd h' x i:=by
 unfold yd;split <;> first
  | rfl
  | (rename_i id;rw[e id (by simp[ids])])
  | (rename_i id i sz off;rw[e id (by simp[ids])])
theorem zU{x:af}(e:∀i∈ids x,h i=h' i):lenOf h x=lenOf h' x:=by
 unfold lenOf;split <;> first
  | rfl
  | (rename_i id;rw[e id (by simp[ids])])
  | (rename_i id i sz off;rw[e id (by simp[ids])])
theorem Cc{s d:TK}{x:af}(e:∀i∈ids x,h i=h' i):conv s d h x=conv s d h' x:=by
 unfold conv
 split <;> first
  | rfl
  | (rename_i id;rw[e id (by simp[ids])])
  | (rename_i id i sz off;rw[e id (by simp[ids])])
theorem mb{A:Ty}{x:af}(e:∀i∈ids x,h i=h' i):eR h A x=eR h' A x:=by
 unfold eR;split <;> first
  | rfl
  | (rename_i id;rw[e id (by simp[ids])])
  | (rename_i id i sz off;rw[e id (by simp[ids])])
theorem u9(β:Bool):∀(T:Ty) (x:T.den),br (flat β T x)=[]
 | .unit,_=>rfl
 | .prod a b,x=>by
  have f:=u9 β a x.1;have j:=u9 β b x.2;apply List.eq_nil_iff_forall_not_mem.2;intro i hi;simp only[flat,cF,List.mem_append]at hi;obtain⟨y,e,hi⟩:=hi;rcases e with e | e
  ·have:i∈br (flat β a x.1):=cF.2 ⟨y,e,hi⟩;rw[f]at this;cases this
  ·have:i∈br (flat β b x.2):=cF.2 ⟨y,e,hi⟩;rw[j]at this;cases this
 | .int _,_=>rfl
 | .bool,_=>rfl
 | .str,_=>rfl
 | .flt,_=>rfl
 | .slice _,_=>rfl
 | .ptr _,_=>rfl
 | .tree _ _,_=>rfl
 | .arr k _,x=>yk k x.1
 | .mapi _ _,_=>rfl
theorem JU{f new:List af}{p i:Nat}(hi:i∈br (wr f p new)):i∈br f∨i∈br new:=by
 obtain⟨y,e,hi⟩:=cF.1 hi;simp only[wr,List.mem_append]at e;rcases e with(e | e) | e
 ·exact .inl (cF.2 ⟨y,List.mem_of_mem_take e,hi⟩)
 ·exact .inr (cF.2 ⟨y,e,hi⟩)
 ·exact .inl (cF.2 ⟨y,List.mem_of_mem_drop e,hi⟩)
theorem zQ{A:Ty}{xs:List A.den}{i off:Nat}{y:af}(q:∀i∈ids y,h i=h' i):Bv A h xs i off y=Bv A h' xs i off y:=by
 unfold Bv;refine sL fun j p=>?_
 simp only[ids]at p;rcases JU p with f | f
 ·rw[u9]at f;cases f
 ·rw[sY]at f;exact q j f
theorem sW{x:af}(e:∀i∈ids x,h i=h' i):wq h x=wq h' x:=by
 cases x <;> try rfl
 rename_i id;simp only[wq,e id (by simp[ids])]
theorem m6:∀ {xs:List af},(∀i∈br xs,h i=h' i)→oY h xs=oY h' xs
 | [],_=>rfl
 | x::xs,e=>by
  simp only[oY,sW (x:=x) (fun i hi=>e i (by simp[br,hi])),m6 (xs:=xs) (fun i hi=>e i (by simp[br,hi]))]
def Jb(h h':Nat→Qz)(I:QV):Prop:=∀i∈I,h i=h' i∧∀e,h i=some (.box e)→∀j∈br e,h j=h' j
theorem tE{x:af}(f:Jb h h' (ids x)):qw h x=qw h' x:=by
 have j:∀i∈ids x,h i=h' i:=fun i hi=>(f i hi).1
 cases x <;> try rfl
 ·simp only[qw,sW j]
 ·rename_i id i sz off;simp only[qw];have p:=f id (by simp[ids]);rw[←p.1];cases q:h id with
  | none=>rfl
  | some ob =>
   cases ob with
   | box e=>simp only[m6 (xs:=e) (h:=h) (h':=h') (p.2 e q)]
   | arr _ _ _=>rfl
   | fz _ _=>rfl
   | mpo _ _ _=>rfl
   | mpl _ _=>rfl
   | bytes _ _=>rfl
   | cutz _ _=>rfl
   | lmp _ _ _ _=>rfl
   | vrow _ _ _=>rfl
   | mat _ _ _ _ _=>rfl
   | nds _ _ _ _=>rfl
   | mpq _ _=>rfl
 ·rename_i e;simp only[qw];rw[m6 (xs:=e) (h:=h) (h':=h') (fun i hi=>j i (by simpa [ids]using hi))]
theorem rC:∀ {xs:List af},Jb h h' (br xs)→qg h xs=qg h' xs
 | [],_=>rfl
 | x::xs,e=>by
  simp only[qg,tE (x:=x) (fun i hi=>e i (by simp[br,hi])),rC (xs:=xs) (fun i hi=>e i (by simp[br,hi]))]
theorem wj{x:af}(e:Jb h h' (ids x)):Bq h x=Bq h' x:=by
 cases x <;> try (simp only[Bq];exact tE e)
 rename_i f j;simp only[Bq];rw[rC (xs:=j) (h:=h) (h':=h') (fun i hi=>e i (by simpa [ids]using hi))]
theorem oV:∀ {xs:List af},Jb h h' (br xs)→nU h xs=nU h' xs
 | [],_=>rfl
 | x::xs,e=>by
  simp only[nU,wj (x:=x) (fun i hi=>e i (by simp[br,hi])),oV (xs:=xs) (fun i hi=>e i (by simp[br,hi]))]
theorem vb{g:QV}{i:Nat}(e:h i=h' i):less g h i=less g h' i:=by
 unfold less;split
 ·rfl
 ·exact e
theorem vu{α β:Type}{l:List α}{f j:α→List β}(e:∀x∈l,f x=j x):l.flatMap f=l.flatMap j:=by
 induction l with
 | nil=>rfl
 | cons x l p=>simp only[List.flatMap_cons,e x (by simp),p (fun y q=>e y (by simp[q]))]
theorem tI{g:QV}:∀ {xs:List af},Jb h h' (br xs)→rn g h xs=rn g h' xs
 | [],_=>rfl
 | x::xs,j=>by
  have e:xT g h x=xT g h' x:=by unfold xT;rw[wj (x:=x) (fun i hi=>j i (by simp[br,hi]))]
  simp only[rn,e,tI (xs:=xs) (fun i hi=>j i (by simp[br,hi]))]
theorem AT{g:QV}{h h':Nat→Qz}(e:∀i∈g,h i=h' i):jF g h 0 g=jF g h' 0 g:=by
 have key:∀(l:QV) (k:Nat),(∀i∈l,i∈g)→jF g h k l=jF g h' k l:=fun l=>by
  induction l with
  | nil=>intro k _;rfl
  | cons x l j =>intro k hl;simp only[jF,e x (hl x (by simp)),j (k+1) (fun i hi=>hl i (by simp[hi]))]
 exact key g 0 fun _ h=>h
theorem CY{x:af}(e:∀i∈ids x,h i=h' i):wS h x=wS h' x:=by
 cases x <;> try (simp only[wS];exact nf e)
 rename_i f;simp only[wS];rw[oA (xs:=f) (h:=h) (h':=h') (fun i hi=>e i (by simpa [ids]using hi))]
theorem qa:∀ {bs:List Bool} {xs:List af} {h h':Nat→Qz},(∀i∈br xs,h i=h' i)→frzL h bs xs=frzL h' bs xs
 | _,[],_,_,_=>by simp only[frzL]
 | [],_::_,_,_,_=>rfl
 | false::bs,x::xs,h,h',e=>by
  simp only[frzL,qa (bs:=bs) (xs:=xs) (h:=h) (h':=h') (fun i hi=>e i (by simp[br,hi]))]
 | true::bs,x::xs,h,h',e=>by
  simp only[frzL,CY (x:=x) (h:=h) (h':=h') (fun i hi=>e i (by simp[br,hi]))];cases wS h' x with
  | none=>rfl
  | some p =>
   obtain⟨y,u⟩:=p;simp only[qa (bs:=bs) (xs:=xs) (h:=apply u h) (h':=apply u h') (fun i hi=>gq (e i (by simp[br,hi])) u)]
def rL(u:gT):Prop:=∀p∈u,∃A e,p.2=some (.fz A e)
theorem rL.append{u v:gT}(hu:rL u)(e:rL v):rL (u++v):=fun p j=>(List.mem_append.1 j).elim (hu p) (e p)
theorem xE{x y:af}{u:gT}(hd:fT h x=some (y,u)):rL u∧∀i∈ids y,i∈ids x:=by
 unfold fT at hd;split at hd
 ·split at hd
  ·cases hd;exact⟨fun p e=>by simp at e;subst e;exact⟨_,_,rfl⟩,fun i hi=>by simp[ids]at hi⟩
  ·cases hd;exact⟨fun p e=>by simp at e,fun i hi=>by simp[ids]at hi⟩
  ·cases hd;exact⟨fun p e=>by simp at e;subst e;exact⟨_,_,rfl⟩,fun i hi=>by simp[ids]at hi⟩
  ·cases hd;exact⟨fun p e=>by simp at e;subst e;exact⟨_,_,rfl⟩,fun i hi=>by simp[ids]at hi⟩
  ·cases hd;exact⟨fun p e=>by simp at e;subst e;exact⟨_,_,rfl⟩,fun i hi=>by simp[ids]at hi⟩
  ·cases hd
 ·cases hd;exact⟨fun p e=>by simp at e,fun i hi=>hi⟩
theorem AW:∀ {f e:List af} {h:Nat→Qz} {u:gT},pF h f=some (e,u)→rL u∧∀i∈br e,i∈br f
 | [],e,h,u,hd=>by cases hd;exact⟨fun p j=>by simp at j,fun i hi=>hi⟩
 | x::f,e,h,u,hd=>by
  simp only[pF]at hd;split at hd
  ·rename_i y E q;split at hd
   ·rename_i v I z;cases hd;obtain⟨A,B⟩:=xE q;obtain⟨C,D⟩:=AW z;refine⟨A.append C,fun i hi=>?_⟩;simp only[br,List.mem_append]at hi ⊢;exact hi.imp (B i) (D i)
   ·cases hd
  ·cases hd
theorem Im{x y:af}{u:gT}(hd:wS h x=some (y,u)):rL u∧∀i∈ids y,i∈ids x:=by
 unfold wS at hd;split at hd
 ·split at hd
  ·rename_i p q e;cases hd;obtain⟨f,j⟩:=AW e;exact⟨f,fun i hi=>by simp only[ids]at hi ⊢;exact j i hi⟩
  ·cases hd
 ·exact xE hd
theorem zd:∀ {bs:List Bool} {xs e:List af} {h:Nat→Qz} {u:gT},frzL h bs xs=some (e,u)→rL u∧∀i∈br e,i∈br xs
 | _,[],e,h,u,hd=>by simp only[frzL]at hd;cases hd;exact⟨fun p j=>by simp at j,fun i hi=>hi⟩
 | [],_::_,e,h,u,hd=>by simp only[frzL]at hd;cases hd;exact⟨fun p j=>by simp at j,fun i hi=>hi⟩
 | false::bs,x::xs,e,h,u,hd=>by
  simp only[frzL]at hd;split at hd
  ·rename_i q I v;cases hd;obtain⟨z,B⟩:=zd v;refine⟨z,fun i hi=>?_⟩;simp only[br,List.mem_append]at hi ⊢;exact hi.imp (fun h=>h) (B i)
  ·cases hd
 | true::bs,x::xs,e,h,u,hd=>by
  simp only[frzL]at hd;split at hd
  ·rename_i y J v;split at hd
   ·rename_i q L C;cases hd;obtain⟨z,B⟩:=Im v;obtain⟨D,E⟩:=zd C;refine⟨z.append D,fun i hi=>?_⟩;simp only[br,List.mem_append]at hi ⊢;exact hi.imp (B i) (E i)
   ·cases hd
  ·cases hd
theorem zl{u:gT}(hu:rL u){i:Nat}{z:List af}:∀ {h:Nat→Qz},apply u h i=some (.box z)→h i=some (.box z):=by
 induction u with
 | nil=>intro h hb;exact hb
 | cons p u B =>
  intro h hb;obtain⟨j,o⟩:=p;have v:=B (fun q C=>hu q (by simp[C])) hb;by_cases e:i=j
  ·subst e;rw[aB]at v;obtain⟨A,xs,x⟩:=hu (i,o) (by simp);simp only at x;rw[v]at x;cases x
  ·rw[aQ _ _ e]at v;exact v
theorem AF{xs:List af}(e:∀i∈wk h xs,h i=h' i):Jb h h' (br xs):=fun i hi =>
 ⟨e i (List.mem_append_left _ hi),fun q hc j p=>e j (List.mem_append_right _ (List.mem_flatMap.2 ⟨i,hi,by rw[hc];exact p⟩))⟩
theorem wo{tb:bQ}{new:Nat}{t:TypeId}{x:af}{e hi:Option (Option Int)}(j:∀i∈ids x,h i=h' i):o6 tb new t x e hi h=o6 tb new t x e hi h':=by
 unfold o6;split
 ·split
  ·split <;> first
    | rfl
    | (rename_i id;rw[j id (by simp[ids])])
  ·rfl
 ·rfl
theorem wM{new:Nat}{ti:TI}{x:af}(v:∀i∈ids x,h i=h' i)(z:∀i∈ids x,∀e u A q k j,h i=some (.mat e u A q (some (k,j)))→h j=h' j):lQ new ti x h=lQ new ti x h':=by
 unfold lQ;cases x <;> try rfl
 rename_i id i sz off;simp only;have B:=v id (by simp[ids]);have u:=z id (by simp[ids]);rw[←B];cases C:h id with
 | none=>rfl
 | some ob =>
  cases ob with
  | mat e D A q hole =>
   cases hole with
   | none=>rfl
   | some p =>
    obtain⟨k,j⟩:=p;simp only[u _ _ _ _ _ _ C]
  | _=>rfl
theorem vA{ti:TI}{x:af}(j:∀i∈ids x,h i=h' i):mH ti x h=mH ti x h':=by
 unfold mH;split
 ·rename_i id b n i k _;have e:=j id (by simp[ids]);rw[e]
 ·rfl
theorem uf{ti:TI}{x y:af}(j:∀i∈ids x,h i=h' i):kK ti x y h=kK ti x y h':=by
 unfold kK;split
 ·rename_i id b n i _ k v;have f:=j id (by simp[ids]);rw[f]
 ·rfl
theorem uh{tb:bQ}{t:TypeId}{x i:af}(e:∀i∈ids x,h i=h' i):kQ tb t x i h=kQ tb t x i h':=by
 unfold kQ;cases tb.find t with
 | none=>rfl
 | some ti =>
  simp only;split
  ·split
   ·split
    ·split
     ·rename_i id j sz off _ _ _;rw[e id (by simp[ids])]
     ·rfl
     ·rfl
    ·split
     ·split
      ·rename_i id j sz off _ _ _;rw[e id (by simp[ids])]
      ·rfl
     ·rfl
   ·rfl
  ·rfl
theorem ql{tb:bQ}{t:TypeId}{x i:af}(e:∀i∈ids x,h i=h' i):iH tb t x i h=iH tb t x i h':=by
 unfold iH;cases hJ tb t with
 | none=>rfl
 | some q =>
  simp only;split
  ·rw[Bc e]
  ·rfl
theorem ue{P:Program}{tb:bQ}{t:TypeId}{x k:af}{ok:Bool}(e:∀i∈ids x,h i=h' i):mI P tb t x k ok h=mI P tb t x k ok h':=by
 unfold mI;split
 ·split
  ·rename_i id;rw[e id (by simp[ids])]
  ·rfl
 ·rfl
theorem sK{P:Program}{tb:bQ}{t:TypeId}{g:QV}{x k:af}{ok:Bool}(e:∀i∈ids x,h i=h' i):la P tb t g x k ok h=la P tb t g x k ok h':=by
 unfold la;split
 ·split
  ·rename_i id;rw[e id (by simp[ids])]
  ·rfl
 ·rfl
theorem lb{P:Program}{tb:bQ}{t:TypeId}{x k y:af}(e:∀i∈ids x,h i=h' i)(j:∀i∈ids y,h i=h' i):fD P tb t x k y h=fD P tb t x k y h':=by
 unfold fD;split
 ·split
  ·rename_i id;rw[e id (by simp[ids])];split
   ·split
    ·split
     ·rw[sL j]
     ·rfl
    ·rfl
   ·rfl
  ·rfl
 ·rfl
theorem kf{P:Program}{tb:bQ}{t:TypeId}{x k y:af}(e:∀i∈ids x,h i=h' i):eV P tb t x k y h=eV P tb t x k y h':=by
 unfold eV;split
 ·split
  ·rename_i id;rw[e id (by simp[ids])]
  ·rfl
 ·rfl
theorem yP{id i:Nat}{e e2:TypeId}{A:Ty}{xss:List (List A.den)}{hole:Option (Nat×Nat)}{y:af}(f:∀i∈ids y,h i=h' i)(q:∀k j,hole=some (k,j)→h j=h' j):sv id i e e2 A xss hole y h=sv id i e e2 A xss hole y h':=by
 unfold sv;cases y <;> try rfl
 rename_i r;simp only;rw[←f r (by simp[ids])];cases h r with
 | none=>rfl
 | some ob =>
  cases ob with
  | arr u B v =>
   cases hole with
   | none=>rfl
   | some p =>
    obtain⟨k,j⟩:=p;simp only[q k j rfl]
  | _=>rfl
theorem vW{tb:bQ}{t:TypeId}{x y:af}(u:∀i∈ids x,h i=h' i)(v:∀i∈ids y,h i=h' i)(z:∀i∈ids x,∀e e2 A xss k j,h i=some (.mat e e2 A xss (some (k,j)))→h j=h' j):oy tb t x y h=oy tb t x y h':=by
 unfold oy;cases tb.find t with
 | none=>rfl
 | some ti =>
  simp only;split
  ·cases x <;> try rfl
   case ada=>exact uf u
   rename_i id i sz off;simp only;have p:=u id (by simp[ids]);have q:=z id (by simp[ids]);rw[←p];cases B:h id with
   | none=>rfl
   | some ob =>
    cases ob with
    | arr e A xs=>simp only[zQ (A:=A) (xs:=xs) (i:=i) (off:=off) v]
    | fz _ _=>rfl
    | box _=>rfl
    | mpo _ _ _=>rfl
    | mpl _ _=>rfl
    | bytes _ _=>rfl
    | cutz _ _=>rfl
    | lmp _ _ _ _=>rfl
    | vrow _ _ _=>rfl
    | nds _ _ _ _=>rfl
    | mpq _ _=>rfl
    | mat e e2 A xss hole=>simp only[yP (id:=id) (i:=i) (e:=e) (e2:=e2) (A:=A) (xss:=xss) (hole:=hole) v (fun k j C=>q e e2 A xss k j (by rw[B,C]))]
  ·rfl
theorem tY{tb:bQ}{new:Nat}{t:TypeId}{x y:af}(j:∀i∈ids x,h i=h' i)(q:∀i∈ids y,h i=h' i):mz tb new t x y h=mz tb new t x y h':=by
 unfold mz;cases hJ tb t with
 | none=>rfl
 | some p =>
  obtain⟨e,u,A⟩:=p;simp only[mb (A:=A) q];cases eR h' A y with
  | none=>rfl
  | some v =>
   simp only;cases x <;> try rfl
   rename_i id;simp only;rw[j id (by simp[ids])]
theorem xf{tb:bQ}{t:TypeId}{x y:af}(j:∀i∈ids x,h i=h' i)(q:∀i∈ids y,h i=h' i):rG tb t x y h=rG tb t x y h':=by
 unfold rG;cases hJ tb t with
 | none=>rfl
 | some p =>
  obtain⟨e,u,A⟩:=p;simp only[mb (A:=A) q];cases eR h' A y with
  | none=>rfl
  | some v =>
   simp only;cases x <;> try rfl
   rename_i id;simp only;rw[j id (by simp[ids])]
end
def fk(s:Nat→af)(op:Op):List af:=op.operands.toList.map (ev s)
theorem fI{s:Nat→af}{op:Op}{x:Operand}(e:x∈op.operands.toList):∀i∈ids (ev s x),i∈br (fk s op):=fun _ hi =>
 cF.2 ⟨ev s x,List.mem_map.2 ⟨x,e,rfl⟩,hi⟩
def vH(h:Nat→Qz)(e:List af):QV :=
 br e++(br e).flatMap fun i=>match h i with
  | some (.mat _ _ _ _ (some (_,j)))=>[j]
  | _=>[]
theorem vF{h:Nat→Qz}{xs:List af}{i:Nat}{e q:TypeId}{A:Ty}{p:List (List A.den)}{k j:Nat}(hi:i∈br xs)(u:h i=some (.mat e q A p (some (k,j)))):j∈vH h xs :=
 List.mem_append_right _ (List.mem_flatMap.2 ⟨i,hi,by rw[u];exact .head _⟩)
def jW(h:Nat→Qz)(op:Op)(xs:List af):QV :=
 match op with
 | .call _=>wk h xs
 | .load _ _=>vH h xs
 | .store _ _ _=>vH h xs
 | .move _=>[]
 | .assign _=>[]
 | .nilCheck _=>[]
 | .fieldAddr _ _ _=>[]
 | _=>br xs
theorem Cl{P:Program}{tb:bQ}{new:Nat}{asm:Option Bool}{iE:Option vO}{op:Op}{s O:Nat→af}{h h':Nat→Qz}
  (v:∀x∈op.operands.toList,ev s x=ev O x) (hh:∀i∈jW h op (fk s op),h i=h' i):gS P tb new asm iE op s h=gS P tb new asm iE op O h':=by
 by_cases J:(∃x,op = .move x)∨(∃x,op = .assign x)∨(∃x,op = .nilCheck x)∨∃t x f,op = .fieldAddr t x f
 ·rcases J with⟨x,rfl⟩ | ⟨x,rfl⟩ | ⟨x,rfl⟩ | ⟨t,x,f,rfl⟩ <;> simp only[gS,v x (by simp[Op.operands])]
 have a3:∀i∈br (fk s op),h i=h' i:=fun i hi=>by
  refine hh i ?_;unfold jW;split
  ·exact List.mem_append_left _ hi
  ·exact List.mem_append_left _ hi
  ·exact List.mem_append_left _ hi
  ·rename_i x;exact absurd (.inl ⟨x,rfl⟩) J
  ·rename_i x;exact absurd (.inr (.inl ⟨x,rfl⟩)) J
  ·rename_i x;exact absurd (.inr (.inr (.inl ⟨x,rfl⟩))) J
  ·rename_i t x f;exact absurd (.inr (.inr (.inr ⟨t,x,f,rfl⟩))) J
  ·exact hi
 have key:∀x∈op.operands.toList,∀i∈ids (ev s x),h i=h' i:=fun x V i hi=>a3 i (fI V i hi)
 cases op with
 | move x=>simp only[gS,v x (by simp[Op.operands])]
 | assign x=>simp only[gS,v x (by simp[Op.operands])]
 | pick c x y =>
  have e:∀b:Bool,ev s (if b=true then x else y)=ev O (if b=true then x else y):=fun b=>by
   cases b
   ·exact v y (by simp[Op.operands])
   ·exact v x (by simp[Op.operands])
  simp only[gS,yr,v c (by simp[Op.operands]),e,v x (by simp[Op.operands]),v y (by simp[Op.operands])]
 | alloc t=>rfl
 | box t x=>simp only[gS,v x (by simp[Op.operands])]
 | build t ps =>
  simp only[gS];have e:ps.toList.map (fun p=>ev s p.2)=ps.toList.map (fun p=>ev O p.2):=List.map_congr_left (fun p C=>v p.2 (by simp only[Op.operands,List.mem_map];exact⟨p,C,rfl⟩));rw[e]
 | buildSlice t len ps =>
  simp only[gS];have e:ps.toList.map (fun p=>ev s p.2)=ps.toList.map (fun p=>ev O p.2):=List.map_congr_left (fun p C=>v p.2 (by simp only[Op.operands,List.mem_map];exact⟨p,C,rfl⟩));rw[←e];unfold ma;cases hJ tb t with
  | none=>rfl
  | some q =>
   obtain⟨e,te,A⟩:=q;simp only;split
   ·rw[u4 (A:=A) (fun i hi=>by
     obtain⟨y,D,hi⟩:=cF.1 hi;obtain⟨p,C,rfl⟩:=List.mem_map.1 D;exact key p.2 (by simp only[Op.operands,List.mem_map];exact⟨p,C,rfl⟩) i hi)]
   ·rfl
 | load t x =>
  simp only[gS,←v x (by simp[Op.operands])];have V:=key x (by simp[Op.operands]);have e2:∀ti,lQ new ti (ev s x) h=lQ new ti (ev s x) h':=fun ti=>wM V (fun i hi e e2 A a4 k j hm=>hh j (vF (fI (by simp[Op.operands]) i hi) hm))
  unfold zt;simp only[xr V,vA V,e2]
 | store t x y =>
  simp only[gS,←v x (by simp[Op.operands]),←v y (by simp[Op.operands])];exact vW (key x (by simp[Op.operands])) (key y (by simp[Op.operands])) (fun i hi e e2 A a4 k j hm=>hh j (vF (fI (by simp[Op.operands]) i hi) hm))
 | binOp o t x y t'=>simp only[gS,v x (by simp[Op.operands]),v y (by simp[Op.operands])]
 | unOp o t x=>simp only[gS,v x (by simp[Op.operands])]
 | nilCheck x=>simp only[gS,v x (by simp[Op.operands])]
 | convert st dt x =>
  simp only[gS,←v x (by simp[Op.operands])];cases iE with
  | some _=>rfl
  | none=>?_
  simp only;unfold yM;cases tb.find st with
  | none=>rfl
  | some si =>
   cases tb.find dt with
   | none=>rfl
   | some di =>
    simp only;cases GQ tb di.k (ev s x)with
    | some r=>rfl
    | none=>simp only[Cc (s:=si.k) (d:=di.k) (key x (by simp[Op.operands]))]
 | slice t x lo hi mx =>
  cases mx with
  | some mo =>
   cases hi with
   | none=>rfl
   | some a5 =>
    have e1:pC s lo=pC O lo:=by
     cases lo with
     | none=>rfl
     | some y=>simp only[pC,v y (by simp[Op.operands])]
    simp only[gS,←v x (by simp[Op.operands]),←v a5 (by simp[Op.operands]),←v mo (by simp[Op.operands]),←e1];have V:=key x (by simp[Op.operands]);cases iE with
    | some _ =>
     simp only;unfold Cy;rw[nf V]
    | none=>?_
    simp only;unfold sn;split
    ·split
     ·rfl
     ·rename_i id ex;rw[V id (by rw[ex];simp[ids])]
     ·rfl
    ·rfl
  | none =>
   have e1:pC s lo=pC O lo:=by
    cases lo with
    | none=>rfl
    | some y=>simp only[pC,v y (by simp[Op.operands])]
   have e2:pC s hi=pC O hi:=by
    cases hi with
    | none=>rfl
    | some y=>simp only[pC,v y (by simp[Op.operands])]
   simp only[gS,←v x (by simp[Op.operands]),←e1,←e2];exact wo (key x (by simp[Op.operands]))
 | fieldAddr t x f=>simp only[gS,v x (by simp[Op.operands])]
 | indexAddr t x i =>
  simp only[gS,←v x (by simp[Op.operands]),←v i (by simp[Op.operands])];simp only[uh (key x (by simp[Op.operands])),ql (key x (by simp[Op.operands]))]
 | index t x i=>simp only[gS,v x (by simp[Op.operands]),v i (by simp[Op.operands])]
 | extract x i=>simp only[gS,v x (by simp[Op.operands])]
 | typeAssert x xt t ok=>simp only[gS,v x (by simp[Op.operands])]
 | makeFunc f fs cs =>
  simp only[gS];rw[List.map_congr_left (f:=ev s) (g:=ev O) (fun p C=>v p (by simp only[Op.operands,Array.toList_append,List.mem_append];exact .inr C))]
 | makeSlice t l c=>simp only[gS,v l (by simp[Op.operands]),v c (by simp[Op.operands])]
 | call c =>
  obtain⟨callee,args,E⟩:=c;have B:∀x∈args.toList,x∈(Op.call { callee,args,argTypes:=E }).operands.toList:=fun x V=>by simp only[Op.operands,Call.operands,Array.toList_append,List.mem_append];exact .inr V
  have e:args.toList.map (ev s)=args.toList.map (ev O):=List.map_congr_left (fun p C=>v p (B p C));have hk:∀y∈args.toList.map (ev s),∀i∈ids y,h i=h' i:=fun y D i hi=>by obtain⟨p,C,rfl⟩:=List.mem_map.1 D;exact key p (B p C) i hi
  have hc:=AF (h':=h') (xs:=fk s (Op.call { callee,args,argTypes:=E })) hh;simp only[gS,pt];cases callee with
  | builtin b =>
   simp only[←e];unfold qs;split
   ·rename_i y t X et;split
    ·unfold sh;split
     ·split
      ·rename_i id _ _;rw[hk (.mp id) (by rw[X];simp) id (by simp[ids])]
      ·rfl
     ·rfl
    ·unfold BX;rw[zU (hk y (by rw[X];simp))]
   ·rfl
   ·rfl
   ·rename_i y z t t' X et;split
    ·exact tY (hk y (by rw[X];simp)) (hk z (by rw[X];simp))
    ·rfl
   ·rename_i y z t t' X et;exact xf (hk y (by rw[X];simp)) (hk z (by rw[X];simp))
   ·rfl
  | value f =>
   have hf:f∈(Op.call { callee:= .value f,args,argTypes:=E }).operands.toList:=by simp[Op.operands,Call.operands]
   simp only[←e,←v f hf];generalize a6:gO tb (Hw iE) E.toList (args.toList.map (ev s))=xs;have Y:∀i∈br xs,i∈br (args.toList.map (ev s)):=fun i hi=>by rw[←a6,nr]at hi;exact hi
   unfold uz;split
   ·rename_i fid a2 q ef;have hin:∀i∈br (Bf (ev s f)::xs),i∈br (fk s (Op.call { callee:= .value f,args,argTypes:=E })):=fun i hi=>by
     simp only[br,List.mem_append]at hi;rcases hi with hi | hi
     ·exact fI hf i (Bu i hi)
     ·obtain⟨y,D,I⟩:=cF.1 (Y i hi);obtain⟨p,C,rfl⟩:=List.mem_map.1 D;exact fI (B p C) i I
    rw[qa (bs:=q.fl) (h:=h) (h':=h') (fun i hi=>by
     obtain⟨y,D,I⟩:=cF.1 (Y i hi);exact hk y D i I)]
    cases a7:frzL h' q.fl xs with
    | none=>rfl
    | some p =>
     obtain⟨ys,u⟩:=p;obtain⟨z1,z2⟩:=zd a7;have L:Jb (apply u h) (apply u h') (br (ys++a2)):=fun i hi=>by
      have Z:i∈br (fk s (Op.call { callee:= .value f,args,argTypes:=E })):=by
       obtain⟨y,D,I⟩:=cF.1 hi;rcases List.mem_append.1 D with D | D
       ·obtain⟨y2,a8,Z⟩:=cF.1 (Y i (z2 i (cF.2 ⟨y,D,I⟩)));obtain⟨p,C,rfl⟩:=List.mem_map.1 a8;exact fI (B p C) i Z
       ·refine fI hf i (Bu i ?_);rw[ef];simp only[ids];exact cF.2 ⟨y,D,I⟩
      obtain⟨c1,c2⟩:=hc i Z;exact⟨gq c1 u,fun cs M j hj=>gq (c2 cs (zl z1 M) j hj) u⟩
     simp only;split
     ·have N:wk h (Bf (ev s f)::xs)=wk h' (Bf (ev s f)::xs):=by
       unfold wk;congr 1;refine vu fun i hi=>?_
       rw[(hc i (hin i hi)).1]
      rw[N];split
      ·rename_i hg;have a9:∀i∈q.g,h i=h' i:=fun i hi=>by
        have:=List.all_eq_true.1 hg i hi;rw[←N]at this;simp only[List.contains_eq_mem,decide_eq_true_eq]at this;unfold wk at this;rcases List.mem_append.1 this with h1 | h1
        ·exact(hc i (hin i h1)).1
        ·obtain⟨j,hj,a1⟩:=List.mem_flatMap.1 h1;split at a1
         ·rename_i cs M;exact(hc j (hin j hj)).2 cs M i a1
         ·cases a1
       rw[AT (g:=q.g) (h:=apply u h) (h':=apply u h') (fun i hi=>gq (a9 i hi) u),
        tI (g:=q.g) (h:=less q.g (apply u h)) (h':=less q.g (apply u h')) (fun i hi=>⟨vb (L i hi).1,fun cs M j hj=>vb ((L i hi).2 cs (qI M).1 j hj)⟩)]
      ·rfl
     ·rw[oV (h:=apply u h) (h':=apply u h') L]
   ·rfl
  | invoke r m=>rfl
 | makeMap t r=>cases r <;> rfl
 | lookup t x k ok =>
  simp only[gS,←v x (by simp[Op.operands]),←v k (by simp[Op.operands])];rw[ue (key x (by simp[Op.operands])),sK (key x (by simp[Op.operands]))]
 | mapUpdate t x k y =>
  simp only[gS,←v x (by simp[Op.operands]),←v k (by simp[Op.operands]),←v y (by simp[Op.operands])];rw[lb (key x (by simp[Op.operands])) (key y (by simp[Op.operands])),kf (key x (by simp[Op.operands]))]
 | insert t x k y =>
  simp only[gS,←v x (by simp[Op.operands]),←v k (by simp[Op.operands]),←v y (by simp[Op.operands])];rw[lb (key x (by simp[Op.operands])) (key y (by simp[Op.operands])),kf (key x (by simp[Op.operands]))]
 | _=>rfl
theorem xy{P:Program}{tb:bQ}{new:Nat}{asm:Option Bool}{iE:Option vO}{op:Op}{s u:Nat→af}{h h':Nat→Qz}
  (v:∀x∈op.operands.toList,ev s x=ev u x) (z:∀i∈jW h op (fk s op),h i=h' i):EL P tb new asm iE op s h=EL P tb new asm iE op u h':=by
 have key:∀x∈op.operands.toList,(¬((∃x,op = .move x)∨(∃x,op = .assign x)∨(∃x,op = .nilCheck x)∨∃t x f,op = .fieldAddr t x f))→∀i∈ids (ev s x),h i=h' i:=fun x q j i hi=>by
  have p:=fI q i hi;refine z i ?_;unfold jW;split
  ·exact List.mem_append_left _ p
  ·exact List.mem_append_left _ p
  ·exact List.mem_append_left _ p
  ·rename_i x;exact absurd (.inl ⟨x,rfl⟩) j
  ·rename_i x;exact absurd (.inr (.inl ⟨x,rfl⟩)) j
  ·rename_i x;exact absurd (.inr (.inr (.inl ⟨x,rfl⟩))) j
  ·rename_i t x f;exact absurd (.inr (.inr (.inr ⟨t,x,f,rfl⟩))) j
  ·exact p
 have C:py tb new iE.isSome op s h=py tb new iE.isSome op u h':=Cj v key;have D:iZ P tb new iE op s h=iZ P tb new iE op u h':=Cx v key (fun c hc I E=>by
  subst hc;have B:=AF (h':=h') (xs:=fk s (Op.call c)) z;refine oV fun i hi=>?_
  obtain⟨x,q,hi⟩:=E i hi;exact B i (fI q i hi)) (fun c hc A x q=>by
  subst hc;exact mb (fun i hi=>key x q (by rintro(⟨_,e⟩ | ⟨_,e⟩ | ⟨_,e⟩ | ⟨_,_,_,e⟩) <;> cases e) i hi))
 unfold EL;rw[C,D,Cl v z]
end Go.Tv
