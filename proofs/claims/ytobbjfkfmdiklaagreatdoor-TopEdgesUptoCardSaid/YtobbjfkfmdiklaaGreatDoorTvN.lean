import Derived.Test.YtobbjfkfmdiklaaGreatDoorTvM
namespace Go.Tv
open Go Go.RowKit
theorem gy{h h':Nat→Qz}{i:Nat}(e:h i=h' i):∀(u:gX),apply u h i=apply u h' i:=fun u=>by
 induction u generalizing h h' with
 | nil=>exact e
 | cons p u v =>
  obtain⟨j,o⟩:=p;simp only[apply];refine v ?_;by_cases q:i=j
  ·subst q;rw[aB,aB]
  ·rw[aR _ _ q,aR _ _ q];exact e
section
variable{h h':Nat→Qz}
theorem nF{x:ag}(j:∀i∈ids x,h i=h' i):gk h x=gk h' x:=by
 cases x <;> try rfl
 rename_i id;simp only[gk,j id (by simp[ids])]
theorem pb:∀ {xs:List ag} {h h':Nat→Qz},(∀i∈bu xs,h i=h' i)→pW h xs=pW h' xs
 | [],_,_,_=>rfl
 | x::xs,h,h',j=>by
  simp only[pW,nF (x:=x) (fun i hi=>j i (by simp[bu,hi]))];cases hd:gk h' x with
  | none=>rfl
  | some p =>
   obtain⟨y,u⟩:=p;simp only[pb (xs:=xs) (h:=apply u h) (h':=apply u h') (fun i hi=>gy (j i (by simp[bu,hi])) u)]
theorem CK(j p:List ag):bu (j++p)=bu j++bu p:=by
 induction j with
 | nil=>rfl
 | cons x j q=>simp only[List.cons_append,bu,q,List.append_assoc]
theorem yr(k:IntKind)(l:QK):bu (l.map fun i=>ag.p false (.int k) i)=[]:=by
 induction l with
 | nil=>rfl
 | cons x q j=>simp only[List.map_cons,bu,ids,j,List.append_nil]
theorem uo{x:ag}:bu (cellsOf x)=ids x:=by
 cases x with
 | lag k n xs j =>
  simp only[cellsOf,ids];rw[CK];have:=yr k xs.1;exact(congrArg (· ++ bu j) this).trans (List.nil_append _)
 | _=>simp[cellsOf,bu,ids]
theorem DI{T:Ty}{x:ag}(j:∀i∈ids x,h i=h' i):Fb T h x=Fb T h' x:=by
 unfold Fb;rw[pb (xs:=cellsOf x) (by rw[uo];exact j)]
theorem tB{T:Ty}{x:ag}(j:∀i∈ids x,h i=h' i):Gm T h x=Gm T h' x:=by
 unfold Gm;split
 ·rename_i id i sz off;rw[j id (by simp[ids])]
 ·rfl
 ·exact DI j
theorem vh{A:Ty}:∀ {xs:List ag} {h h':Nat→Qz},(∀i∈bu xs,h i=h' i)→BC A h xs=BC A h' xs
 | [],_,_,_=>rfl
 | x::xs,h,h',j=>by
  simp only[BC,tB (x:=x) (T:=A) (fun i hi=>j i (by simp[bu,hi]))];cases hd:Gm A h' x with
  | none=>rfl
  | some p =>
   obtain⟨y,u⟩:=p;simp only[vh (xs:=xs) (h:=apply u h) (h':=apply u h') (fun i hi=>gy (j i (by simp[bu,hi])) u)]
theorem xO{x:ag}(j:∀i∈ids x,h i=h' i):mr h x=mr h' x:=by
 unfold mr;split <;> first
  | rfl
  | (rename_i id;rw[j id (by simp[ids])])
  | (rename_i id i sz off;rw[j id (by simp[ids])])
theorem AF{x:ag}{i:Int}(j:∀i∈ids x,h i=h' i):yN h x i=yN h' x i:=by
 unfold yN;split <;> first
  | rfl
  | (rename_i id;rw[j id (by simp[ids])])
  | (rename_i id i sz off;rw[j id (by simp[ids])])
theorem Bs{x:ag}(j:∀i∈ids x,h i=h' i):lenOf h x=lenOf h' x:=by
 unfold lenOf;split <;> first
  | rfl
  | (rename_i id;rw[j id (by simp[ids])])
  | (rename_i id i sz off;rw[j id (by simp[ids])])
theorem DH{s d:TK}{x:ag}(j:∀i∈ids x,h i=h' i):conv s d h x=conv s d h' x:=by
 unfold conv
 split <;> first
  | rfl
  | (rename_i id;rw[j id (by simp[ids])])
  | (rename_i id i sz off;rw[j id (by simp[ids])])
theorem mF{A:Ty}{x:ag}(j:∀i∈ids x,h i=h' i):eZ h A x=eZ h' A x:=by
 unfold eZ;split <;> first
  | rfl
  | (rename_i id;rw[j id (by simp[ids])])
  | (rename_i id i sz off;rw[j id (by simp[ids])])
theorem wO(β:Bool):∀(T:Ty) (x:T.den),bu (flat β T x)=[]
 | .unit,_=>rfl
 | .prod a b,x=>by
  have h1:=wO β a x.1;have h2:=wO β b x.2;apply List.eq_nil_iff_forall_not_mem.2;intro i hi;simp only[flat,cI,List.mem_append]at hi;obtain⟨y,j,hi⟩:=hi;rcases j with j | j
  ·have:i∈bu (flat β a x.1):=cI.2 ⟨y,j,hi⟩;rw[h1]at this;cases this
  ·have:i∈bu (flat β b x.2):=cI.2 ⟨y,j,hi⟩;rw[h2]at this;cases this
 | .int _,_=>rfl
 | .bool,_=>rfl
 | .str,_=>rfl
 | .flt,_=>rfl
 | .slice _,_=>rfl
 | .ptr _,_=>rfl
 | .tree _ _,_=>rfl
 | .arr k _,x=>yr k x.1
 | .mapi _ _,_=>rfl
theorem LA{q new:List ag}{p i:Nat}(hi:i∈bu (wr q p new)):i∈bu q∨i∈bu new:=by
 obtain⟨y,j,hi⟩:=cI.1 hi;simp only[wr,List.mem_append]at j;rcases j with(j | j) | j
 ·exact .inl (cI.2 ⟨y,List.mem_of_mem_take j,hi⟩)
 ·exact .inr (cI.2 ⟨y,j,hi⟩)
 ·exact .inl (cI.2 ⟨y,List.mem_of_mem_drop j,hi⟩)
theorem AW{A:Ty}{xs:List A.den}{i off:Nat}{y:ag}(q:∀i∈ids y,h i=h' i):A7 A h xs i off y=A7 A h' xs i off y:=by
 unfold A7;refine tB fun j p=>?_
 simp only[ids]at p;rcases LA p with h1 | h1
 ·rw[wO]at h1;cases h1
 ·rw[uo]at h1;exact q j h1
theorem tL{x:ag}(j:∀i∈ids x,h i=h' i):vd h x=vd h' x:=by
 cases x <;> try rfl
 rename_i id;simp only[vd,j id (by simp[ids])]
theorem nN:∀ {xs:List ag},(∀i∈bu xs,h i=h' i)→o5 h xs=o5 h' xs
 | [],_=>rfl
 | x::xs,j=>by
  simp only[o5,tL (x:=x) (fun i hi=>j i (by simp[bu,hi])),nN (xs:=xs) (fun i hi=>j i (by simp[bu,hi]))]
def Lz(h h':Nat→Qz)(I:QV):Prop:=∀i∈I,h i=h' i∧∀p,h i=some (.box p)→∀j∈bu p,h j=h' j
theorem um{x:ag}(p:Lz h h' (ids x)):rA h x=rA h' x:=by
 have q:∀i∈ids x,h i=h' i:=fun i hi=>(p i hi).1
 cases x <;> try rfl
 ·simp only[rA,tL q]
 ·rename_i id i sz off;simp only[rA];have h1:=p id (by simp[ids]);rw[←h1.1];cases u:h id with
  | none=>rfl
  | some ob =>
   cases ob with
   | box j=>simp only[nN (xs:=j) (h:=h) (h':=h') (h1.2 j u)]
   | arr _ _ _=>rfl
   | fz _ _=>rfl
   | mpo _ _ _=>rfl
   | mpl _ _=>rfl
   | bytes _ _=>rfl
   | cutz _ _=>rfl
   | lmp _ _ _ _=>rfl
   | vrow _ _ _=>rfl
   | mat _ _ _ _ _=>rfl
   | nds _ _ _ _=>rfl
   | mpq _ _=>rfl
 ·rename_i j;simp only[rA];rw[nN (xs:=j) (h:=h) (h':=h') (fun i hi=>q i (by simpa [ids]using hi))]
theorem sv:∀ {xs:List ag},Lz h h' (bu xs)→qG h xs=qG h' xs
 | [],_=>rfl
 | x::xs,j=>by
  simp only[qG,um (x:=x) (fun i hi=>j i (by simp[bu,hi])),sv (xs:=xs) (fun i hi=>j i (by simp[bu,hi]))]
theorem wq{x:ag}(j:Lz h h' (ids x)):Cj h x=Cj h' x:=by
 cases x <;> try (simp only[Cj];exact um j)
 rename_i f p;simp only[Cj];rw[sv (xs:=p) (h:=h) (h':=h') (fun i hi=>j i (by simpa [ids]using hi))]
theorem oB:∀ {xs:List ag},Lz h h' (bu xs)→oh h xs=oh h' xs
 | [],_=>rfl
 | x::xs,j=>by
  simp only[oh,wq (x:=x) (fun i hi=>j i (by simp[bu,hi])),oB (xs:=xs) (fun i hi=>j i (by simp[bu,hi]))]
theorem wN{g:QV}{i:Nat}(e:h i=h' i):less g h i=less g h' i:=by
 unfold less;split
 ·rfl
 ·exact e
theorem u9{α β:Type}{l:List α}{f j:α→List β}(e:∀x∈l,f x=j x):l.flatMap f=l.flatMap j:=by
 induction l with
 | nil=>rfl
 | cons x l p=>simp only[List.flatMap_cons,e x (by simp),p (fun y q=>e y (by simp[q]))]
theorem tG{g:QV}:∀ {xs:List ag},Lz h h' (bu xs)→qO g h xs=qO g h' xs
 | [],_=>rfl
 | x::xs,j=>by
  have e:y3 g h x=y3 g h' x:=by unfold y3;rw[wq (x:=x) (fun i hi=>j i (by simp[bu,hi]))]
  simp only[qO,e,tG (xs:=xs) (fun i hi=>j i (by simp[bu,hi]))]
theorem BN{g:QV}{h h':Nat→Qz}(j:∀i∈g,h i=h' i):jR g h 0 g=jR g h' 0 g:=by
 have key:∀(l:QV) (k:Nat),(∀i∈l,i∈g)→jR g h k l=jR g h' k l:=fun l=>by
  induction l with
  | nil=>intro k _;rfl
  | cons x l p =>intro k hl;simp only[jR,j x (hl x (by simp)),p (k+1) (fun i hi=>hl i (by simp[hi]))]
 exact key g 0 fun _ h=>h
theorem D3{x:ag}(j:∀i∈ids x,h i=h' i):xw h x=xw h' x:=by
 cases x <;> try (simp only[xw];exact nF j)
 rename_i p;simp only[xw];rw[pb (xs:=p) (h:=h) (h':=h') (fun i hi=>j i (by simpa [ids]using hi))]
theorem qD:∀ {bs:List Bool} {xs:List ag} {h h':Nat→Qz},(∀i∈bu xs,h i=h' i)→frzL h bs xs=frzL h' bs xs
 | _,[],_,_,_=>by simp only[frzL]
 | [],_::_,_,_,_=>rfl
 | false::bs,x::xs,h,h',j=>by
  simp only[frzL,qD (bs:=bs) (xs:=xs) (h:=h) (h':=h') (fun i hi=>j i (by simp[bu,hi]))]
 | true::bs,x::xs,h,h',j=>by
  simp only[frzL,D3 (x:=x) (h:=h) (h':=h') (fun i hi=>j i (by simp[bu,hi]))];cases xw h' x with
  | none=>rfl
  | some p =>
   obtain⟨y,u⟩:=p;simp only[qD (bs:=bs) (xs:=xs) (h:=apply u h) (h':=apply u h') (fun i hi=>gy (j i (by simp[bu,hi])) u)]
def rq(u:gX):Prop:=∀p∈u,∃A j,p.2=some (.fz A j)
theorem rq.append{u v:gX}(hu:rq u)(j:rq v):rq (u++v):=fun p hp=>(List.mem_append.1 hp).elim (hu p) (j p)
theorem yX{x y:ag}{u:gX}(hd:gk h x=some (y,u)):rq u∧∀i∈ids y,i∈ids x:=by
 unfold gk at hd;split at hd
 ·split at hd
  ·cases hd;exact⟨fun p hp=>by simp at hp;subst hp;exact⟨_,_,rfl⟩,fun i hi=>by simp[ids]at hi⟩
  ·cases hd;exact⟨fun p hp=>by simp at hp,fun i hi=>by simp[ids]at hi⟩
  ·cases hd;exact⟨fun p hp=>by simp at hp;subst hp;exact⟨_,_,rfl⟩,fun i hi=>by simp[ids]at hi⟩
  ·cases hd;exact⟨fun p hp=>by simp at hp;subst hp;exact⟨_,_,rfl⟩,fun i hi=>by simp[ids]at hi⟩
  ·cases hd;exact⟨fun p hp=>by simp at hp;subst hp;exact⟨_,_,rfl⟩,fun i hi=>by simp[ids]at hi⟩
  ·cases hd
 ·cases hd;exact⟨fun p hp=>by simp at hp,fun i hi=>hi⟩
theorem Bu:∀ {q j:List ag} {h:Nat→Qz} {u:gX},pW h q=some (j,u)→rq u∧∀i∈bu j,i∈bu q
 | [],j,h,u,hd=>by cases hd;exact⟨fun p hp=>by simp at hp,fun i hi=>hi⟩
 | x::q,j,h,u,hd=>by
  simp only[pW]at hd;split at hd
  ·rename_i y D h1;split at hd
   ·rename_i v E h2;cases hd;obtain⟨z,A⟩:=yX h1;obtain⟨B,C⟩:=Bu h2;refine⟨z.append B,fun i hi=>?_⟩;simp only[bu,List.mem_append]at hi ⊢;exact hi.imp (A i) (C i)
   ·cases hd
  ·cases hd
theorem IZ{x y:ag}{u:gX}(hd:xw h x=some (y,u)):rq u∧∀i∈ids y,i∈ids x:=by
 unfold xw at hd;split at hd
 ·split at hd
  ·rename_i q v h1;cases hd;obtain⟨j,p⟩:=Bu h1;exact⟨j,fun i hi=>by simp only[ids]at hi ⊢;exact p i hi⟩
  ·cases hd
 ·exact yX hd
theorem zS:∀ {bs:List Bool} {xs j:List ag} {h:Nat→Qz} {u:gX},frzL h bs xs=some (j,u)→rq u∧∀i∈bu j,i∈bu xs
 | _,[],j,h,u,hd=>by simp only[frzL]at hd;cases hd;exact⟨fun p hp=>by simp at hp,fun i hi=>hi⟩
 | [],_::_,j,h,u,hd=>by simp only[frzL]at hd;cases hd;exact⟨fun p hp=>by simp at hp,fun i hi=>hi⟩
 | false::bs,x::xs,j,h,u,hd=>by
  simp only[frzL]at hd;split at hd
  ·rename_i q D h1;cases hd;obtain⟨v,z⟩:=zS h1;refine⟨v,fun i hi=>?_⟩;simp only[bu,List.mem_append]at hi ⊢;exact hi.imp (fun h=>h) (z i)
  ·cases hd
 | true::bs,x::xs,j,h,u,hd=>by
  simp only[frzL]at hd;split at hd
  ·rename_i y E h1;split at hd
   ·rename_i q I h2;cases hd;obtain⟨v,z⟩:=IZ h1;obtain⟨B,C⟩:=zS h2;refine⟨v.append B,fun i hi=>?_⟩;simp only[bu,List.mem_append]at hi ⊢;exact hi.imp (z i) (C i)
   ·cases hd
  ·cases hd
theorem Ak{u:gX}(hu:rq u){i:Nat}{v:List ag}:∀ {h:Nat→Qz},apply u h i=some (.box v)→h i=some (.box v):=by
 induction u with
 | nil=>intro h hb;exact hb
 | cons p u x =>
  intro h hb;obtain⟨j,o⟩:=p;have h1:=x (fun q z=>hu q (by simp[z])) hb;by_cases e:i=j
  ·subst e;rw[aB]at h1;obtain⟨A,xs,h2⟩:=hu (i,o) (by simp);simp only at h2;rw[h1]at h2;cases h2
  ·rw[aR _ _ e]at h1;exact h1
theorem Bh{xs:List ag}(p:∀i∈xg h xs,h i=h' i):Lz h h' (bu xs):=fun i hi =>
 ⟨p i (List.mem_append_left _ hi),fun u hc j q=>p j (List.mem_append_right _ (List.mem_flatMap.2 ⟨i,hi,by rw[hc];exact q⟩))⟩
theorem vB{tb:bT}{new:Nat}{t:TypeId}{x:ag}{j hi:Option (Option Int)}(p:∀i∈ids x,h i=h' i):oY tb new t x j hi h=oY tb new t x j hi h':=by
 unfold oY;split
 ·split
  ·split <;> first
    | rfl
    | (rename_i id;rw[p id (by simp[ids])])
  ·rfl
 ·rfl
theorem xx{new:Nat}{ti:TI}{x:ag}(v:∀i∈ids x,h i=h' i)(z:∀i∈ids x,∀e u A q k j,h i=some (.mat e u A q (some (k,j)))→h j=h' j):l4 new ti x h=l4 new ti x h':=by
 unfold l4;cases x <;> try rfl
 rename_i id i sz off;simp only;have B:=v id (by simp[ids]);have u:=z id (by simp[ids]);rw[←B];cases hm:h id with
 | none=>rfl
 | some ob =>
  cases ob with
  | mat e C A q hole =>
   cases hole with
   | none=>rfl
   | some p =>
    obtain⟨k,j⟩:=p;simp only[u _ _ _ _ _ _ hm]
  | _=>rfl
theorem vR{ti:TI}{x:ag}(p:∀i∈ids x,h i=h' i):mN ti x h=mN ti x h':=by
 unfold mN;split
 ·rename_i id b n i k _;have j:=p id (by simp[ids]);rw[j]
 ·rfl
theorem uK{ti:TI}{x y:ag}(p:∀i∈ids x,h i=h' i):kT ti x y h=kT ti x y h':=by
 unfold kT;split
 ·rename_i id b n i _ k v;have j:=p id (by simp[ids]);rw[j]
 ·rfl
theorem uJ{tb:bT}{t:TypeId}{x i:ag}(p:∀i∈ids x,h i=h' i):kW tb t x i h=kW tb t x i h':=by
 unfold kW;cases tb.find t with
 | none=>rfl
 | some ti =>
  simp only;split
  ·split
   ·split
    ·split
     ·rename_i id j sz off _ _ _;rw[p id (by simp[ids])]
     ·rfl
     ·rfl
    ·split
     ·split
      ·rename_i id j sz off _ _ _;rw[p id (by simp[ids])]
      ·rfl
     ·rfl
   ·rfl
  ·rfl
theorem qq{tb:bT}{t:TypeId}{x i:ag}(j:∀i∈ids x,h i=h' i):jf tb t x i h=jf tb t x i h':=by
 unfold jf;cases gY tb t with
 | none=>rfl
 | some q =>
  simp only;split
  ·rw[AF j]
  ·rfl
theorem uI{P:Program}{tb:bT}{t:TypeId}{x k:ag}{ok:Bool}(j:∀i∈ids x,h i=h' i):mS P tb t x k ok h=mS P tb t x k ok h':=by
 unfold mS;split
 ·split
  ·rename_i id;rw[j id (by simp[ids])]
  ·rfl
 ·rfl
theorem sT{P:Program}{tb:bT}{t:TypeId}{g:QV}{x k:ag}{ok:Bool}(j:∀i∈ids x,h i=h' i):lv P tb t g x k ok h=lv P tb t g x k ok h':=by
 unfold lv;split
 ·split
  ·rename_i id;rw[j id (by simp[ids])]
  ·rfl
 ·rfl
theorem lM{P:Program}{tb:bT}{t:TypeId}{x k y:ag}(j:∀i∈ids x,h i=h' i)(p:∀i∈ids y,h i=h' i):fS P tb t x k y h=fS P tb t x k y h':=by
 unfold fS;split
 ·split
  ·rename_i id;rw[j id (by simp[ids])];split
   ·split
    ·split
     ·rw[tB p]
     ·rfl
    ·rfl
   ·rfl
  ·rfl
 ·rfl
theorem kB{P:Program}{tb:bT}{t:TypeId}{x k y:ag}(j:∀i∈ids x,h i=h' i):ff P tb t x k y h=ff P tb t x k y h':=by
 unfold ff;split
 ·split
  ·rename_i id;rw[j id (by simp[ids])]
  ·rfl
 ·rfl
theorem ze{id i:Nat}{e e2:TypeId}{A:Ty}{xss:List (List A.den)}{hole:Option (Nat×Nat)}{y:ag}(q:∀i∈ids y,h i=h' i)(u:∀k j,hole=some (k,j)→h j=h' j):sZ id i e e2 A xss hole y h=sZ id i e e2 A xss hole y h':=by
 unfold sZ;cases y <;> try rfl
 rename_i r;simp only;rw[←q r (by simp[ids])];cases h r with
 | none=>rfl
 | some ob =>
  cases ob with
  | arr v B x =>
   cases hole with
   | none=>rfl
   | some p =>
    obtain⟨k,j⟩:=p;simp only[u k j rfl]
  | _=>rfl
theorem wu{tb:bT}{t:TypeId}{x y:ag}(u:∀i∈ids x,h i=h' i)(v:∀i∈ids y,h i=h' i)(z:∀i∈ids x,∀e e2 A xss k j,h i=some (.mat e e2 A xss (some (k,j)))→h j=h' j):pe tb t x y h=pe tb t x y h':=by
 unfold pe;cases tb.find t with
 | none=>rfl
 | some ti =>
  simp only;split
  ·cases x <;> try rfl
   case ada=>exact uK u
   rename_i id i sz off;simp only;have p:=u id (by simp[ids]);have q:=z id (by simp[ids]);rw[←p];cases hm:h id with
   | none=>rfl
   | some ob =>
    cases ob with
    | arr e A xs=>simp only[AW (A:=A) (xs:=xs) (i:=i) (off:=off) v]
    | fz _ _=>rfl
    | box _=>rfl
    | mpo _ _ _=>rfl
    | mpl _ _=>rfl
    | bytes _ _=>rfl
    | cutz _ _=>rfl
    | lmp _ _ _ _=>rfl
    | vrow _ _ _=>rfl
    | nds _ _ _ _=>rfl
    | mpq _ _=>rfl
    | mat e e2 A xss hole=>simp only[ze (id:=id) (i:=i) (e:=e) (e2:=e2) (A:=A) (xss:=xss) (hole:=hole) v (fun k j B=>q e e2 A xss k j (by rw[hm,B]))]
  ·rfl
theorem uG{tb:bT}{new:Nat}{t:TypeId}{x y:ag}(j:∀i∈ids x,h i=h' i)(q:∀i∈ids y,h i=h' i):m9 tb new t x y h=m9 tb new t x y h':=by
 unfold m9;cases gY tb t with
 | none=>rfl
 | some p =>
  obtain⟨e,u,A⟩:=p;simp only[mF (A:=A) q];cases eZ h' A y with
  | none=>rfl
  | some v =>
   simp only;cases x <;> try rfl
   rename_i id;simp only;rw[j id (by simp[ids])]
theorem xF{tb:bT}{t:TypeId}{x y:ag}(j:∀i∈ids x,h i=h' i)(q:∀i∈ids y,h i=h' i):rG tb t x y h=rG tb t x y h':=by
 unfold rG;cases gY tb t with
 | none=>rfl
 | some p =>
  obtain⟨e,u,A⟩:=p;simp only[mF (A:=A) q];cases eZ h' A y with
  | none=>rfl
  | some v =>
   simp only;cases x <;> try rfl
   rename_i id;simp only;rw[j id (by simp[ids])]
end
def fy(s:Nat→ag)(op:Op):List ag:=op.operands.toList.map (ev s)
theorem fP{s:Nat→ag}{op:Op}{x:Operand}(j:x∈op.operands.toList):∀i∈ids (ev s x),i∈bu (fy s op):=fun _ hi =>
 cI.2 ⟨ev s x,List.mem_map.2 ⟨x,j,rfl⟩,hi⟩
def wD(h:Nat→Qz)(p:List ag):QV :=
 bu p++(bu p).flatMap fun i=>match h i with
  | some (.mat _ _ _ _ (some (_,j)))=>[j]
  | _=>[]
theorem vt{h:Nat→Qz}{xs:List ag}{i:Nat}{e q:TypeId}{A:Ty}{p:List (List A.den)}{k j:Nat}(hi:i∈bu xs)(hm:h i=some (.mat e q A p (some (k,j)))):j∈wD h xs :=
 List.mem_append_right _ (List.mem_flatMap.2 ⟨i,hi,by rw[hm];exact .head _⟩)
def j5(h:Nat→Qz)(op:Op)(xs:List ag):QV :=
 match op with
 | .call _=>xg h xs
 | .load _ _=>wD h xs
 | .store _ _ _=>wD h xs
 | .move _=>[]
 | .assign _=>[]
 | .nilCheck _=>[]
 | .fieldAddr _ _ _=>[]
 | _=>bu xs
theorem C6{P:Program}{tb:bT}{new:Nat}{asm:Option Bool}{iR:Option wh}{op:Op}{s N:Nat→ag}{h h':Nat→Qz}
  (v:∀x∈op.operands.toList,ev s x=ev N x) (hh:∀i∈j5 h op (fy s op),h i=h' i):gW P tb new asm iR op s h=gW P tb new asm iR op N h':=by
 by_cases I:(∃x,op = .move x)∨(∃x,op = .assign x)∨(∃x,op = .nilCheck x)∨∃t x f,op = .fieldAddr t x f
 ·rcases I with⟨x,rfl⟩ | ⟨x,rfl⟩ | ⟨x,rfl⟩ | ⟨t,x,f,rfl⟩ <;> simp only[gW,v x (by simp[Op.operands])]
 have a2:∀i∈bu (fy s op),h i=h' i:=fun i hi=>by
  refine hh i ?_;unfold j5;split
  ·exact List.mem_append_left _ hi
  ·exact List.mem_append_left _ hi
  ·exact List.mem_append_left _ hi
  ·rename_i x;exact absurd (.inl ⟨x,rfl⟩) I
  ·rename_i x;exact absurd (.inr (.inl ⟨x,rfl⟩)) I
  ·rename_i x;exact absurd (.inr (.inr (.inl ⟨x,rfl⟩))) I
  ·rename_i t x f;exact absurd (.inr (.inr (.inr ⟨t,x,f,rfl⟩))) I
  ·exact hi
 have key:∀x∈op.operands.toList,∀i∈ids (ev s x),h i=h' i:=fun x O i hi=>a2 i (fP O i hi)
 cases op with
 | move x=>simp only[gW,v x (by simp[Op.operands])]
 | assign x=>simp only[gW,v x (by simp[Op.operands])]
 | pick c x y =>
  have e:∀b:Bool,ev s (if b=true then x else y)=ev N (if b=true then x else y):=fun b=>by
   cases b
   ·exact v y (by simp[Op.operands])
   ·exact v x (by simp[Op.operands])
  simp only[gW,zp,v c (by simp[Op.operands]),e,v x (by simp[Op.operands]),v y (by simp[Op.operands])]
 | alloc t=>rfl
 | box t x=>simp only[gW,v x (by simp[Op.operands])]
 | build t ps =>
  simp only[gW];have e:ps.toList.map (fun p=>ev s p.2)=ps.toList.map (fun p=>ev N p.2):=List.map_congr_left (fun p hp=>v p.2 (by simp only[Op.operands,List.mem_map];exact⟨p,hp,rfl⟩));rw[e]
 | buildSlice t len ps =>
  simp only[gW];have e:ps.toList.map (fun p=>ev s p.2)=ps.toList.map (fun p=>ev N p.2):=List.map_congr_left (fun p hp=>v p.2 (by simp only[Op.operands,List.mem_map];exact⟨p,hp,rfl⟩));rw[←e];unfold mD;cases gY tb t with
  | none=>rfl
  | some q =>
   obtain⟨e,te,A⟩:=q;simp only;split
   ·rw[vh (A:=A) (fun i hi=>by
     obtain⟨y,C,hi⟩:=cI.1 hi;obtain⟨p,hp,rfl⟩:=List.mem_map.1 C;exact key p.2 (by simp only[Op.operands,List.mem_map];exact⟨p,hp,rfl⟩) i hi)]
   ·rfl
 | load t x =>
  simp only[gW,←v x (by simp[Op.operands])];have O:=key x (by simp[Op.operands]);have e2:∀ti,l4 new ti (ev s x) h=l4 new ti (ev s x) h':=fun ti=>xx O (fun i hi e e2 A a3 k j hm=>hh j (vt (fP (by simp[Op.operands]) i hi) hm))
  unfold zK;simp only[xO O,vR O,e2]
 | store t x y =>
  simp only[gW,←v x (by simp[Op.operands]),←v y (by simp[Op.operands])];exact wu (key x (by simp[Op.operands])) (key y (by simp[Op.operands])) (fun i hi e e2 A a3 k j hm=>hh j (vt (fP (by simp[Op.operands]) i hi) hm))
 | binOp o t x y t'=>simp only[gW,v x (by simp[Op.operands]),v y (by simp[Op.operands])]
 | unOp o t x=>simp only[gW,v x (by simp[Op.operands])]
 | nilCheck x=>simp only[gW,v x (by simp[Op.operands])]
 | convert st dt x =>
  simp only[gW,←v x (by simp[Op.operands])];cases iR with
  | some _=>rfl
  | none=>?_
  simp only;unfold zq;cases tb.find st with
  | none=>rfl
  | some si =>
   cases tb.find dt with
   | none=>rfl
   | some di =>
    simp only;cases GU tb di.k (ev s x)with
    | some r=>rfl
    | none=>simp only[DH (s:=si.k) (d:=di.k) (key x (by simp[Op.operands]))]
 | slice t x lo hi mx =>
  cases mx with
  | some mo =>
   cases hi with
   | none=>rfl
   | some a4 =>
    have e1:pM s lo=pM N lo:=by
     cases lo with
     | none=>rfl
     | some y=>simp only[pM,v y (by simp[Op.operands])]
    simp only[gW,←v x (by simp[Op.operands]),←v a4 (by simp[Op.operands]),←v mo (by simp[Op.operands]),←e1];have O:=key x (by simp[Op.operands]);cases iR with
    | some _ =>
     simp only;unfold DW;rw[nF O]
    | none=>?_
    simp only;unfold sY;split
    ·split
     ·rfl
     ·rename_i id ex;rw[O id (by rw[ex];simp[ids])]
     ·rfl
    ·rfl
  | none =>
   have e1:pM s lo=pM N lo:=by
    cases lo with
    | none=>rfl
    | some y=>simp only[pM,v y (by simp[Op.operands])]
   have e2:pM s hi=pM N hi:=by
    cases hi with
    | none=>rfl
    | some y=>simp only[pM,v y (by simp[Op.operands])]
   simp only[gW,←v x (by simp[Op.operands]),←e1,←e2];exact vB (key x (by simp[Op.operands]))
 | fieldAddr t x f=>simp only[gW,v x (by simp[Op.operands])]
 | indexAddr t x i =>
  simp only[gW,←v x (by simp[Op.operands]),←v i (by simp[Op.operands])];simp only[uJ (key x (by simp[Op.operands])),qq (key x (by simp[Op.operands]))]
 | index t x i=>simp only[gW,v x (by simp[Op.operands]),v i (by simp[Op.operands])]
 | extract x i=>simp only[gW,v x (by simp[Op.operands])]
 | typeAssert x xt t ok=>simp only[gW,v x (by simp[Op.operands])]
 | makeFunc f fs cs =>
  simp only[gW];rw[List.map_congr_left (f:=ev s) (g:=ev N) (fun p hp=>v p (by simp only[Op.operands,Array.toList_append,List.mem_append];exact .inr hp))]
 | makeSlice t l c=>simp only[gW,v l (by simp[Op.operands]),v c (by simp[Op.operands])]
 | call c =>
  obtain⟨callee,args,D⟩:=c;have B:∀x∈args.toList,x∈(Op.call { callee,args,argTypes:=D }).operands.toList:=fun x O=>by simp only[Op.operands,Call.operands,Array.toList_append,List.mem_append];exact .inr O
  have e:args.toList.map (ev s)=args.toList.map (ev N):=List.map_congr_left (fun p hp=>v p (B p hp));have hk:∀y∈args.toList.map (ev s),∀i∈ids y,h i=h' i:=fun y C i hi=>by obtain⟨p,hp,rfl⟩:=List.mem_map.1 C;exact key p (B p hp) i hi
  have hc:=Bh (h':=h') (xs:=fy s (Op.call { callee,args,argTypes:=D })) hh;simp only[gW,pB];cases callee with
  | builtin b =>
   simp only[←e];unfold qL;split
   ·rename_i y t V et;split
    ·unfold tn;split
     ·split
      ·rename_i id _ _;rw[hk (.mp id) (by rw[V];simp) id (by simp[ids])]
      ·rfl
     ·rfl
    ·unfold C8;rw[Bs (hk y (by rw[V];simp))]
   ·rfl
   ·rfl
   ·rename_i y z t t' V et;split
    ·exact uG (hk y (by rw[V];simp)) (hk z (by rw[V];simp))
    ·rfl
   ·rename_i y z t t' V et;exact xF (hk y (by rw[V];simp)) (hk z (by rw[V];simp))
   ·rfl
  | value f =>
   have hf:f∈(Op.call { callee:= .value f,args,argTypes:=D }).operands.toList:=by simp[Op.operands,Call.operands]
   simp only[←e,←v f hf];generalize a5:gT tb (Jw iR) D.toList (args.toList.map (ev s))=xs;have X:∀i∈bu xs,i∈bu (args.toList.map (ev s)):=fun i hi=>by rw[←a5,nr]at hi;exact hi
   unfold uX;split
   ·rename_i fid a1 q ef;have hin:∀i∈bu (BD (ev s f)::xs),i∈bu (fy s (Op.call { callee:= .value f,args,argTypes:=D })):=fun i hi=>by
     simp only[bu,List.mem_append]at hi;rcases hi with hi | hi
     ·exact fP hf i (Co i hi)
     ·obtain⟨y,C,E⟩:=cI.1 (X i hi);obtain⟨p,hp,rfl⟩:=List.mem_map.1 C;exact fP (B p hp) i E
    rw[qD (bs:=q.fl) (h:=h) (h':=h') (fun i hi=>by
     obtain⟨y,C,E⟩:=cI.1 (X i hi);exact hk y C i E)]
    cases a6:frzL h' q.fl xs with
    | none=>rfl
    | some p =>
     obtain⟨ys,u⟩:=p;obtain⟨z1,z2⟩:=zS a6;have J:Lz (apply u h) (apply u h') (bu (ys++a1)):=fun i hi=>by
      have Y:i∈bu (fy s (Op.call { callee:= .value f,args,argTypes:=D })):=by
       obtain⟨y,C,E⟩:=cI.1 hi;rcases List.mem_append.1 C with C | C
       ·obtain⟨y2,a7,Y⟩:=cI.1 (X i (z2 i (cI.2 ⟨y,C,E⟩)));obtain⟨p,hp,rfl⟩:=List.mem_map.1 a7;exact fP (B p hp) i Y
       ·refine fP hf i (Co i ?_);rw[ef];simp only[ids];exact cI.2 ⟨y,C,E⟩
      obtain⟨c1,c2⟩:=hc i Y;exact⟨gy c1 u,fun cs L j hj=>gy (c2 cs (Ak z1 L) j hj) u⟩
     simp only;split
     ·have M:xg h (BD (ev s f)::xs)=xg h' (BD (ev s f)::xs):=by
       unfold xg;congr 1;refine u9 fun i hi=>?_
       rw[(hc i (hin i hi)).1]
      rw[M];split
      ·rename_i hg;have a8:∀i∈q.g,h i=h' i:=fun i hi=>by
        have:=List.all_eq_true.1 hg i hi;rw[←M]at this;simp only[List.contains_eq_mem,decide_eq_true_eq]at this;unfold xg at this;rcases List.mem_append.1 this with h1 | h1
        ·exact(hc i (hin i h1)).1
        ·obtain⟨j,hj,Z⟩:=List.mem_flatMap.1 h1;split at Z
         ·rename_i cs L;exact(hc j (hin j hj)).2 cs L i Z
         ·cases Z
       rw[BN (g:=q.g) (h:=apply u h) (h':=apply u h') (fun i hi=>gy (a8 i hi) u),
        tG (g:=q.g) (h:=less q.g (apply u h)) (h':=less q.g (apply u h')) (fun i hi=>⟨wN (J i hi).1,fun cs L j hj=>wN ((J i hi).2 cs (qS L).1 j hj)⟩)]
      ·rfl
     ·rw[oB (h:=apply u h) (h':=apply u h') J]
   ·rfl
  | invoke r m=>rfl
 | makeMap t r=>cases r <;> rfl
 | lookup t x k ok =>
  simp only[gW,←v x (by simp[Op.operands]),←v k (by simp[Op.operands])];rw[uI (key x (by simp[Op.operands])),sT (key x (by simp[Op.operands]))]
 | mapUpdate t x k y =>
  simp only[gW,←v x (by simp[Op.operands]),←v k (by simp[Op.operands]),←v y (by simp[Op.operands])];rw[lM (key x (by simp[Op.operands])) (key y (by simp[Op.operands])),kB (key x (by simp[Op.operands]))]
 | insert t x k y =>
  simp only[gW,←v x (by simp[Op.operands]),←v k (by simp[Op.operands]),←v y (by simp[Op.operands])];rw[lM (key x (by simp[Op.operands])) (key y (by simp[Op.operands])),kB (key x (by simp[Op.operands]))]
 | _=>rfl
theorem yz{P:Program}{tb:bT}{new:Nat}{asm:Option Bool}{iR:Option wh}{op:Op}{s u:Nat→ag}{h h':Nat→Qz}
  (v:∀x∈op.operands.toList,ev s x=ev u x) (z:∀i∈j5 h op (fy s op),h i=h' i):FV P tb new asm iR op s h=FV P tb new asm iR op u h':=by
 have key:∀x∈op.operands.toList,(¬((∃x,op = .move x)∨(∃x,op = .assign x)∨(∃x,op = .nilCheck x)∨∃t x f,op = .fieldAddr t x f))→∀i∈ids (ev s x),h i=h' i:=fun x q j i hi=>by
  have p:=fP q i hi;refine z i ?_;unfold j5;split
  ·exact List.mem_append_left _ p
  ·exact List.mem_append_left _ p
  ·exact List.mem_append_left _ p
  ·rename_i x;exact absurd (.inl ⟨x,rfl⟩) j
  ·rename_i x;exact absurd (.inr (.inl ⟨x,rfl⟩)) j
  ·rename_i x;exact absurd (.inr (.inr (.inl ⟨x,rfl⟩))) j
  ·rename_i t x f;exact absurd (.inr (.inr (.inr ⟨t,x,f,rfl⟩))) j
  ·exact p
 have B:pN tb new iR.isSome op s h=pN tb new iR.isSome op u h':=Dg v key;have C:jo P tb new iR op s h=jo P tb new iR op u h':=DE v key (fun c hc E D=>by
  subst hc;have hcl:=Bh (h':=h') (xs:=fy s (Op.call c)) z;refine oB fun i hi=>?_
  obtain⟨x,q,hi⟩:=D i hi;exact hcl i (fP q i hi)) (fun c hc A x q=>by
  subst hc;exact mF (fun i hi=>key x q (by rintro(⟨_,e⟩ | ⟨_,e⟩ | ⟨_,e⟩ | ⟨_,_,_,e⟩) <;> cases e) i hi))
 unfold FV;rw[B,C,C6 v z]
end Go.Tv
