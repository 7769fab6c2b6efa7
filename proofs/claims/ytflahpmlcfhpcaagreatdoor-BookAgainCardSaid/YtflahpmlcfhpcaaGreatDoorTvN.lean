import Derived.Test.YtflahpmlcfhpcaaGreatDoorTvM
namespace Go.Tv
open Go Go.RowKit
theorem gx{h h':Nat→Qz}{i:Nat}(e:h i=h' i):∀(u:gZ),apply u h i=apply u h' i:=fun u=>by
 induction u generalizing h h' with
 | nil=>exact e
 | cons p u v =>
  obtain⟨j,o⟩:=p;simp only[apply];refine v ?_;by_cases q:i=j
  ·subst q;rw[aB,aB]
  ·rw[aQ _ _ q,aQ _ _ q];exact e
section
variable{h h':Nat→Qz}
theorem nN{x:ag}(e:∀i∈ids x,h i=h' i):gf h x=gf h' x:=by
 cases x <;> try rfl
 rename_i id;simp only[gf,e id (by simp[ids])]
theorem oX:∀ {xs:List ag} {h h':Nat→Qz},(∀i∈bz xs,h i=h' i)→pM h xs=pM h' xs
 | [],_,_,_=>rfl
 | x::xs,h,h',e=>by
  simp only[pM,nN (x:=x) (fun i hi=>e i (by simp[bz,hi]))];cases hd:gf h' x with
  | none=>rfl
  | some p =>
   obtain⟨y,u⟩:=p;simp only[oX (xs:=xs) (h:=apply u h) (h':=apply u h') (fun i hi=>gx (e i (by simp[bz,hi])) u)]
theorem Aq(e f:List ag):bz (e++f)=bz e++bz f:=by
 induction e with
 | nil=>rfl
 | cons x e j=>simp only[List.cons_append,bz,j,List.append_assoc]
theorem xO(k:IntKind)(l:QK):bz (l.map fun i=>ag.p false (.int k) i)=[]:=by
 induction l with
 | nil=>rfl
 | cons x f e=>simp only[List.map_cons,bz,ids,e,List.append_nil]
theorem tn{x:ag}:bz (cellsOf x)=ids x:=by
 cases x with
 | lag k n xs e =>
  simp only[cellsOf,ids];rw[Aq];have:=xO k xs.1;exact(congrArg (· ++ bz e) this).trans (List.nil_append _)
 | _=>simp[cellsOf,bz,ids]
theorem BW{T:Ty}{x:ag}(e:∀i∈ids x,h i=h' i):Ea T h x=Ea T h' x:=by
 unfold Ea;rw[oX (xs:=cellsOf x) (by rw[tn];exact e)]
theorem sv{T:Ty}{x:ag}(e:∀i∈ids x,h i=h' i):Fa T h x=Fa T h' x:=by
 unfold Fa;split
 ·rename_i id i sz off;rw[e id (by simp[ids])]
 ·rfl
 ·exact BW e
theorem vX{A:Ty}:∀ {xs:List ag} {h h':Nat→Qz},(∀i∈bz xs,h i=h' i)→zF A h xs=zF A h' xs
 | [],_,_,_=>rfl
 | x::xs,h,h',e=>by
  simp only[zF,sv (x:=x) (T:=A) (fun i hi=>e i (by simp[bz,hi]))];cases hd:Fa A h' x with
  | none=>rfl
  | some p =>
   obtain⟨y,u⟩:=p;simp only[vX (xs:=xs) (h:=apply u h) (h':=apply u h') (fun i hi=>gx (e i (by simp[bz,hi])) u)]
theorem wQ{x:ag}(e:∀i∈ids x,h i=h' i):lU h x=lU h' x:=by
 unfold lU;split <;> first
  | rfl
  | (rename_i id;rw[e id (by simp[ids])])
  | (rename_i id i sz off;rw[e id (by simp[ids])])
theorem A5{x:ag}{i:Int}(e:∀i∈ids x,h i=h' i):xG h x i=xG h' x i:=by
 unfold xG;split <;> first
  | rfl
  | (rename_i id;rw[e id (by simp[ids])])
  | (rename_i id i sz off;rw[e id (by simp[ids])])
theorem Be{x:ag}(e:∀i∈ids x,h i=h' i):lenOf h x=lenOf h' x:=by
 unfold lenOf;split <;> first
  | rfl
  | (rename_i id;rw[e id (by simp[ids])])
  | (rename_i id i sz off;rw[e id (by simp[ids])])
theorem BU{s d:TK}{x:ag}(e:∀i∈ids x,h i=h' i):conv s d h x=conv s d h' x:=by
 unfold conv
 split <;> first
  | rfl
  | (rename_i id;rw[e id (by simp[ids])])
  | (rename_i id i sz off;rw[e id (by simp[ids])])
theorem ml{A:Ty}{x:ag}(e:∀i∈ids x,h i=h' i):fb h A x=fb h' A x:=by
 unfold fb;split <;> first
  | rfl
  | (rename_i id;rw[e id (by simp[ids])])
  | (rename_i id i sz off;rw[e id (by simp[ids])])
theorem vF(β:Bool):∀(T:Ty) (x:T.den),bz (flat β T x)=[]
 | .unit,_=>rfl
 | .prod a b,x=>by
  have f:=vF β a x.1;have j:=vF β b x.2;apply List.eq_nil_iff_forall_not_mem.2;intro i hi;simp only[flat,cK,List.mem_append]at hi;obtain⟨y,e,hi⟩:=hi;rcases e with e | e
  ·have:i∈bz (flat β a x.1):=cK.2 ⟨y,e,hi⟩;rw[f]at this;cases this
  ·have:i∈bz (flat β b x.2):=cK.2 ⟨y,e,hi⟩;rw[j]at this;cases this
 | .int _,_=>rfl
 | .bool,_=>rfl
 | .str,_=>rfl
 | .flt,_=>rfl
 | .slice _,_=>rfl
 | .ptr _,_=>rfl
 | .tree _ _,_=>rfl
 | .arr k _,x=>xO k x.1
 | .mapi _ _,_=>rfl
theorem Ja{f new:List ag}{p i:Nat}(hi:i∈bz (wr f p new)):i∈bz f∨i∈bz new:=by
 obtain⟨y,e,hi⟩:=cK.1 hi;simp only[wr,List.mem_append]at e;rcases e with(e | e) | e
 ·exact .inl (cK.2 ⟨y,List.mem_of_mem_take e,hi⟩)
 ·exact .inr (cK.2 ⟨y,e,hi⟩)
 ·exact .inl (cK.2 ⟨y,List.mem_of_mem_drop e,hi⟩)
theorem BG{A:Ty}{xs:List A.den}{i off:Nat}{y:ag}(q:∀i∈ids y,h i=h' i):zI A h xs i off y=zI A h' xs i off y:=by
 unfold zI;refine sv fun j p=>?_
 simp only[ids]at p;rcases Ja p with f | f
 ·rw[vF]at f;cases f
 ·rw[tn]at f;exact q j f
theorem ta{x:ag}(e:∀i∈ids x,h i=h' i):u3 h x=u3 h' x:=by
 cases x <;> try rfl
 rename_i id;simp only[u3,e id (by simp[ids])]
theorem nS:∀ {xs:List ag},(∀i∈bz xs,h i=h' i)→oY h xs=oY h' xs
 | [],_=>rfl
 | x::xs,e=>by
  simp only[oY,ta (x:=x) (fun i hi=>e i (by simp[bz,hi])),nS (xs:=xs) (fun i hi=>e i (by simp[bz,hi]))]
def J4(h h':Nat→Qz)(I:QV):Prop:=∀i∈I,h i=h' i∧∀e,h i=some (.box e)→∀j∈bz e,h j=h' j
theorem tX{x:ag}(f:J4 h h' (ids x)):ri h x=ri h' x:=by
 have j:∀i∈ids x,h i=h' i:=fun i hi=>(f i hi).1
 cases x <;> try rfl
 ·simp only[ri,ta j]
 ·rename_i id i sz off;simp only[ri];have p:=f id (by simp[ids]);rw[←p.1];cases q:h id with
  | none=>rfl
  | some ob =>
   cases ob with
   | box e=>simp only[nS (xs:=e) (h:=h) (h':=h') (p.2 e q)]
   | arr _ _ _=>rfl
   | fz _ _=>rfl
   | mpo _ _ _=>rfl
   | mpl _ _=>rfl
   | bytes _ _=>rfl
   | cutz _ _=>rfl
   | lmp _ _ _ _=>rfl
   | vrow _ _ _=>rfl
   | mat _ _ _ _ _=>rfl
   | nds _ _ _ _=>rfl
   | mpq _ _=>rfl
 ·rename_i e;simp only[ri];rw[nS (xs:=e) (h:=h) (h':=h') (fun i hi=>j i (by simpa [ids]using hi))]
theorem qO:∀ {xs:List ag},J4 h h' (bz xs)→qp h xs=qp h' xs
 | [],_=>rfl
 | x::xs,e=>by
  simp only[qp,tX (x:=x) (fun i hi=>e i (by simp[bz,hi])),qO (xs:=xs) (fun i hi=>e i (by simp[bz,hi]))]
theorem vh{x:ag}(e:J4 h h' (ids x)):AL h x=AL h' x:=by
 cases x <;> try (simp only[AL];exact tX e)
 rename_i f j;simp only[AL];rw[qO (xs:=j) (h:=h) (h':=h') (fun i hi=>e i (by simpa [ids]using hi))]
theorem oV:∀ {xs:List ag},J4 h h' (bz xs)→nU h xs=nU h' xs
 | [],_=>rfl
 | x::xs,e=>by
  simp only[nU,vh (x:=x) (fun i hi=>e i (by simp[bz,hi])),oV (xs:=xs) (fun i hi=>e i (by simp[bz,hi]))]
theorem vT{g:QV}{i:Nat}(e:h i=h' i):less g h i=less g h' i:=by
 unfold less;split
 ·rfl
 ·exact e
theorem uU{α β:Type}{l:List α}{f j:α→List β}(e:∀x∈l,f x=j x):l.flatMap f=l.flatMap j:=by
 induction l with
 | nil=>rfl
 | cons x l p=>simp only[List.flatMap_cons,e x (by simp),p (fun y q=>e y (by simp[q]))]
theorem tj{g:QV}:∀ {xs:List ag},J4 h h' (bz xs)→rK g h xs=rK g h' xs
 | [],_=>rfl
 | x::xs,j=>by
  have e:yl g h x=yl g h' x:=by unfold yl;rw[vh (x:=x) (fun i hi=>j i (by simp[bz,hi]))]
  simp only[rK,e,tj (xs:=xs) (fun i hi=>j i (by simp[bz,hi]))]
theorem By{g:QV}{h h':Nat→Qz}(e:∀i∈g,h i=h' i):jU g h 0 g=jU g h' 0 g:=by
 have key:∀(l:QV) (k:Nat),(∀i∈l,i∈g)→jU g h k l=jU g h' k l:=fun l=>by
  induction l with
  | nil=>intro k _;rfl
  | cons x l j =>intro k hl;simp only[jU,e x (hl x (by simp)),j (k+1) (fun i hi=>hl i (by simp[hi]))]
 exact key g 0 fun _ h=>h
theorem BK{x:ag}(e:∀i∈ids x,h i=h' i):w7 h x=w7 h' x:=by
 cases x <;> try (simp only[w7];exact nN e)
 rename_i f;simp only[w7];rw[oX (xs:=f) (h:=h) (h':=h') (fun i hi=>e i (by simpa [ids]using hi))]
theorem p7:∀ {bs:List Bool} {xs:List ag} {h h':Nat→Qz},(∀i∈bz xs,h i=h' i)→frzL h bs xs=frzL h' bs xs
 | _,[],_,_,_=>by simp only[frzL]
 | [],_::_,_,_,_=>rfl
 | false::bs,x::xs,h,h',e=>by
  simp only[frzL,p7 (bs:=bs) (xs:=xs) (h:=h) (h':=h') (fun i hi=>e i (by simp[bz,hi]))]
 | true::bs,x::xs,h,h',e=>by
  simp only[frzL,BK (x:=x) (h:=h) (h':=h') (fun i hi=>e i (by simp[bz,hi]))];cases w7 h' x with
  | none=>rfl
  | some p =>
   obtain⟨y,u⟩:=p;simp only[p7 (bs:=bs) (xs:=xs) (h:=apply u h) (h':=apply u h') (fun i hi=>gx (e i (by simp[bz,hi])) u)]
def qP(u:gZ):Prop:=∀p∈u,∃A e,p.2=some (.fz A e)
theorem qP.append{u v:gZ}(hu:qP u)(e:qP v):qP (u++v):=fun p j=>(List.mem_append.1 j).elim (hu p) (e p)
theorem xU{x y:ag}{u:gZ}(hd:gf h x=some (y,u)):qP u∧∀i∈ids y,i∈ids x:=by
 unfold gf at hd;split at hd
 ·split at hd
  ·cases hd;exact⟨fun p e=>by simp at e;subst e;exact⟨_,_,rfl⟩,fun i hi=>by simp[ids]at hi⟩
  ·cases hd;exact⟨fun p e=>by simp at e,fun i hi=>by simp[ids]at hi⟩
  ·cases hd;exact⟨fun p e=>by simp at e;subst e;exact⟨_,_,rfl⟩,fun i hi=>by simp[ids]at hi⟩
  ·cases hd;exact⟨fun p e=>by simp at e;subst e;exact⟨_,_,rfl⟩,fun i hi=>by simp[ids]at hi⟩
  ·cases hd;exact⟨fun p e=>by simp at e;subst e;exact⟨_,_,rfl⟩,fun i hi=>by simp[ids]at hi⟩
  ·cases hd
 ·cases hd;exact⟨fun p e=>by simp at e,fun i hi=>hi⟩
theorem zU:∀ {f e:List ag} {h:Nat→Qz} {u:gZ},pM h f=some (e,u)→qP u∧∀i∈bz e,i∈bz f
 | [],e,h,u,hd=>by cases hd;exact⟨fun p j=>by simp at j,fun i hi=>hi⟩
 | x::f,e,h,u,hd=>by
  simp only[pM]at hd;split at hd
  ·rename_i y E q;split at hd
   ·rename_i v I z;cases hd;obtain⟨A,B⟩:=xU q;obtain⟨C,D⟩:=zU z;refine⟨A.append C,fun i hi=>?_⟩;simp only[bz,List.mem_append]at hi ⊢;exact hi.imp (B i) (D i)
   ·cases hd
  ·cases hd
theorem Io{x y:ag}{u:gZ}(hd:w7 h x=some (y,u)):qP u∧∀i∈ids y,i∈ids x:=by
 unfold w7 at hd;split at hd
 ·split at hd
  ·rename_i p q e;cases hd;obtain⟨f,j⟩:=zU e;exact⟨f,fun i hi=>by simp only[ids]at hi ⊢;exact j i hi⟩
  ·cases hd
 ·exact xU hd
theorem zc:∀ {bs:List Bool} {xs e:List ag} {h:Nat→Qz} {u:gZ},frzL h bs xs=some (e,u)→qP u∧∀i∈bz e,i∈bz xs
 | _,[],e,h,u,hd=>by simp only[frzL]at hd;cases hd;exact⟨fun p j=>by simp at j,fun i hi=>hi⟩
 | [],_::_,e,h,u,hd=>by simp only[frzL]at hd;cases hd;exact⟨fun p j=>by simp at j,fun i hi=>hi⟩
 | false::bs,x::xs,e,h,u,hd=>by
  simp only[frzL]at hd;split at hd
  ·rename_i q I v;cases hd;obtain⟨z,B⟩:=zc v;refine⟨z,fun i hi=>?_⟩;simp only[bz,List.mem_append]at hi ⊢;exact hi.imp (fun h=>h) (B i)
  ·cases hd
 | true::bs,x::xs,e,h,u,hd=>by
  simp only[frzL]at hd;split at hd
  ·rename_i y J v;split at hd
   ·rename_i q L C;cases hd;obtain⟨z,B⟩:=Io v;obtain⟨D,E⟩:=zc C;refine⟨z.append D,fun i hi=>?_⟩;simp only[bz,List.mem_append]at hi ⊢;exact hi.imp (B i) (E i)
   ·cases hd
  ·cases hd
theorem y8{u:gZ}(hu:qP u){i:Nat}{z:List ag}:∀ {h:Nat→Qz},apply u h i=some (.box z)→h i=some (.box z):=by
 induction u with
 | nil=>intro h hb;exact hb
 | cons p u B =>
  intro h hb;obtain⟨j,o⟩:=p;have v:=B (fun q C=>hu q (by simp[C])) hb;by_cases e:i=j
  ·subst e;rw[aB]at v;obtain⟨A,xs,x⟩:=hu (i,o) (by simp);simp only at x;rw[v]at x;cases x
  ·rw[aQ _ _ e]at v;exact v
theorem Bv{xs:List ag}(e:∀i∈vE h xs,h i=h' i):J4 h h' (bz xs):=fun i hi =>
 ⟨e i (List.mem_append_left _ hi),fun q hc j p=>e j (List.mem_append_right _ (List.mem_flatMap.2 ⟨i,hi,by rw[hc];exact p⟩))⟩
theorem vz{tb:bU}{new:Nat}{t:TypeId}{x:ag}{e hi:Option (Option Int)}(j:∀i∈ids x,h i=h' i):oL tb new t x e hi h=oL tb new t x e hi h':=by
 unfold oL;split
 ·split
  ·split <;> first
    | rfl
    | (rename_i id;rw[j id (by simp[ids])])
  ·rfl
 ·rfl
theorem wU{new:Nat}{ti:TI}{x:ag}(v:∀i∈ids x,h i=h' i)(z:∀i∈ids x,∀e u A q k j,h i=some (.mat e u A q (some (k,j)))→h j=h' j):lS new ti x h=lS new ti x h':=by
 unfold lS;cases x <;> try rfl
 rename_i id i sz off;simp only;have B:=v id (by simp[ids]);have u:=z id (by simp[ids]);rw[←B];cases C:h id with
 | none=>rfl
 | some ob =>
  cases ob with
  | mat e D A q hole =>
   cases hole with
   | none=>rfl
   | some p =>
    obtain⟨k,j⟩:=p;simp only[u _ _ _ _ _ _ C]
  | _=>rfl
theorem wv{ti:TI}{x:ag}(j:∀i∈ids x,h i=h' i):mD ti x h=mD ti x h':=by
 unfold mD;split
 ·rename_i id b n i k _;have e:=j id (by simp[ids]);rw[e]
 ·rfl
theorem ui{ti:TI}{x y:ag}(j:∀i∈ids x,h i=h' i):kM ti x y h=kM ti x y h':=by
 unfold kM;split
 ·rename_i id b n i _ k v;have f:=j id (by simp[ids]);rw[f]
 ·rfl
theorem uf{tb:bU}{t:TypeId}{x i:ag}(e:∀i∈ids x,h i=h' i):kL tb t x i h=kL tb t x i h':=by
 unfold kL;cases tb.find t with
 | none=>rfl
 | some ti =>
  simp only;split
  ·split
   ·split
    ·split
     ·rename_i id j sz off _ _ _;rw[e id (by simp[ids])]
     ·rfl
     ·rfl
    ·split
     ·split
      ·rename_i id j sz off _ _ _;rw[e id (by simp[ids])]
      ·rfl
     ·rfl
   ·rfl
  ·rfl
theorem qc{tb:bU}{t:TypeId}{x i:ag}(e:∀i∈ids x,h i=h' i):iY tb t x i h=iY tb t x i h':=by
 unfold iY;cases hN tb t with
 | none=>rfl
 | some q =>
  simp only;split
  ·rw[A5 e]
  ·rfl
theorem uj{P:Program}{tb:bU}{t:TypeId}{x k:ag}{ok:Bool}(e:∀i∈ids x,h i=h' i):mG P tb t x k ok h=mG P tb t x k ok h':=by
 unfold mG;split
 ·split
  ·rename_i id;rw[e id (by simp[ids])]
  ·rfl
 ·rfl
theorem sE{P:Program}{tb:bU}{t:TypeId}{g:QV}{x k:ag}{ok:Bool}(e:∀i∈ids x,h i=h' i):kY P tb t g x k ok h=kY P tb t g x k ok h':=by
 unfold kY;split
 ·split
  ·rename_i id;rw[e id (by simp[ids])]
  ·rfl
 ·rfl
theorem lH{P:Program}{tb:bU}{t:TypeId}{x k y:ag}(e:∀i∈ids x,h i=h' i)(j:∀i∈ids y,h i=h' i):fK P tb t x k y h=fK P tb t x k y h':=by
 unfold fK;split
 ·split
  ·rename_i id;rw[e id (by simp[ids])];split
   ·split
    ·split
     ·rw[sv j]
     ·rfl
    ·rfl
   ·rfl
  ·rfl
 ·rfl
theorem kf{P:Program}{tb:bU}{t:TypeId}{x k y:ag}(e:∀i∈ids x,h i=h' i):ff P tb t x k y h=ff P tb t x k y h':=by
 unfold ff;split
 ·split
  ·rename_i id;rw[e id (by simp[ids])]
  ·rfl
 ·rfl
theorem yA{id i:Nat}{e e2:TypeId}{A:Ty}{xss:List (List A.den)}{hole:Option (Nat×Nat)}{y:ag}(f:∀i∈ids y,h i=h' i)(q:∀k j,hole=some (k,j)→h j=h' j):ss id i e e2 A xss hole y h=ss id i e e2 A xss hole y h':=by
 unfold ss;cases y <;> try rfl
 rename_i r;simp only;rw[←f r (by simp[ids])];cases h r with
 | none=>rfl
 | some ob =>
  cases ob with
  | arr u B v =>
   cases hole with
   | none=>rfl
   | some p =>
    obtain⟨k,j⟩:=p;simp only[q k j rfl]
  | _=>rfl
theorem uN{tb:bU}{t:TypeId}{x y:ag}(u:∀i∈ids x,h i=h' i)(v:∀i∈ids y,h i=h' i)(z:∀i∈ids x,∀e e2 A xss k j,h i=some (.mat e e2 A xss (some (k,j)))→h j=h' j):oz tb t x y h=oz tb t x y h':=by
 unfold oz;cases tb.find t with
 | none=>rfl
 | some ti =>
  simp only;split
  ·cases x <;> try rfl
   case ada=>exact ui u
   rename_i id i sz off;simp only;have p:=u id (by simp[ids]);have q:=z id (by simp[ids]);rw[←p];cases B:h id with
   | none=>rfl
   | some ob =>
    cases ob with
    | arr e A xs=>simp only[BG (A:=A) (xs:=xs) (i:=i) (off:=off) v]
    | fz _ _=>rfl
    | box _=>rfl
    | mpo _ _ _=>rfl
    | mpl _ _=>rfl
    | bytes _ _=>rfl
    | cutz _ _=>rfl
    | lmp _ _ _ _=>rfl
    | vrow _ _ _=>rfl
    | nds _ _ _ _=>rfl
    | mpq _ _=>rfl
    | mat e e2 A xss hole=>simp only[yA (id:=id) (i:=i) (e:=e) (e2:=e2) (A:=A) (xss:=xss) (hole:=hole) v (fun k j C=>q e e2 A xss k j (by rw[B,C]))]
  ·rfl
theorem ug{tb:bU}{new:Nat}{t:TypeId}{x y:ag}(j:∀i∈ids x,h i=h' i)(q:∀i∈ids y,h i=h' i):mK tb new t x y h=mK tb new t x y h':=by
 unfold mK;cases hN tb t with
 | none=>rfl
 | some p =>
  obtain⟨e,u,A⟩:=p;simp only[ml (A:=A) q];cases fb h' A y with
  | none=>rfl
  | some v =>
   simp only;cases x <;> try rfl
   rename_i id;simp only;rw[j id (by simp[ids])]
theorem xu{tb:bU}{t:TypeId}{x y:ag}(j:∀i∈ids x,h i=h' i)(q:∀i∈ids y,h i=h' i):qI tb t x y h=qI tb t x y h':=by
 unfold qI;cases hN tb t with
 | none=>rfl
 | some p =>
  obtain⟨e,u,A⟩:=p;simp only[ml (A:=A) q];cases fb h' A y with
  | none=>rfl
  | some v =>
   simp only;cases x <;> try rfl
   rename_i id;simp only;rw[j id (by simp[ids])]
end
def fp(s:Nat→ag)(op:Op):List ag:=op.operands.toList.map (ev s)
theorem fI{s:Nat→ag}{op:Op}{x:Operand}(e:x∈op.operands.toList):∀i∈ids (ev s x),i∈bz (fp s op):=fun _ hi =>
 cK.2 ⟨ev s x,List.mem_map.2 ⟨x,e,rfl⟩,hi⟩
def uV(h:Nat→Qz)(e:List ag):QV :=
 bz e++(bz e).flatMap fun i=>match h i with
  | some (.mat _ _ _ _ (some (_,j)))=>[j]
  | _=>[]
theorem uS{h:Nat→Qz}{xs:List ag}{i:Nat}{e q:TypeId}{A:Ty}{p:List (List A.den)}{k j:Nat}(hi:i∈bz xs)(u:h i=some (.mat e q A p (some (k,j)))):j∈uV h xs :=
 List.mem_append_right _ (List.mem_flatMap.2 ⟨i,hi,by rw[u];exact .head _⟩)
def jF(h:Nat→Qz)(op:Op)(xs:List ag):QV :=
 match op with
 | .call _=>vE h xs
 | .load _ _=>uV h xs
 | .store _ _ _=>uV h xs
 | .move _=>[]
 | .assign _=>[]
 | .nilCheck _=>[]
 | .fieldAddr _ _ _=>[]
 | _=>bz xs
theorem Cq{P:Program}{tb:bU}{new:Nat}{asm:Option Bool}{iM:Option wF}{op:Op}{s O:Nat→ag}{h h':Nat→Qz}
  (v:∀x∈op.operands.toList,ev s x=ev O x) (hh:∀i∈jF h op (fp s op),h i=h' i):gV P tb new asm iM op s h=gV P tb new asm iM op O h':=by
 by_cases J:(∃x,op = .move x)∨(∃x,op = .assign x)∨(∃x,op = .nilCheck x)∨∃t x f,op = .fieldAddr t x f
 ·rcases J with⟨x,rfl⟩ | ⟨x,rfl⟩ | ⟨x,rfl⟩ | ⟨t,x,f,rfl⟩ <;> simp only[gV,v x (by simp[Op.operands])]
 have a3:∀i∈bz (fp s op),h i=h' i:=fun i hi=>by
  refine hh i ?_;unfold jF;split
  ·exact List.mem_append_left _ hi
  ·exact List.mem_append_left _ hi
  ·exact List.mem_append_left _ hi
  ·rename_i x;exact absurd (.inl ⟨x,rfl⟩) J
  ·rename_i x;exact absurd (.inr (.inl ⟨x,rfl⟩)) J
  ·rename_i x;exact absurd (.inr (.inr (.inl ⟨x,rfl⟩))) J
  ·rename_i t x f;exact absurd (.inr (.inr (.inr ⟨t,x,f,rfl⟩))) J
  ·exact hi
 have key:∀x∈op.operands.toList,∀i∈ids (ev s x),h i=h' i:=fun x V i hi=>a3 i (fI V i hi)
 cases op with
 | move x=>simp only[gV,v x (by simp[Op.operands])]
 | assign x=>simp only[gV,v x (by simp[Op.operands])]
 | pick c x y =>
  have e:∀b:Bool,ev s (if b=true then x else y)=ev O (if b=true then x else y):=fun b=>by
   cases b
   ·exact v y (by simp[Op.operands])
   ·exact v x (by simp[Op.operands])
  simp only[gV,zy,v c (by simp[Op.operands]),e,v x (by simp[Op.operands]),v y (by simp[Op.operands])]
 | alloc t=>rfl
 | box t x=>simp only[gV,v x (by simp[Op.operands])]
 | build t ps =>
  simp only[gV];have e:ps.toList.map (fun p=>ev s p.2)=ps.toList.map (fun p=>ev O p.2):=List.map_congr_left (fun p C=>v p.2 (by simp only[Op.operands,List.mem_map];exact⟨p,C,rfl⟩));rw[e]
 | buildSlice t len ps =>
  simp only[gV];have e:ps.toList.map (fun p=>ev s p.2)=ps.toList.map (fun p=>ev O p.2):=List.map_congr_left (fun p C=>v p.2 (by simp only[Op.operands,List.mem_map];exact⟨p,C,rfl⟩));rw[←e];unfold mn;cases hN tb t with
  | none=>rfl
  | some q =>
   obtain⟨e,te,A⟩:=q;simp only;split
   ·rw[vX (A:=A) (fun i hi=>by
     obtain⟨y,D,hi⟩:=cK.1 hi;obtain⟨p,C,rfl⟩:=List.mem_map.1 D;exact key p.2 (by simp only[Op.operands,List.mem_map];exact⟨p,C,rfl⟩) i hi)]
   ·rfl
 | load t x =>
  simp only[gV,←v x (by simp[Op.operands])];have V:=key x (by simp[Op.operands]);have e2:∀ti,lS new ti (ev s x) h=lS new ti (ev s x) h':=fun ti=>wU V (fun i hi e e2 A a4 k j hm=>hh j (uS (fI (by simp[Op.operands]) i hi) hm))
  unfold yR;simp only[wQ V,wv V,e2]
 | store t x y =>
  simp only[gV,←v x (by simp[Op.operands]),←v y (by simp[Op.operands])];exact uN (key x (by simp[Op.operands])) (key y (by simp[Op.operands])) (fun i hi e e2 A a4 k j hm=>hh j (uS (fI (by simp[Op.operands]) i hi) hm))
 | binOp o t x y t'=>simp only[gV,v x (by simp[Op.operands]),v y (by simp[Op.operands])]
 | unOp o t x=>simp only[gV,v x (by simp[Op.operands])]
 | nilCheck x=>simp only[gV,v x (by simp[Op.operands])]
 | convert st dt x =>
  simp only[gV,←v x (by simp[Op.operands])];cases iM with
  | some _=>rfl
  | none=>?_
  simp only;unfold yN;cases tb.find st with
  | none=>rfl
  | some si =>
   cases tb.find dt with
   | none=>rfl
   | some di =>
    simp only;cases Ff tb di.k (ev s x)with
    | some r=>rfl
    | none=>simp only[BU (s:=si.k) (d:=di.k) (key x (by simp[Op.operands]))]
 | slice t x lo hi mx =>
  cases mx with
  | some mo =>
   cases hi with
   | none=>rfl
   | some a5 =>
    have e1:pB s lo=pB O lo:=by
     cases lo with
     | none=>rfl
     | some y=>simp only[pB,v y (by simp[Op.operands])]
    simp only[gV,←v x (by simp[Op.operands]),←v a5 (by simp[Op.operands]),←v mo (by simp[Op.operands]),←e1];have V:=key x (by simp[Op.operands]);cases iM with
    | some _ =>
     simp only;unfold Cr;rw[nN V]
    | none=>?_
    simp only;unfold sD;split
    ·split
     ·rfl
     ·rename_i id ex;rw[V id (by rw[ex];simp[ids])]
     ·rfl
    ·rfl
  | none =>
   have e1:pB s lo=pB O lo:=by
    cases lo with
    | none=>rfl
    | some y=>simp only[pB,v y (by simp[Op.operands])]
   have e2:pB s hi=pB O hi:=by
    cases hi with
    | none=>rfl
    | some y=>simp only[pB,v y (by simp[Op.operands])]
   simp only[gV,←v x (by simp[Op.operands]),←e1,←e2];exact vz (key x (by simp[Op.operands]))
 | fieldAddr t x f=>simp only[gV,v x (by simp[Op.operands])]
 | indexAddr t x i =>
  simp only[gV,←v x (by simp[Op.operands]),←v i (by simp[Op.operands])];simp only[uf (key x (by simp[Op.operands])),qc (key x (by simp[Op.operands]))]
 | index t x i=>simp only[gV,v x (by simp[Op.operands]),v i (by simp[Op.operands])]
 | extract x i=>simp only[gV,v x (by simp[Op.operands])]
 | typeAssert x xt t ok=>simp only[gV,v x (by simp[Op.operands])]
 | makeFunc f fs cs =>
  simp only[gV];rw[List.map_congr_left (f:=ev s) (g:=ev O) (fun p C=>v p (by simp only[Op.operands,Array.toList_append,List.mem_append];exact .inr C))]
 | makeSlice t l c=>simp only[gV,v l (by simp[Op.operands]),v c (by simp[Op.operands])]
 | call c =>
  obtain⟨callee,args,E⟩:=c;have B:∀x∈args.toList,x∈(Op.call { callee,args,argTypes:=E }).operands.toList:=fun x V=>by simp only[Op.operands,Call.operands,Array.toList_append,List.mem_append];exact .inr V
  have e:args.toList.map (ev s)=args.toList.map (ev O):=List.map_congr_left (fun p C=>v p (B p C));have hk:∀y∈args.toList.map (ev s),∀i∈ids y,h i=h' i:=fun y D i hi=>by obtain⟨p,C,rfl⟩:=List.mem_map.1 D;exact key p (B p C) i hi
  have hc:=Bv (h':=h') (xs:=fp s (Op.call { callee,args,argTypes:=E })) hh;simp only[gV,pA];cases callee with
  | builtin b =>
   simp only[←e];unfold qo;split
   ·rename_i y t X et;split
    ·unfold sf;split
     ·split
      ·rename_i id _ _;rw[hk (.mp id) (by rw[X];simp) id (by simp[ids])]
      ·rfl
     ·rfl
    ·unfold CN;rw[Be (hk y (by rw[X];simp))]
   ·rfl
   ·rfl
   ·rename_i y z t t' X et;split
    ·exact ug (hk y (by rw[X];simp)) (hk z (by rw[X];simp))
    ·rfl
   ·rename_i y z t t' X et;exact xu (hk y (by rw[X];simp)) (hk z (by rw[X];simp))
   ·rfl
  | value f =>
   have hf:f∈(Op.call { callee:= .value f,args,argTypes:=E }).operands.toList:=by simp[Op.operands,Call.operands]
   simp only[←e,←v f hf];generalize a6:gY tb (HC iM) E.toList (args.toList.map (ev s))=xs;have Y:∀i∈bz xs,i∈bz (args.toList.map (ev s)):=fun i hi=>by rw[←a6,nk]at hi;exact hi
   unfold uz;split
   ·rename_i fid a2 q ef;have hin:∀i∈bz (Bf (ev s f)::xs),i∈bz (fp s (Op.call { callee:= .value f,args,argTypes:=E })):=fun i hi=>by
     simp only[bz,List.mem_append]at hi;rcases hi with hi | hi
     ·exact fI hf i (AR i hi)
     ·obtain⟨y,D,I⟩:=cK.1 (Y i hi);obtain⟨p,C,rfl⟩:=List.mem_map.1 D;exact fI (B p C) i I
    rw[p7 (bs:=q.fl) (h:=h) (h':=h') (fun i hi=>by
     obtain⟨y,D,I⟩:=cK.1 (Y i hi);exact hk y D i I)]
    cases a7:frzL h' q.fl xs with
    | none=>rfl
    | some p =>
     obtain⟨ys,u⟩:=p;obtain⟨z1,z2⟩:=zc a7;have L:J4 (apply u h) (apply u h') (bz (ys++a2)):=fun i hi=>by
      have Z:i∈bz (fp s (Op.call { callee:= .value f,args,argTypes:=E })):=by
       obtain⟨y,D,I⟩:=cK.1 hi;rcases List.mem_append.1 D with D | D
       ·obtain⟨y2,a8,Z⟩:=cK.1 (Y i (z2 i (cK.2 ⟨y,D,I⟩)));obtain⟨p,C,rfl⟩:=List.mem_map.1 a8;exact fI (B p C) i Z
       ·refine fI hf i (AR i ?_);rw[ef];simp only[ids];exact cK.2 ⟨y,D,I⟩
      obtain⟨c1,c2⟩:=hc i Z;exact⟨gx c1 u,fun cs M j hj=>gx (c2 cs (y8 z1 M) j hj) u⟩
     simp only;split
     ·have N:vE h (Bf (ev s f)::xs)=vE h' (Bf (ev s f)::xs):=by
       unfold vE;congr 1;refine uU fun i hi=>?_
       rw[(hc i (hin i hi)).1]
      rw[N];split
      ·rename_i hg;have a9:∀i∈q.g,h i=h' i:=fun i hi=>by
        have:=List.all_eq_true.1 hg i hi;rw[←N]at this;simp only[List.contains_eq_mem,decide_eq_true_eq]at this;unfold vE at this;rcases List.mem_append.1 this with h1 | h1
        ·exact(hc i (hin i h1)).1
        ·obtain⟨j,hj,a1⟩:=List.mem_flatMap.1 h1;split at a1
         ·rename_i cs M;exact(hc j (hin j hj)).2 cs M i a1
         ·cases a1
       rw[By (g:=q.g) (h:=apply u h) (h':=apply u h') (fun i hi=>gx (a9 i hi) u),
        tj (g:=q.g) (h:=less q.g (apply u h)) (h':=less q.g (apply u h')) (fun i hi=>⟨vT (L i hi).1,fun cs M j hj=>vT ((L i hi).2 cs (qE M).1 j hj)⟩)]
      ·rfl
     ·rw[oV (h:=apply u h) (h':=apply u h') L]
   ·rfl
  | invoke r m=>rfl
 | makeMap t r=>cases r <;> rfl
 | lookup t x k ok =>
  simp only[gV,←v x (by simp[Op.operands]),←v k (by simp[Op.operands])];rw[uj (key x (by simp[Op.operands])),sE (key x (by simp[Op.operands]))]
 | mapUpdate t x k y =>
  simp only[gV,←v x (by simp[Op.operands]),←v k (by simp[Op.operands]),←v y (by simp[Op.operands])];rw[lH (key x (by simp[Op.operands])) (key y (by simp[Op.operands])),kf (key x (by simp[Op.operands]))]
 | insert t x k y =>
  simp only[gV,←v x (by simp[Op.operands]),←v k (by simp[Op.operands]),←v y (by simp[Op.operands])];rw[lH (key x (by simp[Op.operands])) (key y (by simp[Op.operands])),kf (key x (by simp[Op.operands]))]
 | _=>rfl
theorem yc{P:Program}{tb:bU}{new:Nat}{asm:Option Bool}{iM:Option wF}{op:Op}{s u:Nat→ag}{h h':Nat→Qz}
  (v:∀x∈op.operands.toList,ev s x=ev u x) (z:∀i∈jF h op (fp s op),h i=h' i):Ej P tb new asm iM op s h=Ej P tb new asm iM op u h':=by
 have key:∀x∈op.operands.toList,(¬((∃x,op = .move x)∨(∃x,op = .assign x)∨(∃x,op = .nilCheck x)∨∃t x f,op = .fieldAddr t x f))→∀i∈ids (ev s x),h i=h' i:=fun x q j i hi=>by
  have p:=fI q i hi;refine z i ?_;unfold jF;split
  ·exact List.mem_append_left _ p
  ·exact List.mem_append_left _ p
  ·exact List.mem_append_left _ p
  ·rename_i x;exact absurd (.inl ⟨x,rfl⟩) j
  ·rename_i x;exact absurd (.inr (.inl ⟨x,rfl⟩)) j
  ·rename_i x;exact absurd (.inr (.inr (.inl ⟨x,rfl⟩))) j
  ·rename_i t x f;exact absurd (.inr (.inr (.inr ⟨t,x,f,rfl⟩))) j
  ·exact p
 have C:pC tb new iM.isSome op s h=pC tb new iM.isSome op u h':=CW v key;have D:jg P tb new iM op s h=jg P tb new iM op u h':=CI v key (fun c hc I E=>by
  subst hc;have B:=Bv (h':=h') (xs:=fp s (Op.call c)) z;refine oV fun i hi=>?_
  obtain⟨x,q,hi⟩:=E i hi;exact B i (fI q i hi)) (fun c hc A x q=>by
  subst hc;exact ml (fun i hi=>key x q (by rintro(⟨_,e⟩ | ⟨_,e⟩ | ⟨_,e⟩ | ⟨_,_,_,e⟩) <;> cases e) i hi))
 unfold Ej;rw[C,D,Cq v z]
end Go.Tv
