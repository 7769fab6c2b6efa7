import Derived.Test.YtbedjpdfkmfplaaGreatDoorTvM
namespace Go.Tv
open Go Go.RowKit
theorem gO{h h':Nat→Qz}{i:Nat}(e:h i=h' i):∀(u:iu),apply u h i=apply u h' i:=fun u=>by
 induction u generalizing h h' with
 | nil=>exact e
 | cons p u v =>
  obtain⟨j,o⟩:=p;simp only[apply];refine v ?_;by_cases q:i=j
  ·subst q;rw[av,av]
  ·rw[aD _ _ q,aD _ _ q];exact e
section
variable{h h':Nat→Qz}
theorem oB{x:ag}(e:∀i∈ids x,h i=h' i):gG h x=gG h' x:=by
 cases x <;> try rfl
 rename_i id;simp only[gG,e id (by simp[ids])]
theorem p7:∀ {xs:List ag} {h h':Nat→Qz},(∀i∈bA xs,h i=h' i)→rf h xs=rf h' xs
 | [],_,_,_=>rfl
 | x::xs,h,h',e=>by
  simp only[rf,oB (x:=x) (fun i hi=>e i (by simp[bA,hi]))];cases hd:gG h' x with
  | none=>rfl
  | some p =>
   obtain⟨y,u⟩:=p;simp only[p7 (xs:=xs) (h:=apply u h) (h':=apply u h') (fun i hi=>gO (e i (by simp[bA,hi])) u)]
theorem CV(e f:List ag):bA (e++f)=bA e++bA f:=by
 induction e with
 | nil=>rfl
 | cons x e j=>simp only[List.cons_append,bA,j,List.append_assoc]
theorem zC(k:IntKind)(l:QK):bA (l.map fun i=>ag.p false (.int k) i)=[]:=by
 induction l with
 | nil=>rfl
 | cons x f e=>simp only[List.map_cons,bA,ids,e,List.append_nil]
theorem vp{x:ag}:bA (cellsOf x)=ids x:=by
 cases x with
 | lag k n e f =>
  simp only[cellsOf,ids];rw[CV];have:=zC k e.1;exact(congrArg (· ++ bA f) this).trans (List.nil_append _)
 | _=>simp[cellsOf,bA,ids]
theorem Eo{T:Ty}{x:ag}(e:∀i∈ids x,h i=h' i):G0 T h x=G0 T h' x:=by
 grind (splits:=6) (ematch:=4) [G0,p7,cellsOf,vp]
theorem uz{T:Ty}{x:ag}(e:∀i∈ids x,h i=h' i):HE T h x=HE T h' x:=by
 unfold HE;split
 ·rename_i id i sz off;rw[e id (by simp[ids])]
 ·rfl
 ·exact Eo e
theorem xV{A:Ty}:∀ {xs:List ag} {h h':Nat→Qz},(∀i∈bA xs,h i=h' i)→DC A h xs=DC A h' xs
 | [],_,_,_=>rfl
 | x::xs,h,h',e=>by
  simp only[DC,uz (x:=x) (T:=A) (fun i hi=>e i (by simp[bA,hi]))];cases hd:HE A h' x with
  | none=>rfl
  | some p =>
   obtain⟨y,u⟩:=p;simp only[xV (xs:=xs) (h:=apply u h) (h':=apply u h') (fun i hi=>gO (e i (by simp[bA,hi])) u)]
theorem yz{x:ag}(e:∀i∈ids x,h i=h' i):ll h x=ll h' x:=by
 unfold ll;split <;> first
  | rfl
  | (rename_i id;rw[e id (by simp[ids])])
  | (rename_i id i sz off;rw[e id (by simp[ids])])
theorem Ce{x:ag}{i:Int}(e:∀i∈ids x,h i=h' i):zw h x i=zw h' x i:=by
 unfold zw;split <;> first
  | rfl
  | (rename_i id;rw[e id (by simp[ids])])
  | (rename_i id i sz off;rw[e id (by simp[ids])])
theorem CK{x:ag}(e:∀i∈ids x,h i=h' i):lenOf h x=lenOf h' x:=by
 unfold lenOf;split <;> first
  | rfl
  | (rename_i id;rw[e id (by simp[ids])])
  | (rename_i id i sz off;rw[e id (by simp[ids])])
theorem Eh{s d:TK}{x:ag}(e:∀i∈ids x,h i=h' i):conv s d h x=conv s d h' x:=by
 unfold conv
 split <;> first
  | rfl
  | (rename_i id;rw[e id (by simp[ids])])
  | (rename_i id i sz off;rw[e id (by simp[ids])])
theorem mZ{A:Ty}{x:ag}(e:∀i∈ids x,h i=h' i):fp h A x=fp h' A x:=by
 unfold fp;split <;> first
  | rfl
  | (rename_i id;rw[e id (by simp[ids])])
  | (rename_i id i sz off;rw[e id (by simp[ids])])
theorem xb(β:Bool):∀(T:Ty) (x:T.den),bA (flat β T x)=[]
 | .unit,_=>rfl
 | .prod a b,x=>by
  have f:=xb β a x.1;have j:=xb β b x.2;apply List.eq_nil_iff_forall_not_mem.2;intro i hi;simp only[flat,cO,List.mem_append]at hi;obtain⟨y,e,hi⟩:=hi;rcases e with e | e
  ·have:i∈bA (flat β a x.1):=cO.2 ⟨y,e,hi⟩;rw[f]at this;cases this
  ·have:i∈bA (flat β b x.2):=cO.2 ⟨y,e,hi⟩;rw[j]at this;cases this
 | .int _,_=>rfl
 | .bool,_=>rfl
 | .str,_=>rfl
 | .flt,_=>rfl
 | .slice _,_=>rfl
 | .ptr _,_=>rfl
 | .tree _ _,_=>rfl
 | .arr k _,x=>zC k x.1
 | .mapi _ _,_=>rfl
theorem LR{f new:List ag}{p i:Nat}(hi:i∈bA (wr f p new)):i∈bA f∨i∈bA new:=by
 obtain⟨y,e,hi⟩:=cO.1 hi;simp only[wr,List.mem_append]at e;rcases e with(e | e) | e
 ·exact .inl (cO.2 ⟨y,List.mem_of_mem_take e,hi⟩)
 ·exact .inr (cO.2 ⟨y,e,hi⟩)
 ·exact .inl (cO.2 ⟨y,List.mem_of_mem_drop e,hi⟩)
theorem C4{A:Ty}{xs:List A.den}{i off:Nat}{y:ag}(u:∀i∈ids y,h i=h' i):Dr A h xs i off y=Dr A h' xs i off y:=by
 unfold Dr;refine uz fun j q=>?_
 simp only[ids]at q;rcases LR q with f | f
 ·rw[xb]at f;cases f
 ·rw[vp]at f;exact u j f
theorem uT{x:ag}(e:∀i∈ids x,h i=h' i):xa h x=xa h' x:=by
 cases x <;> try rfl
 rename_i id;simp only[xa,e id (by simp[ids])]
theorem og:∀ {xs:List ag},(∀i∈bA xs,h i=h' i)→pJ h xs=pJ h' xs
 | [],_=>rfl
 | x::xs,e=>by
  simp only[pJ,uT (x:=x) (fun i hi=>e i (by simp[bA,hi])),og (xs:=xs) (fun i hi=>e i (by simp[bA,hi]))]
def Mn(h h':Nat→Qz)(I:QV):Prop:=∀i∈I,h i=h' i∧∀e,h i=some (.box e)→∀j∈bA e,h j=h' j
theorem ve{x:ag}(e:Mn h h' (ids x)):tQ h x=tQ h' x:=by
 have q:∀i∈ids x,h i=h' i:=fun i hi=>(e i hi).1
 cases x <;> try rfl
 ·simp only[tQ,uT q]
 ·rename_i id i sz off;simp only[tQ];have f:=e id (by simp[ids]);rw[←f.1];cases u:h id with
  | none=>rfl
  | some ob =>
   cases ob with
   | box j=>simp only[og (xs:=j) (h:=h) (h':=h') (f.2 j u)]
   | arr _ _ _=>rfl
   | fz _ _=>rfl
   | mpo _ _ _=>rfl
   | mpl _ _=>rfl
   | bytes _ _=>rfl
   | cutz _ _=>rfl
   | lmp _ _ _ _=>rfl
   | vrow _ _ _=>rfl
   | mat _ _ _ _ _=>rfl
   | nds _ _ _ _=>rfl
   | mpq _ _=>rfl
 ·grind (splits:=6) (ematch:=4) [tQ,og,ids]
theorem sX:∀ {xs:List ag},Mn h h' (bA xs)→rS h xs=rS h' xs
 | [],_=>rfl
 | x::xs,e=>by
  simp only[rS,ve (x:=x) (fun i hi=>e i (by simp[bA,hi])),sX (xs:=xs) (fun i hi=>e i (by simp[bA,hi]))]
theorem xj{x:ag}(e:Mn h h' (ids x)):BV h x=BV h' x:=by
 cases x <;> try (simp only[BV];exact ve e)
 rename_i f j;simp only[BV];rw[sX (xs:=j) (h:=h) (h':=h') (fun i hi=>e i (by simpa [ids]using hi))]
theorem qa:∀ {xs:List ag},Mn h h' (bA xs)→o5 h xs=o5 h' xs
 | [],_=>rfl
 | x::xs,e=>by
  simp only[o5,xj (x:=x) (fun i hi=>e i (by simp[bA,hi])),qa (xs:=xs) (fun i hi=>e i (by simp[bA,hi]))]
theorem xS{g:QV}{i:Nat}(e:h i=h' i):less g h i=less g h' i:=by
 unfold less;split
 ·rfl
 ·exact e
theorem xI{α β:Type}{l:List α}{f j:α→List β}(e:∀x∈l,f x=j x):l.flatMap f=l.flatMap j:=by
 induction l with
 | nil=>rfl
 | cons x l q=>simp only[List.flatMap_cons,e x (by simp),q (fun y u=>e y (by simp[u]))]
theorem u9{g:QV}:∀ {xs:List ag},Mn h h' (bA xs)→tY g h xs=tY g h' xs
 | [],_=>rfl
 | x::xs,j=>by
  have e:zv g h x=zv g h' x:=by unfold zv;rw[xj (x:=x) (fun i hi=>j i (by simp[bA,hi]))]
  simp only[tY,e,u9 (xs:=xs) (fun i hi=>j i (by simp[bA,hi]))]
theorem Cw{g:QV}{h h':Nat→Qz}(e:∀i∈g,h i=h' i):j8 g h 0 g=j8 g h' 0 g:=by
 have key:∀(l:QV) (k:Nat),(∀i∈l,i∈g)→j8 g h k l=j8 g h' k l:=fun l=>by
  induction l with
  | nil=>intro k _;rfl
  | cons x l j =>intro k hl;simp only[j8,e x (hl x (by simp)),j (k+1) (fun i hi=>hl i (by simp[hi]))]
 exact key g 0 fun _ h=>h
theorem Fk{x:ag}(e:∀i∈ids x,h i=h' i):zf h x=zf h' x:=by
 cases x <;> try (simp only[zf];exact oB e)
 rename_i f;simp only[zf];rw[p7 (xs:=f) (h:=h) (h':=h') (fun i hi=>e i (by simpa [ids]using hi))]
theorem rM:∀ {bs:List Bool} {xs:List ag} {h h':Nat→Qz},(∀i∈bA xs,h i=h' i)→frzL h bs xs=frzL h' bs xs
 | _,[],_,_,_=>by simp only[frzL]
 | [],_::_,_,_,_=>rfl
 | false::bs,x::xs,h,h',e=>by
  simp only[frzL,rM (bs:=bs) (xs:=xs) (h:=h) (h':=h') (fun i hi=>e i (by simp[bA,hi]))]
 | true::bs,x::xs,h,h',e=>by
  simp only[frzL,Fk (x:=x) (h:=h) (h':=h') (fun i hi=>e i (by simp[bA,hi]))];cases zf h' x with
  | none=>rfl
  | some p =>
   obtain⟨y,u⟩:=p;simp only[rM (bs:=bs) (xs:=xs) (h:=apply u h) (h':=apply u h') (fun i hi=>gO (e i (by simp[bA,hi])) u)]
def sh(u:iu):Prop:=∀p∈u,∃A e,p.2=some (.fz A e)
theorem sh.append{u v:iu}(hu:sh u)(e:sh v):sh (u++v):=fun p j=>(List.mem_append.1 j).elim (hu p) (e p)
theorem zF{x y:ag}{u:iu}(hd:gG h x=some (y,u)):sh u∧∀i∈ids y,i∈ids x:=by
 unfold gG at hd;split at hd
 ·split at hd
  ·cases hd;exact⟨fun p e=>by simp at e;subst e;exact⟨_,_,rfl⟩,fun i hi=>by simp[ids]at hi⟩
  ·cases hd;exact⟨fun p e=>by simp at e,fun i hi=>by simp[ids]at hi⟩
  ·cases hd;exact⟨fun p e=>by simp at e;subst e;exact⟨_,_,rfl⟩,fun i hi=>by simp[ids]at hi⟩
  ·cases hd;exact⟨fun p e=>by simp at e;subst e;exact⟨_,_,rfl⟩,fun i hi=>by simp[ids]at hi⟩
  ·cases hd;exact⟨fun p e=>by simp at e;subst e;exact⟨_,_,rfl⟩,fun i hi=>by simp[ids]at hi⟩
  ·cases hd
 ·cases hd;exact⟨fun p e=>by simp at e,fun i hi=>hi⟩
theorem Dd:∀ {f e:List ag} {h:Nat→Qz} {u:iu},rf h f=some (e,u)→sh u∧∀i∈bA e,i∈bA f
 | [],e,h,u,hd=>by cases hd;exact⟨fun p j=>by simp at j,fun i hi=>hi⟩
 | x::f,e,h,u,hd=>by
  simp only[rf]at hd;split at hd
  ·rename_i y E q;split at hd
   ·rename_i v I z;cases hd;obtain⟨A,B⟩:=zF q;obtain⟨C,D⟩:=Dd z;refine⟨A.append C,fun i hi=>?_⟩;simp only[bA,List.mem_append]at hi ⊢;exact hi.imp (B i) (D i)
   ·cases hd
  ·cases hd
theorem KT{x y:ag}{u:iu}(hd:zf h x=some (y,u)):sh u∧∀i∈ids y,i∈ids x:=by
 unfold zf at hd;split at hd
 ·grind (splits:=6) (ematch:=4) [Dd,ids]
 ·exact zF hd
theorem Ah:∀ {bs:List Bool} {xs e:List ag} {h:Nat→Qz} {u:iu},frzL h bs xs=some (e,u)→sh u∧∀i∈bA e,i∈bA xs
 | _,[],e,h,u,hd=>by simp only[frzL]at hd;cases hd;exact⟨fun p j=>by simp at j,fun i hi=>hi⟩
 | [],_::_,e,h,u,hd=>by simp only[frzL]at hd;cases hd;exact⟨fun p j=>by simp at j,fun i hi=>hi⟩
 | false::bs,x::xs,e,h,u,hd=>by
  simp only[frzL]at hd;split at hd
  ·rename_i q I v;cases hd;obtain⟨z,B⟩:=Ah v;refine⟨z,fun i hi=>?_⟩;simp only[bA,List.mem_append]at hi ⊢;exact hi.imp (fun h=>h) (B i)
  ·cases hd
 | true::bs,x::xs,e,h,u,hd=>by
  simp only[frzL]at hd;split at hd
  ·rename_i y J v;split at hd
   ·rename_i q L C;cases hd;obtain⟨z,B⟩:=KT v;obtain⟨D,E⟩:=Ah C;refine⟨z.append D,fun i hi=>?_⟩;simp only[bA,List.mem_append]at hi ⊢;exact hi.imp (B i) (E i)
   ·cases hd
  ·cases hd
theorem AX{u:iu}(hu:sh u){i:Nat}{B:List ag}:∀ {h:Nat→Qz},apply u h i=some (.box B)→h i=some (.box B):=by
 induction u with
 | nil=>intro h hb;exact hb
 | cons p u C =>
  intro h hb;obtain⟨j,o⟩:=p;have v:=C (fun q D=>hu q (by simp[D])) hb;by_cases e:i=j
  ·subst e;rw[av]at v;obtain⟨A,xs,z⟩:=hu (i,o) (by simp);simp only at z;rw[v]at z;cases z
  ·rw[aD _ _ e]at v;exact v
theorem DU{xs:List ag}(e:∀i∈ym h xs,h i=h' i):Mn h h' (bA xs):=fun i hi =>
 ⟨e i (List.mem_append_left _ hi),fun v q j u=>e j (List.mem_append_right _ (List.mem_flatMap.2 ⟨i,hi,by rw[q];exact u⟩))⟩
theorem wD{tb:bQ}{new:Nat}{t:TypeId}{x:ag}{e hi:Option (Option Int)}(j:∀i∈ids x,h i=h' i):qh tb new t x e hi h=qh tb new t x e hi h':=by
 unfold qh;split
 ·grind (splits:=6) (ematch:=4) [ids]
 ·rfl
theorem yO{new:Nat}{ti:TI}{x:ag}(v:∀i∈ids x,h i=h' i)(z:∀i∈ids x,∀e u A q k j,h i=some (.mat e u A q (some (k,j)))→h j=h' j):mD new ti x h=mD new ti x h':=by
 unfold mD;cases x <;> try rfl
 rename_i id i sz off;simp only;have B:=v id (by simp[ids]);have u:=z id (by simp[ids]);rw[←B];cases C:h id with
 | none=>rfl
 | some ob =>
  cases ob with
  | mat e D A q hole =>
   cases hole with
   | none=>rfl
   | some p =>
    obtain⟨k,j⟩:=p;simp only[u _ _ _ _ _ _ C]
  | _=>rfl
theorem xh{ti:TI}{x:ag}(e:∀i∈ids x,h i=h' i):nH ti x h=nH ti x h':=by
 unfold nH;split
 ·simp_all [ids]
 ·rfl
theorem vJ{ti:TI}{x y:ag}(f:∀i∈ids x,h i=h' i):lA ti x y h=lA ti x y h':=by
 unfold lA;split
 ·simp_all [ids]
 ·rfl
theorem vN{tb:bQ}{t:TypeId}{x i:ag}(e:∀i∈ids x,h i=h' i):lE tb t x i h=lE tb t x i h':=by
 unfold lE;cases tb.find t with
 | none=>rfl
 | some ti =>
  simp only;split
  ·grind (splits:=6) (ematch:=4) [ids]
  ·rfl
theorem rJ{tb:bQ}{t:TypeId}{x i:ag}(e:∀i∈ids x,h i=h' i):jB tb t x i h=jB tb t x i h':=by
 unfold jB;cases iH tb t with
 | none=>rfl
 | some q =>
  simp only;split
  ·rw[Ce e]
  ·rfl
theorem vQ{P:Program}{tb:bQ}{t:TypeId}{x k:ag}{ok:Bool}(e:∀i∈ids x,h i=h' i):nC P tb t x k ok h=nC P tb t x k ok h':=by
 grind (splits:=6) (ematch:=4) [nC,ids]
theorem uj{P:Program}{tb:bQ}{t:TypeId}{g:QV}{x k:ag}{ok:Bool}(e:∀i∈ids x,h i=h' i):l8 P tb t g x k ok h=l8 P tb t g x k ok h':=by
 grind (splits:=6) (ematch:=4) [l8,ids]
theorem lL{P:Program}{tb:bQ}{t:TypeId}{x k y:ag}(e:∀i∈ids x,h i=h' i)(j:∀i∈ids y,h i=h' i):ga P tb t x k y h=ga P tb t x k y h':=by
 unfold ga;split
 ·split
  ·rename_i id;rw[e id (by simp[ids])];split
   ·split
    ·split
     ·rw[uz j]
     ·rfl
    ·rfl
   ·rfl
  ·rfl
 ·rfl
theorem kU{P:Program}{tb:bQ}{t:TypeId}{x k y:ag}(e:∀i∈ids x,h i=h' i):fD P tb t x k y h=fD P tb t x k y h':=by
 grind (splits:=6) (ematch:=4) [fD,ids]
theorem A3{id i:Nat}{e e2:TypeId}{A:Ty}{xss:List (List A.den)}{hole:Option (Nat×Nat)}{y:ag}(f:∀i∈ids y,h i=h' i)(q:∀k j,hole=some (k,j)→h j=h' j):uJ id i e e2 A xss hole y h=uJ id i e e2 A xss hole y h':=by
 unfold uJ;cases y <;> try rfl
 rename_i r;simp only;rw[←f r (by simp[ids])];cases h r with
 | none=>rfl
 | some ob =>
  cases ob with
  | arr u B v =>
   cases hole with
   | none=>rfl
   | some p =>
    obtain⟨k,j⟩:=p;simp only[q k j rfl]
  | _=>rfl
theorem wP{tb:bQ}{t:TypeId}{x y:ag}(v:∀i∈ids x,h i=h' i)(z:∀i∈ids y,h i=h' i)(B:∀i∈ids x,∀e e2 A xss k j,h i=some (.mat e e2 A xss (some (k,j)))→h j=h' j):qe tb t x y h=qe tb t x y h':=by
 unfold qe;cases tb.find t with
 | none=>rfl
 | some ti =>
  simp only;split
  ·cases x <;> try rfl
   case ada=>exact vJ v
   rename_i id i sz off;simp only;have q:=v id (by simp[ids]);have u:=B id (by simp[ids]);rw[←q];cases C:h id with
   | none=>rfl
   | some ob =>
    cases ob with
    | arr e A xs=>simp only[C4 (A:=A) (xs:=xs) (i:=i) (off:=off) z]
    | fz _ _=>rfl
    | box _=>rfl
    | mpo _ _ _=>rfl
    | mpl _ _=>rfl
    | bytes _ _=>rfl
    | cutz _ _=>rfl
    | lmp _ _ _ _=>rfl
    | vrow _ _ _=>rfl
    | nds _ _ _ _=>rfl
    | mpq _ _=>rfl
    | mat e e2 A xss hole=>simp only[A3 (id:=id) (i:=i) (e:=e) (e2:=e2) (A:=A) (xss:=xss) (hole:=hole) z (fun k j D=>u e e2 A xss k j (by rw[C,D]))]
  ·rfl
theorem vV{tb:bQ}{new:Nat}{t:TypeId}{x y:ag}(j:∀i∈ids x,h i=h' i)(q:∀i∈ids y,h i=h' i):nL tb new t x y h=nL tb new t x y h':=by
 unfold nL;cases iH tb t with
 | none=>rfl
 | some p =>
  obtain⟨e,u,A⟩:=p;simp only[mZ (A:=A) q];cases fp h' A y with
  | none=>rfl
  | some v =>
   simp only;cases x <;> try rfl
   rename_i id;simp only;rw[j id (by simp[ids])]
theorem yI{tb:bQ}{t:TypeId}{x y:ag}(j:∀i∈ids x,h i=h' i)(q:∀i∈ids y,h i=h' i):sO tb t x y h=sO tb t x y h':=by
 unfold sO;cases iH tb t with
 | none=>rfl
 | some p =>
  obtain⟨e,u,A⟩:=p;simp only[mZ (A:=A) q];cases fp h' A y with
  | none=>rfl
  | some v =>
   simp only;cases x <;> try rfl
   rename_i id;simp only;rw[j id (by simp[ids])]
end
def fP(s:Nat→ag)(op:Op):List ag:=op.operands.toList.map (ev s)
theorem fV{s:Nat→ag}{op:Op}{x:Operand}(e:x∈op.operands.toList):∀i∈ids (ev s x),i∈bA (fP s op):=fun _ hi =>
 cO.2 ⟨ev s x,List.mem_map.2 ⟨x,e,rfl⟩,hi⟩
def yi(h:Nat→Qz)(e:List ag):QV :=
 bA e++(bA e).flatMap fun i=>match h i with
  | some (.mat _ _ _ _ (some (_,j)))=>[j]
  | _=>[]
theorem yp{h:Nat→Qz}{xs:List ag}{i:Nat}{e u:TypeId}{A:Ty}{q:List (List A.den)}{k j:Nat}(hi:i∈bA xs)(v:h i=some (.mat e u A q (some (k,j)))):j∈yi h xs :=
 List.mem_append_right _ (List.mem_flatMap.2 ⟨i,hi,by rw[v];exact .head _⟩)
def kA(h:Nat→Qz)(op:Op)(xs:List ag):QV :=
 match op with
 | .call _=>ym h xs
 | .load _ _=>yi h xs
 | .store _ _ _=>yi h xs
 | .move _=>[]
 | .assign _=>[]
 | .nilCheck _=>[]
 | .fieldAddr _ _ _=>[]
 | _=>bA xs
theorem Ee{P:Program}{tb:bQ}{new:Nat}{asm:Option Bool}{jg:Option yt}{op:Op}{s L:Nat→ag}{h h':Nat→Qz}
  (v:∀x∈op.operands.toList,ev s x=ev L x) (hh:∀i∈kA h op (fP s op),h i=h' i):im P tb new asm jg op s h=im P tb new asm jg op L h':=by
 by_cases a1:(∃x,op = .move x)∨(∃x,op = .assign x)∨(∃x,op = .nilCheck x)∨∃t x f,op = .fieldAddr t x f
 ·rcases a1 with⟨x,rfl⟩ | ⟨x,rfl⟩ | ⟨x,rfl⟩ | ⟨t,x,f,rfl⟩ <;> simp only[im,v x (by simp[Op.operands])]
 have a3:∀i∈bA (fP s op),h i=h' i:=fun i hi=>by
  refine hh i ?_;unfold kA;split
  ·exact List.mem_append_left _ hi
  ·exact List.mem_append_left _ hi
  ·exact List.mem_append_left _ hi
  ·rename_i x;exact absurd (.inl ⟨x,rfl⟩) a1
  ·simp_all
  ·simp_all
  ·simp_all
  ·exact hi
 have key:∀x∈op.operands.toList,∀i∈ids (ev s x),h i=h' i:=fun x M i hi=>a3 i (fV M i hi)
 cases op with
 | move x=>simp only[im,v x (by simp[Op.operands])]
 | assign x=>simp only[im,v x (by simp[Op.operands])]
 | pick c x y =>
  have e:∀b:Bool,ev s (if b=true then x else y)=ev L (if b=true then x else y):=fun b=>by
   cases b
   ·exact v y (by simp[Op.operands])
   ·exact v x (by simp[Op.operands])
  simp only[im,AG,v c (by simp[Op.operands]),e,v x (by simp[Op.operands]),v y (by simp[Op.operands])]
 | alloc t=>rfl
 | box t x=>simp only[im,v x (by simp[Op.operands])]
 | build t ps =>
  simp only[im];have e:ps.toList.map (fun p=>ev s p.2)=ps.toList.map (fun p=>ev L p.2):=List.map_congr_left (fun p B=>v p.2 (by simp only[Op.operands,List.mem_map];exact⟨p,B,rfl⟩));rw[e]
 | buildSlice t len ps =>
  simp only[im];have e:ps.toList.map (fun p=>ev s p.2)=ps.toList.map (fun p=>ev L p.2):=List.map_congr_left (fun p B=>v p.2 (by simp only[Op.operands,List.mem_map];exact⟨p,B,rfl⟩));rw[←e];unfold m5;cases iH tb t with
  | none=>rfl
  | some q =>
   obtain⟨e,te,A⟩:=q;simp only;split
   ·rw[xV (A:=A) (fun i hi=>by
     obtain⟨y,E,hi⟩:=cO.1 hi;obtain⟨p,B,rfl⟩:=List.mem_map.1 E;exact key p.2 (by simp only[Op.operands,List.mem_map];exact⟨p,B,rfl⟩) i hi)]
   ·rfl
 | load t x =>
  simp only[im,←v x (by simp[Op.operands])];have M:=key x (by simp[Op.operands]);have e2:∀ti,mD new ti (ev s x) h=mD new ti (ev s x) h':=fun ti=>yO M (fun i hi e e2 A a4 k j hm=>hh j (yp (fV (by simp[Op.operands]) i hi) hm))
  unfold Bb;simp only[yz M,xh M,e2]
 | store t x y =>
  simp only[im,←v x (by simp[Op.operands]),←v y (by simp[Op.operands])];exact wP (key x (by simp[Op.operands])) (key y (by simp[Op.operands])) (fun i hi e e2 A a4 k j hm=>hh j (yp (fV (by simp[Op.operands]) i hi) hm))
 | binOp o t x y t'=>simp only[im,v x (by simp[Op.operands]),v y (by simp[Op.operands])]
 | unOp o t x=>simp only[im,v x (by simp[Op.operands])]
 | nilCheck x=>simp only[im,v x (by simp[Op.operands])]
 | convert st dt x =>
  simp only[im,←v x (by simp[Op.operands])];cases jg with
  | some _=>rfl
  | none=>?_
  simp only;unfold Aw;cases tb.find st with
  | none=>rfl
  | some si =>
   cases tb.find dt with
   | none=>rfl
   | some di =>
    simp only;cases JL tb di.k (ev s x)with
    | some r=>rfl
    | none=>simp only[Eh (s:=si.k) (d:=di.k) (key x (by simp[Op.operands]))]
 | slice t x Y hi mx =>
  cases mx with
  | some mo =>
   cases hi with
   | none=>rfl
   | some a5 =>
    have e1:qL s Y=qL L Y:=by
     cases Y with
     | none=>rfl
     | some y=>simp only[qL,v y (by simp[Op.operands])]
    simp only[im,←v x (by simp[Op.operands]),←v a5 (by simp[Op.operands]),←v mo (by simp[Op.operands]),←e1];have M:=key x (by simp[Op.operands]);cases jg with
    | some _ =>
     simp only;unfold Ek;rw[oB M]
    | none=>?_
    simp only;unfold uv;split
    ·grind (splits:=6) (ematch:=4) [ids]
    ·rfl
  | none =>
   have e1:qL s Y=qL L Y:=by
    cases Y with
    | none=>rfl
    | some y=>simp only[qL,v y (by simp[Op.operands])]
   have e2:qL s hi=qL L hi:=by
    cases hi with
    | none=>rfl
    | some y=>simp only[qL,v y (by simp[Op.operands])]
   simp only[im,←v x (by simp[Op.operands]),←e1,←e2];exact wD (key x (by simp[Op.operands]))
 | fieldAddr t x f=>simp only[im,v x (by simp[Op.operands])]
 | indexAddr t x i =>
  simp only[im,←v x (by simp[Op.operands]),←v i (by simp[Op.operands])];simp only[vN (key x (by simp[Op.operands])),rJ (key x (by simp[Op.operands]))]
 | index t x i=>simp only[im,v x (by simp[Op.operands]),v i (by simp[Op.operands])]
 | extract x i=>simp only[im,v x (by simp[Op.operands])]
 | typeAssert x xt t ok=>simp only[im,v x (by simp[Op.operands])]
 | makeFunc f fs Z =>
  simp only[im];rw[List.map_congr_left (f:=ev s) (g:=ev L) (fun p B=>v p (by simp only[Op.operands,Array.toList_append,List.mem_append];exact .inr B))]
 | makeSlice t l c=>simp only[im,v l (by simp[Op.operands]),v c (by simp[Op.operands])]
 | call c =>
  obtain⟨callee,args,C⟩:=c;have z:∀x∈args.toList,x∈(Op.call { callee,args,argTypes:=C }).operands.toList:=fun x M=>by simp only[Op.operands,Call.operands,Array.toList_append,List.mem_append];exact .inr M
  have e:args.toList.map (ev s)=args.toList.map (ev L):=List.map_congr_left (fun p B=>v p (z p B));have hk:∀y∈args.toList.map (ev s),∀i∈ids y,h i=h' i:=fun y E i hi=>by
   grind
  have hc:=DU (h':=h') (xs:=fP s (Op.call { callee,args,argTypes:=C })) hh;simp only[im,qq];cases callee with
  | builtin b =>
   simp only[←e];unfold rv;split
   ·rename_i y t ey et;split
    ·unfold uH;split
     ·split
      ·rename_i id _ _;rw[hk (.mp id) (by rw[ey];simp) id (by simp[ids])]
      ·rfl
     ·rfl
    ·grind (splits:=6) (ematch:=4) [Fh,CK]
   ·rfl
   ·rfl
   ·grind (splits:=6) (ematch:=4) [vV]
   ·grind (splits:=6) (ematch:=4) [yI]
   ·rfl
  | value f =>
   have hf:f∈(Op.call { callee:= .value f,args,argTypes:=C }).operands.toList:=by simp[Op.operands,Call.operands]
   simp only[←e,←v f hf];generalize a6:il tb (KP jg) C.toList (args.toList.map (ev s))=xs;have O:∀i∈bA xs,i∈bA (args.toList.map (ev s)):=fun i hi=>by rw[←a6,oN]at hi;exact hi
   unfold we;split
   ·rename_i fid a2 q ef;have hin:∀i∈bA (Cx (ev s f)::xs),i∈bA (fP s (Op.call { callee:= .value f,args,argTypes:=C })):=fun i hi=>by
     simp only[bA,List.mem_append]at hi;rcases hi with hi | hi
     ·exact fV hf i (BD i hi)
     ·obtain⟨y,E,D⟩:=cO.1 (O i hi);obtain⟨p,B,rfl⟩:=List.mem_map.1 E;exact fV (z p B) i D
    rw[rM (bs:=q.fl) (h:=h) (h':=h') (fun i hi=>by
     obtain⟨y,E,D⟩:=cO.1 (O i hi);exact hk y E i D)]
    cases a7:frzL h' q.fl xs with
    | none=>rfl
    | some p =>
     obtain⟨ys,u⟩:=p;obtain⟨z1,z2⟩:=Ah a7;have N:Mn (apply u h) (apply u h') (bA (ys++a2)):=fun i hi=>by
      have V:i∈bA (fP s (Op.call { callee:= .value f,args,argTypes:=C })):=by
       obtain⟨y,E,D⟩:=cO.1 hi;rcases List.mem_append.1 E with E | E
       ·obtain⟨y2,a8,V⟩:=cO.1 (O i (z2 i (cO.2 ⟨y,E,D⟩)));obtain⟨p,B,rfl⟩:=List.mem_map.1 a8;exact fV (z p B) i V
       ·refine fV hf i (BD i ?_);rw[ef];simp only[ids];exact cO.2 ⟨y,E,D⟩
      obtain⟨c1,c2⟩:=hc i V;exact⟨gO c1 u,fun Z I j hj=>gO (c2 Z (AX z1 I) j hj) u⟩
     simp only;split
     ·have J:ym h (Cx (ev s f)::xs)=ym h' (Cx (ev s f)::xs):=by
       grind (splits:=6) (ematch:=4) [ym,xI]
      rw[J];split
      ·rename_i hg;have a9:∀i∈q.g,h i=h' i:=fun i hi=>by
        have:=List.all_eq_true.1 hg i hi;rw[←J]at this;simp only[List.contains_eq_mem,decide_eq_true_eq]at this;unfold ym at this;rcases List.mem_append.1 this with h1 | h1
        ·exact(hc i (hin i h1)).1
        ·obtain⟨j,hj,X⟩:=List.mem_flatMap.1 h1;split at X
         ·rename_i Z I;exact(hc j (hin j hj)).2 Z I i X
         ·cases X
       rw[Cw (g:=q.g) (h:=apply u h) (h':=apply u h') (fun i hi=>gO (a9 i hi) u),
        u9 (g:=q.g) (h:=less q.g (apply u h)) (h':=less q.g (apply u h')) (fun i hi=>⟨xS (N i hi).1,fun Z I j hj=>xS ((N i hi).2 Z (tT I).1 j hj)⟩)]
      ·rfl
     ·grind (splits:=6) (ematch:=4) [qa,apply]
   ·rfl
  | invoke r m=>rfl
 | makeMap t r=>cases r <;> rfl
 | lookup t x k ok =>
  simp only[im,←v x (by simp[Op.operands]),←v k (by simp[Op.operands])];rw[vQ (key x (by simp[Op.operands])),uj (key x (by simp[Op.operands]))]
 | mapUpdate t x k y =>
  simp only[im,←v x (by simp[Op.operands]),←v k (by simp[Op.operands]),←v y (by simp[Op.operands])];rw[lL (key x (by simp[Op.operands])) (key y (by simp[Op.operands])),kU (key x (by simp[Op.operands]))]
 | insert t x k y =>
  simp only[im,←v x (by simp[Op.operands]),←v k (by simp[Op.operands]),←v y (by simp[Op.operands])];rw[lL (key x (by simp[Op.operands])) (key y (by simp[Op.operands])),kU (key x (by simp[Op.operands]))]
 | _=>rfl
theorem zu{P:Program}{tb:bQ}{new:Nat}{asm:Option Bool}{jg:Option yt}{op:Op}{s u:Nat→ag}{h h':Nat→Qz}
  (v:∀x∈op.operands.toList,ev s x=ev u x) (z:∀i∈kA h op (fP s op),h i=h' i):GK P tb new asm jg op s h=GK P tb new asm jg op u h':=by
 have key:∀x∈op.operands.toList,(¬((∃x,op = .move x)∨(∃x,op = .assign x)∨(∃x,op = .nilCheck x)∨∃t x f,op = .fieldAddr t x f))→∀i∈ids (ev s x),h i=h' i:=fun x q B i hi=>by
  have j:=fV q i hi;refine z i ?_;unfold kA;split
  ·exact List.mem_append_left _ j
  ·exact List.mem_append_left _ j
  ·exact List.mem_append_left _ j
  ·rename_i x;exact absurd (.inl ⟨x,rfl⟩) B
  ·simp_all
  ·simp_all
  ·simp_all
  ·exact j
 have E:qJ tb new jg.isSome op s h=qJ tb new jg.isSome op u h':=Ep v key;have I:jE P tb new jg op s h=jE P tb new jg op u h':=Fi v key (fun c C L J=>by
  subst C;have D:=DU (h':=h') (xs:=fP s (Op.call c)) z;refine qa fun i hi=>?_
  obtain⟨x,q,hi⟩:=J i hi;exact D i (fV q i hi)) (fun c C A x q=>by
  subst C;exact mZ (fun i hi=>key x q (by rintro(⟨_,e⟩ | ⟨_,e⟩ | ⟨_,e⟩ | ⟨_,_,_,e⟩) <;> cases e) i hi))
 unfold GK;rw[E,I,Ee v z]
end Go.Tv
