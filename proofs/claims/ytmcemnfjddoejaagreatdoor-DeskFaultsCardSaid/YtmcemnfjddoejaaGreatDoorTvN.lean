import Derived.Test.YtmcemnfjddoejaaGreatDoorTvM
namespace Go.Tv
open Go Go.RowKit
theorem gE{h h':Nat→Qz}{i:Nat}(e:h i=h' i):∀(u:hD),apply u h i=apply u h' i:=fun u=>by
 induction u generalizing h h' with
 | nil=>exact e
 | cons p u q =>
  obtain⟨j,o⟩:=p;simp only[apply];refine q ?_;by_cases c:i=j
  ·subst c;rw[ao,ao]
  ·rw[aD _ _ c,aD _ _ c];exact e
section
variable{h h':Nat→Qz}
theorem nW{x:ag}(c:∀i∈ids x,h i=h' i):gf h x=gf h' x:=by
 cases x <;> try rfl
 rename_i id;simp only[gf,c id (by simp[ids])]
theorem pB:∀ {xs:List ag} {h h':Nat→Qz},(∀i∈bA xs,h i=h' i)→qN h xs=qN h' xs
 | [],_,_,_=>rfl
 | x::xs,h,h',c=>by
  simp only[qN,nW (x:=x) (fun i hi=>c i (by simp[bA,hi]))];cases hd:gf h' x with
  | none=>rfl
  | some p =>
   obtain⟨y,u⟩:=p;simp only[pB (xs:=xs) (h:=apply u h) (h':=apply u h') (fun i hi=>gE (c i (by simp[bA,hi])) u)]
theorem Dy(c e:List ag):bA (c++e)=bA c++bA e:=by
 induction c with
 | nil=>rfl
 | cons x c f=>simp only[List.cons_append,bA,f,List.append_assoc]
theorem zA(k:IntKind)(l:QK):bA (l.map fun i=>ag.p false (.int k) i)=[]:=by
 induction l with
 | nil=>rfl
 | cons x e c=>simp only[List.map_cons,bA,ids,c,List.append_nil]
theorem vu{x:ag}:bA (cellsOf x)=ids x:=by
 cases x with
 | lag k n xs c =>
  simp only[cellsOf,ids];rw[Dy];have:=zA k xs.1;exact(congrArg (· ++ bA c) this).trans (List.nil_append _)
 | _=>simp[cellsOf,bA,ids]
theorem Er{T:Ty}{x:ag}(c:∀i∈ids x,h i=h' i):GI T h x=GI T h' x:=by
 unfold GI;rw[pB (xs:=cellsOf x) (by rw[vu];exact c)]
theorem ue{T:Ty}{x:ag}(c:∀i∈ids x,h i=h' i):HA T h x=HA T h' x:=by
 unfold HA;split
 ·rename_i id i sz off;rw[c id (by simp[ids])]
 ·rfl
 ·exact Er c
theorem xI{A:Ty}:∀ {xs:List ag} {h h':Nat→Qz},(∀i∈bA xs,h i=h' i)→BP A h xs=BP A h' xs
 | [],_,_,_=>rfl
 | x::xs,h,h',c=>by
  simp only[BP,ue (x:=x) (T:=A) (fun i hi=>c i (by simp[bA,hi]))];cases hd:HA A h' x with
  | none=>rfl
  | some p =>
   obtain⟨y,u⟩:=p;simp only[xI (xs:=xs) (h:=apply u h) (h':=apply u h') (fun i hi=>gE (c i (by simp[bA,hi])) u)]
theorem zw{x:ag}(c:∀i∈ids x,h i=h' i):kN h x=kN h' x:=by
 unfold kN;split <;> first
  | rfl
  | (rename_i id;rw[c id (by simp[ids])])
  | (rename_i id i sz off;rw[c id (by simp[ids])])
theorem Ci{x:ag}{i:Int}(c:∀i∈ids x,h i=h' i):zG h x i=zG h' x i:=by
 unfold zG;split <;> first
  | rfl
  | (rename_i id;rw[c id (by simp[ids])])
  | (rename_i id i sz off;rw[c id (by simp[ids])])
theorem C1{x:ag}(c:∀i∈ids x,h i=h' i):lenOf h x=lenOf h' x:=by
 unfold lenOf;split <;> first
  | rfl
  | (rename_i id;rw[c id (by simp[ids])])
  | (rename_i id i sz off;rw[c id (by simp[ids])])
theorem Ep{s d:TK}{x:ag}(c:∀i∈ids x,h i=h' i):conv s d h x=conv s d h' x:=by
 unfold conv
 split <;> first
  | rfl
  | (rename_i id;rw[c id (by simp[ids])])
  | (rename_i id i sz off;rw[c id (by simp[ids])])
theorem mM{A:Ty}{x:ag}(c:∀i∈ids x,h i=h' i):eT h A x=eT h' A x:=by
 unfold eT;split <;> first
  | rfl
  | (rename_i id;rw[c id (by simp[ids])])
  | (rename_i id i sz off;rw[c id (by simp[ids])])
theorem xb(β:Bool):∀(T:Ty) (x:T.den),bA (flat β T x)=[]
 | .unit,_=>rfl
 | .prod a b,x=>by
  have e:=xb β a x.1;have f:=xb β b x.2;apply List.eq_nil_iff_forall_not_mem.2;intro i hi;simp only[flat,cH,List.mem_append]at hi;obtain⟨y,c,hi⟩:=hi;rcases c with c | c
  ·have:i∈bA (flat β a x.1):=cH.2 ⟨y,c,hi⟩;rw[e]at this;cases this
  ·have:i∈bA (flat β b x.2):=cH.2 ⟨y,c,hi⟩;rw[f]at this;cases this
 | .int _,_=>rfl
 | .bool,_=>rfl
 | .str,_=>rfl
 | .flt,_=>rfl
 | .slice _,_=>rfl
 | .ptr _,_=>rfl
 | .tree _ _,_=>rfl
 | .arr k _,x=>zA k x.1
 | .mapi _ _,_=>rfl
theorem LB{e new:List ag}{p i:Nat}(hi:i∈bA (wr e p new)):i∈bA e∨i∈bA new:=by
 obtain⟨y,c,hi⟩:=cH.1 hi;simp only[wr,List.mem_append]at c;rcases c with(c | c) | c
 ·exact .inl (cH.2 ⟨y,List.mem_of_mem_take c,hi⟩)
 ·exact .inr (cH.2 ⟨y,c,hi⟩)
 ·exact .inl (cH.2 ⟨y,List.mem_of_mem_drop c,hi⟩)
theorem Dd{A:Ty}{xs:List A.den}{i off:Nat}{y:ag}(p:∀i∈ids y,h i=h' i):CW A h xs i off y=CW A h' xs i off y:=by
 unfold CW;refine ue fun j f=>?_
 simp only[ids]at f;rcases LB f with c | c
 ·rw[xb]at c;cases c
 ·rw[vu]at c;exact p j c
theorem vd{x:ag}(c:∀i∈ids x,h i=h' i):wT h x=wT h' x:=by
 cases x <;> try rfl
 rename_i id;simp only[wT,c id (by simp[ids])]
theorem oJ:∀ {xs:List ag},(∀i∈bA xs,h i=h' i)→qd h xs=qd h' xs
 | [],_=>rfl
 | x::xs,c=>by
  simp only[qd,vd (x:=x) (fun i hi=>c i (by simp[bA,hi])),oJ (xs:=xs) (fun i hi=>c i (by simp[bA,hi]))]
def Lw(h h':Nat→Qz)(I:QV):Prop:=∀i∈I,h i=h' i∧∀c,h i=some (.box c)→∀j∈bA c,h j=h' j
theorem uY{x:ag}(e:Lw h h' (ids x)):sG h x=sG h' x:=by
 have f:∀i∈ids x,h i=h' i:=fun i hi=>(e i hi).1
 cases x <;> try rfl
 ·simp only[sG,vd f]
 ·rename_i id i sz off;simp only[sG];have j:=e id (by simp[ids]);rw[←j.1];cases p:h id with
  | none=>rfl
  | some ob =>
   cases ob with
   | box c=>simp only[oJ (xs:=c) (h:=h) (h':=h') (j.2 c p)]
   | arr _ _ _=>rfl
   | fz _ _=>rfl
   | mpo _ _ _=>rfl
   | mpl _ _=>rfl
   | bytes _ _=>rfl
   | cutz _ _=>rfl
   | lmp _ _ _ _=>rfl
   | vrow _ _ _=>rfl
   | mat _ _ _ _ _=>rfl
   | nds _ _ _ _=>rfl
   | mpq _ _=>rfl
 ·rename_i c;simp only[sG];rw[oJ (xs:=c) (h:=h) (h':=h') (fun i hi=>f i (by simpa [ids]using hi))]
theorem rW:∀ {xs:List ag},Lw h h' (bA xs)→ra h xs=ra h' xs
 | [],_=>rfl
 | x::xs,c=>by
  simp only[ra,uY (x:=x) (fun i hi=>c i (by simp[bA,hi])),rW (xs:=xs) (fun i hi=>c i (by simp[bA,hi]))]
theorem xP{x:ag}(c:Lw h h' (ids x)):BO h x=BO h' x:=by
 cases x <;> try (simp only[BO];exact uY c)
 rename_i f e;simp only[BO];rw[rW (xs:=e) (h:=h) (h':=h') (fun i hi=>c i (by simpa [ids]using hi))]
theorem p9:∀ {xs:List ag},Lw h h' (bA xs)→o5 h xs=o5 h' xs
 | [],_=>rfl
 | x::xs,c=>by
  simp only[o5,xP (x:=x) (fun i hi=>c i (by simp[bA,hi])),p9 (xs:=xs) (fun i hi=>c i (by simp[bA,hi]))]
theorem xf{g:QV}{i:Nat}(e:h i=h' i):less g h i=less g h' i:=by
 unfold less;split
 ·rfl
 ·exact e
theorem xY{α β:Type}{l:List α}{f c:α→List β}(e:∀x∈l,f x=c x):l.flatMap f=l.flatMap c:=by
 induction l with
 | nil=>rfl
 | cons x l j=>simp only[List.flatMap_cons,e x (by simp),j (fun y p=>e y (by simp[p]))]
theorem uZ{g:QV}:∀ {xs:List ag},Lw h h' (bA xs)→sn g h xs=sn g h' xs
 | [],_=>rfl
 | x::xs,c=>by
  have e:zO g h x=zO g h' x:=by unfold zO;rw[xP (x:=x) (fun i hi=>c i (by simp[bA,hi]))]
  simp only[sn,e,uZ (xs:=xs) (fun i hi=>c i (by simp[bA,hi]))]
theorem DM{g:QV}{h h':Nat→Qz}(c:∀i∈g,h i=h' i):jW g h 0 g=jW g h' 0 g:=by
 have key:∀(l:QV) (k:Nat),(∀i∈l,i∈g)→jW g h k l=jW g h' k l:=fun l=>by
  induction l with
  | nil=>intro k _;rfl
  | cons x l e =>intro k hl;simp only[jW,c x (hl x (by simp)),e (k+1) (fun i hi=>hl i (by simp[hi]))]
 exact key g 0 fun _ h=>h
theorem EZ{x:ag}(c:∀i∈ids x,h i=h' i):yJ h x=yJ h' x:=by
 cases x <;> try (simp only[yJ];exact nW c)
 rename_i e;simp only[yJ];rw[pB (xs:=e) (h:=h) (h':=h') (fun i hi=>c i (by simpa [ids]using hi))]
theorem ry:∀ {bs:List Bool} {xs:List ag} {h h':Nat→Qz},(∀i∈bA xs,h i=h' i)→frzL h bs xs=frzL h' bs xs
 | _,[],_,_,_=>by simp only[frzL]
 | [],_::_,_,_,_=>rfl
 | false::bs,x::xs,h,h',c=>by
  simp only[frzL,ry (bs:=bs) (xs:=xs) (h:=h) (h':=h') (fun i hi=>c i (by simp[bA,hi]))]
 | true::bs,x::xs,h,h',c=>by
  simp only[frzL,EZ (x:=x) (h:=h) (h':=h') (fun i hi=>c i (by simp[bA,hi]))];cases yJ h' x with
  | none=>rfl
  | some p =>
   obtain⟨y,u⟩:=p;simp only[ry (bs:=bs) (xs:=xs) (h:=apply u h) (h':=apply u h') (fun i hi=>gE (c i (by simp[bA,hi])) u)]
def rV(u:hD):Prop:=∀p∈u,∃A c,p.2=some (.fz A c)
theorem rV.append{u v:hD}(hu:rV u)(e:rV v):rV (u++v):=fun p j=>(List.mem_append.1 j).elim (hu p) (e p)
theorem zy{x y:ag}{u:hD}(hd:gf h x=some (y,u)):rV u∧∀i∈ids y,i∈ids x:=by
 unfold gf at hd;split at hd
 ·split at hd
  ·cases hd;exact⟨fun p c=>by simp at c;subst c;exact⟨_,_,rfl⟩,fun i hi=>by simp[ids]at hi⟩
  ·cases hd;exact⟨fun p c=>by simp at c,fun i hi=>by simp[ids]at hi⟩
  ·cases hd;exact⟨fun p c=>by simp at c;subst c;exact⟨_,_,rfl⟩,fun i hi=>by simp[ids]at hi⟩
  ·cases hd;exact⟨fun p c=>by simp at c;subst c;exact⟨_,_,rfl⟩,fun i hi=>by simp[ids]at hi⟩
  ·cases hd;exact⟨fun p c=>by simp at c;subst c;exact⟨_,_,rfl⟩,fun i hi=>by simp[ids]at hi⟩
  ·cases hd
 ·cases hd;exact⟨fun p c=>by simp at c,fun i hi=>hi⟩
theorem Ds:∀ {e c:List ag} {h:Nat→Qz} {u:hD},qN h e=some (c,u)→rV u∧∀i∈bA c,i∈bA e
 | [],c,h,u,hd=>by cases hd;exact⟨fun p f=>by simp at f,fun i hi=>hi⟩
 | x::e,c,h,u,hd=>by
  simp only[qN]at hd;split at hd
  ·rename_i y D j;split at hd
   ·rename_i q E v;cases hd;obtain⟨z,A⟩:=zy j;obtain⟨B,C⟩:=Ds v;refine⟨z.append B,fun i hi=>?_⟩;simp only[bA,List.mem_append]at hi ⊢;exact hi.imp (A i) (C i)
   ·cases hd
  ·cases hd
theorem KE{x y:ag}{u:hD}(hd:yJ h x=some (y,u)):rV u∧∀i∈ids y,i∈ids x:=by
 unfold yJ at hd;split at hd
 ·split at hd
  ·rename_i j p c;cases hd;obtain⟨e,f⟩:=Ds c;exact⟨e,fun i hi=>by simp only[ids]at hi ⊢;exact f i hi⟩
  ·cases hd
 ·exact zy hd
theorem Ax:∀ {bs:List Bool} {xs c:List ag} {h:Nat→Qz} {u:hD},frzL h bs xs=some (c,u)→rV u∧∀i∈bA c,i∈bA xs
 | _,[],c,h,u,hd=>by simp only[frzL]at hd;cases hd;exact⟨fun p e=>by simp at e,fun i hi=>hi⟩
 | [],_::_,c,h,u,hd=>by simp only[frzL]at hd;cases hd;exact⟨fun p e=>by simp at e,fun i hi=>hi⟩
 | false::bs,x::xs,c,h,u,hd=>by
  simp only[frzL]at hd;split at hd
  ·rename_i j E q;cases hd;obtain⟨v,z⟩:=Ax q;refine⟨v,fun i hi=>?_⟩;simp only[bA,List.mem_append]at hi ⊢;exact hi.imp (fun h=>h) (z i)
  ·cases hd
 | true::bs,x::xs,c,h,u,hd=>by
  simp only[frzL]at hd;split at hd
  ·rename_i y I q;split at hd
   ·rename_i j J B;cases hd;obtain⟨v,z⟩:=KE q;obtain⟨C,D⟩:=Ax B;refine⟨v.append C,fun i hi=>?_⟩;simp only[bA,List.mem_append]at hi ⊢;exact hi.imp (z i) (D i)
   ·cases hd
  ·cases hd
theorem Bb{u:hD}(hu:rV u){i:Nat}{x:List ag}:∀ {h:Nat→Qz},apply u h i=some (.box x)→h i=some (.box x):=by
 induction u with
 | nil=>intro h hb;exact hb
 | cons p u z =>
  intro h hb;obtain⟨j,o⟩:=p;have c:=z (fun q B=>hu q (by simp[B])) hb;by_cases e:i=j
  ·subst e;rw[ao]at c;obtain⟨A,xs,v⟩:=hu (i,o) (by simp);simp only at v;rw[c]at v;cases v
  ·rw[aD _ _ e]at c;exact c
theorem Cf{xs:List ag}(c:∀i∈wP h xs,h i=h' i):Lw h h' (bA xs):=fun i hi =>
 ⟨c i (List.mem_append_left _ hi),fun q e j p=>c j (List.mem_append_right _ (List.mem_flatMap.2 ⟨i,hi,by rw[e];exact p⟩))⟩
theorem xd{tb:bP}{new:Nat}{t:TypeId}{x:ag}{c hi:Option (Option Int)}(e:∀i∈ids x,h i=h' i):pH tb new t x c hi h=pH tb new t x c hi h':=by
 unfold pH;split
 ·split
  ·split <;> first
    | rfl
    | (rename_i id;rw[e id (by simp[ids])])
  ·rfl
 ·rfl
theorem yH{new:Nat}{ti:TI}{x:ag}(u:∀i∈ids x,h i=h' i)(v:∀i∈ids x,∀e q A c k j,h i=some (.mat e q A c (some (k,j)))→h j=h' j):mE new ti x h=mE new ti x h':=by
 unfold mE;cases x <;> try rfl
 rename_i id i sz off;simp only;have z:=u id (by simp[ids]);have q:=v id (by simp[ids]);rw[←z];cases B:h id with
 | none=>rfl
 | some ob =>
  cases ob with
  | mat e C A c hole =>
   cases hole with
   | none=>rfl
   | some p =>
    obtain⟨k,j⟩:=p;simp only[q _ _ _ _ _ _ B]
  | _=>rfl
theorem xn{ti:TI}{x:ag}(e:∀i∈ids x,h i=h' i):nm ti x h=nm ti x h':=by
 unfold nm;split
 ·rename_i id b n i k _;have c:=e id (by simp[ids]);rw[c]
 ·rfl
theorem vO{ti:TI}{x y:ag}(f:∀i∈ids x,h i=h' i):kV ti x y h=kV ti x y h':=by
 unfold kV;split
 ·rename_i id b n i _ k v;have c:=f id (by simp[ids]);rw[c]
 ·rfl
theorem vW{tb:bP}{t:TypeId}{x i:ag}(c:∀i∈ids x,h i=h' i):kX tb t x i h=kX tb t x i h':=by
 unfold kX;cases tb.find t with
 | none=>rfl
 | some ti =>
  simp only;split
  ·split
   ·split
    ·split
     ·rename_i id j sz off _ _ _;rw[c id (by simp[ids])]
     ·rfl
     ·rfl
    ·split
     ·split
      ·rename_i id j sz off _ _ _;rw[c id (by simp[ids])]
      ·rfl
     ·rfl
   ·rfl
  ·rfl
theorem rm{tb:bP}{t:TypeId}{x i:ag}(c:∀i∈ids x,h i=h' i):iT tb t x i h=iT tb t x i h':=by
 unfold iT;cases ib tb t with
 | none=>rfl
 | some q =>
  simp only;split
  ·rw[Ci c]
  ·rfl
theorem vV{P:Program}{tb:bP}{t:TypeId}{x k:ag}{ok:Bool}(c:∀i∈ids x,h i=h' i):mZ P tb t x k ok h=mZ P tb t x k ok h':=by
 unfold mZ;split
 ·split
  ·rename_i id;rw[c id (by simp[ids])]
  ·rfl
 ·rfl
theorem ux{P:Program}{tb:bP}{t:TypeId}{g:QV}{x k:ag}{ok:Bool}(c:∀i∈ids x,h i=h' i):lW P tb t g x k ok h=lW P tb t g x k ok h':=by
 unfold lW;split
 ·split
  ·rename_i id;rw[c id (by simp[ids])]
  ·rfl
 ·rfl
theorem lq{P:Program}{tb:bP}{t:TypeId}{x k y:ag}(c:∀i∈ids x,h i=h' i)(e:∀i∈ids y,h i=h' i):fN P tb t x k y h=fN P tb t x k y h':=by
 unfold fN;split
 ·split
  ·rename_i id;rw[c id (by simp[ids])];split
   ·split
    ·split
     ·rw[ue e]
     ·rfl
    ·rfl
   ·rfl
  ·rfl
 ·rfl
theorem kz{P:Program}{tb:bP}{t:TypeId}{x k y:ag}(c:∀i∈ids x,h i=h' i):eW P tb t x k y h=eW P tb t x k y h':=by
 unfold eW;split
 ·split
  ·rename_i id;rw[c id (by simp[ids])]
  ·rfl
 ·rfl
theorem A7{id i:Nat}{e e2:TypeId}{A:Ty}{xss:List (List A.den)}{hole:Option (Nat×Nat)}{y:ag}(c:∀i∈ids y,h i=h' i)(f:∀k j,hole=some (k,j)→h j=h' j):uH id i e e2 A xss hole y h=uH id i e e2 A xss hole y h':=by
 unfold uH;cases y <;> try rfl
 rename_i r;simp only;rw[←c r (by simp[ids])];cases h r with
 | none=>rfl
 | some ob =>
  cases ob with
  | arr q B u =>
   cases hole with
   | none=>rfl
   | some p =>
    obtain⟨k,j⟩:=p;simp only[f k j rfl]
  | _=>rfl
theorem yv{tb:bP}{t:TypeId}{x y:ag}(q:∀i∈ids x,h i=h' i)(u:∀i∈ids y,h i=h' i)(v:∀i∈ids x,∀e e2 A xss k j,h i=some (.mat e e2 A xss (some (k,j)))→h j=h' j):pt tb t x y h=pt tb t x y h':=by
 unfold pt;cases tb.find t with
 | none=>rfl
 | some ti =>
  simp only;split
  ·cases x <;> try rfl
   case ada=>exact vO q
   rename_i id i sz off;simp only;have c:=q id (by simp[ids]);have p:=v id (by simp[ids]);rw[←c];cases z:h id with
   | none=>rfl
   | some ob =>
    cases ob with
    | arr e A xs=>simp only[Dd (A:=A) (xs:=xs) (i:=i) (off:=off) u]
    | fz _ _=>rfl
    | box _=>rfl
    | mpo _ _ _=>rfl
    | mpl _ _=>rfl
    | bytes _ _=>rfl
    | cutz _ _=>rfl
    | lmp _ _ _ _=>rfl
    | vrow _ _ _=>rfl
    | nds _ _ _ _=>rfl
    | mpq _ _=>rfl
    | mat e e2 A xss hole=>simp only[A7 (id:=id) (i:=i) (e:=e) (e2:=e2) (A:=A) (xss:=xss) (hole:=hole) u (fun k j B=>p e e2 A xss k j (by rw[z,B]))]
  ·rfl
theorem vN{tb:bP}{new:Nat}{t:TypeId}{x y:ag}(c:∀i∈ids x,h i=h' i)(j:∀i∈ids y,h i=h' i):nH tb new t x y h=nH tb new t x y h':=by
 unfold nH;cases ib tb t with
 | none=>rfl
 | some p =>
  obtain⟨e,q,A⟩:=p;simp only[mM (A:=A) j];cases eT h' A y with
  | none=>rfl
  | some u =>
   simp only;cases x <;> try rfl
   rename_i id;simp only;rw[c id (by simp[ids])]
theorem ze{tb:bP}{t:TypeId}{x y:ag}(c:∀i∈ids x,h i=h' i)(j:∀i∈ids y,h i=h' i):sL tb t x y h=sL tb t x y h':=by
 unfold sL;cases ib tb t with
 | none=>rfl
 | some p =>
  obtain⟨e,q,A⟩:=p;simp only[mM (A:=A) j];cases eT h' A y with
  | none=>rfl
  | some u =>
   simp only;cases x <;> try rfl
   rename_i id;simp only;rw[c id (by simp[ids])]
end
def fp(s:Nat→ag)(op:Op):List ag:=op.operands.toList.map (ev s)
theorem fK{s:Nat→ag}{op:Op}{x:Operand}(c:x∈op.operands.toList):∀i∈ids (ev s x),i∈bA (fp s op):=fun _ hi =>
 cH.2 ⟨ev s x,List.mem_map.2 ⟨x,c,rfl⟩,hi⟩
def xh(h:Nat→Qz)(c:List ag):QV :=
 bA c++(bA c).flatMap fun i=>match h i with
  | some (.mat _ _ _ _ (some (_,j)))=>[j]
  | _=>[]
theorem wD{h:Nat→Qz}{xs:List ag}{i:Nat}{e p:TypeId}{A:Ty}{c:List (List A.den)}{k j:Nat}(hi:i∈bA xs)(q:h i=some (.mat e p A c (some (k,j)))):j∈xh h xs :=
 List.mem_append_right _ (List.mem_flatMap.2 ⟨i,hi,by rw[q];exact .head _⟩)
def j9(h:Nat→Qz)(op:Op)(xs:List ag):QV :=
 match op with
 | .call _=>wP h xs
 | .load _ _=>xh h xs
 | .store _ _ _=>xh h xs
 | .move _=>[]
 | .assign _=>[]
 | .nilCheck _=>[]
 | .fieldAddr _ _ _=>[]
 | _=>bA xs
theorem Fg{P:Program}{tb:bP}{new:Nat}{asm:Option Bool}{iO:Option xQ}{op:Op}{s O:Nat→ag}{h h':Nat→Qz}
  (v:∀x∈op.operands.toList,ev s x=ev O x) (hh:∀i∈j9 h op (fp s op),h i=h' i):gV P tb new asm iO op s h=gV P tb new asm iO op O h':=by
 by_cases J:(∃x,op = .move x)∨(∃x,op = .assign x)∨(∃x,op = .nilCheck x)∨∃t x f,op = .fieldAddr t x f
 ·rcases J with⟨x,rfl⟩ | ⟨x,rfl⟩ | ⟨x,rfl⟩ | ⟨t,x,f,rfl⟩ <;> simp only[gV,v x (by simp[Op.operands])]
 have a3:∀i∈bA (fp s op),h i=h' i:=fun i hi=>by
  refine hh i ?_;unfold j9;split
  ·exact List.mem_append_left _ hi
  ·exact List.mem_append_left _ hi
  ·exact List.mem_append_left _ hi
  ·rename_i x;exact absurd (.inl ⟨x,rfl⟩) J
  ·rename_i x;exact absurd (.inr (.inl ⟨x,rfl⟩)) J
  ·rename_i x;exact absurd (.inr (.inr (.inl ⟨x,rfl⟩))) J
  ·rename_i t x f;exact absurd (.inr (.inr (.inr ⟨t,x,f,rfl⟩))) J
  ·exact hi
 have key:∀x∈op.operands.toList,∀i∈ids (ev s x),h i=h' i:=fun x V i hi=>a3 i (fK V i hi)
 cases op with
 | move x=>simp only[gV,v x (by simp[Op.operands])]
 | assign x=>simp only[gV,v x (by simp[Op.operands])]
 | pick c x y =>
  have e:∀b:Bool,ev s (if b=true then x else y)=ev O (if b=true then x else y):=fun b=>by
   cases b
   ·exact v y (by simp[Op.operands])
   ·exact v x (by simp[Op.operands])
  simp only[gV,Bo,v c (by simp[Op.operands]),e,v x (by simp[Op.operands]),v y (by simp[Op.operands])]
 | alloc t=>rfl
 | box t x=>simp only[gV,v x (by simp[Op.operands])]
 | build t ps =>
  simp only[gV];have e:ps.toList.map (fun p=>ev s p.2)=ps.toList.map (fun p=>ev O p.2):=List.map_congr_left (fun p C=>v p.2 (by simp only[Op.operands,List.mem_map];exact⟨p,C,rfl⟩));rw[e]
 | buildSlice t len ps =>
  simp only[gV];have e:ps.toList.map (fun p=>ev s p.2)=ps.toList.map (fun p=>ev O p.2):=List.map_congr_left (fun p C=>v p.2 (by simp only[Op.operands,List.mem_map];exact⟨p,C,rfl⟩));rw[←e];unfold mS;cases ib tb t with
  | none=>rfl
  | some q =>
   obtain⟨e,te,A⟩:=q;simp only;split
   ·rw[xI (A:=A) (fun i hi=>by
     obtain⟨y,D,hi⟩:=cH.1 hi;obtain⟨p,C,rfl⟩:=List.mem_map.1 D;exact key p.2 (by simp only[Op.operands,List.mem_map];exact⟨p,C,rfl⟩) i hi)]
   ·rfl
 | load t x =>
  simp only[gV,←v x (by simp[Op.operands])];have V:=key x (by simp[Op.operands]);have e2:∀ti,mE new ti (ev s x) h=mE new ti (ev s x) h':=fun ti=>yH V (fun i hi e e2 A a4 k j hm=>hh j (wD (fK (by simp[Op.operands]) i hi) hm))
  unfold AQ;simp only[zw V,xn V,e2]
 | store t x y =>
  simp only[gV,←v x (by simp[Op.operands]),←v y (by simp[Op.operands])];exact yv (key x (by simp[Op.operands])) (key y (by simp[Op.operands])) (fun i hi e e2 A a4 k j hm=>hh j (wD (fK (by simp[Op.operands]) i hi) hm))
 | binOp o t x y t'=>simp only[gV,v x (by simp[Op.operands]),v y (by simp[Op.operands])]
 | unOp o t x=>simp only[gV,v x (by simp[Op.operands])]
 | nilCheck x=>simp only[gV,v x (by simp[Op.operands])]
 | convert st dt x =>
  simp only[gV,←v x (by simp[Op.operands])];cases iO with
  | some _=>rfl
  | none=>?_
  simp only;unfold Ap;cases tb.find st with
  | none=>rfl
  | some si =>
   cases tb.find dt with
   | none=>rfl
   | some di =>
    simp only;cases I2 tb di.k (ev s x)with
    | some r=>rfl
    | none=>simp only[Ep (s:=si.k) (d:=di.k) (key x (by simp[Op.operands]))]
 | slice t x lo hi mx =>
  cases mx with
  | some mo =>
   cases hi with
   | none=>rfl
   | some a5 =>
    have e1:qA s lo=qA O lo:=by
     cases lo with
     | none=>rfl
     | some y=>simp only[qA,v y (by simp[Op.operands])]
    simp only[gV,←v x (by simp[Op.operands]),←v a5 (by simp[Op.operands]),←v mo (by simp[Op.operands]),←e1];have V:=key x (by simp[Op.operands]);cases iO with
    | some _ =>
     simp only;unfold Ez;rw[nW V]
    | none=>?_
    simp only;unfold uP;split
    ·split
     ·rfl
     ·rename_i id ex;rw[V id (by rw[ex];simp[ids])]
     ·rfl
    ·rfl
  | none =>
   have e1:qA s lo=qA O lo:=by
    cases lo with
    | none=>rfl
    | some y=>simp only[qA,v y (by simp[Op.operands])]
   have e2:qA s hi=qA O hi:=by
    cases hi with
    | none=>rfl
    | some y=>simp only[qA,v y (by simp[Op.operands])]
   simp only[gV,←v x (by simp[Op.operands]),←e1,←e2];exact xd (key x (by simp[Op.operands]))
 | fieldAddr t x f=>simp only[gV,v x (by simp[Op.operands])]
 | indexAddr t x i =>
  simp only[gV,←v x (by simp[Op.operands]),←v i (by simp[Op.operands])];simp only[vW (key x (by simp[Op.operands])),rm (key x (by simp[Op.operands]))]
 | index t x i=>simp only[gV,v x (by simp[Op.operands]),v i (by simp[Op.operands])]
 | extract x i=>simp only[gV,v x (by simp[Op.operands])]
 | typeAssert x xt t ok=>simp only[gV,v x (by simp[Op.operands])]
 | makeFunc f fs cs =>
  simp only[gV];rw[List.map_congr_left (f:=ev s) (g:=ev O) (fun p C=>v p (by simp only[Op.operands,Array.toList_append,List.mem_append];exact .inr C))]
 | makeSlice t l c=>simp only[gV,v l (by simp[Op.operands]),v c (by simp[Op.operands])]
 | call c =>
  obtain⟨callee,args,E⟩:=c;have B:∀x∈args.toList,x∈(Op.call { callee,args,argTypes:=E }).operands.toList:=fun x V=>by simp only[Op.operands,Call.operands,Array.toList_append,List.mem_append];exact .inr V
  have e:args.toList.map (ev s)=args.toList.map (ev O):=List.map_congr_left (fun p C=>v p (B p C));have hk:∀y∈args.toList.map (ev s),∀i∈ids y,h i=h' i:=fun y D i hi=>by obtain⟨p,C,rfl⟩:=List.mem_map.1 D;exact key p (B p C) i hi
  have hc:=Cf (h':=h') (xs:=fp s (Op.call { callee,args,argTypes:=E })) hh;simp only[gV,ql];cases callee with
  | builtin b =>
   simp only[←e];unfold ri;split
   ·rename_i y t X et;split
    ·unfold uL;split
     ·split
      ·rename_i id _ _;rw[hk (.mp id) (by rw[X];simp) id (by simp[ids])]
      ·rfl
     ·rfl
    ·unfold EC;rw[C1 (hk y (by rw[X];simp))]
   ·rfl
   ·rfl
   ·rename_i y z t t' X et;split
    ·exact vN (hk y (by rw[X];simp)) (hk z (by rw[X];simp))
    ·rfl
   ·rename_i y z t t' X et;exact ze (hk y (by rw[X];simp)) (hk z (by rw[X];simp))
   ·rfl
  | value f =>
   have hf:f∈(Op.call { callee:= .value f,args,argTypes:=E }).operands.toList:=by simp[Op.operands,Call.operands]
   simp only[←e,←v f hf];generalize a6:gY tb (Kq iO) E.toList (args.toList.map (ev s))=xs;have Y:∀i∈bA xs,i∈bA (args.toList.map (ev s)):=fun i hi=>by rw[←a6,oA]at hi;exact hi
   unfold wv;split
   ·rename_i fid a2 q ef;have hin:∀i∈bA (BJ (ev s f)::xs),i∈bA (fp s (Op.call { callee:= .value f,args,argTypes:=E })):=fun i hi=>by
     simp only[bA,List.mem_append]at hi;rcases hi with hi | hi
     ·exact fK hf i (Cd i hi)
     ·obtain⟨y,D,I⟩:=cH.1 (Y i hi);obtain⟨p,C,rfl⟩:=List.mem_map.1 D;exact fK (B p C) i I
    rw[ry (bs:=q.fl) (h:=h) (h':=h') (fun i hi=>by
     obtain⟨y,D,I⟩:=cH.1 (Y i hi);exact hk y D i I)]
    cases a7:frzL h' q.fl xs with
    | none=>rfl
    | some p =>
     obtain⟨ys,u⟩:=p;obtain⟨z1,z2⟩:=Ax a7;have L:Lw (apply u h) (apply u h') (bA (ys++a2)):=fun i hi=>by
      have Z:i∈bA (fp s (Op.call { callee:= .value f,args,argTypes:=E })):=by
       obtain⟨y,D,I⟩:=cH.1 hi;rcases List.mem_append.1 D with D | D
       ·obtain⟨y2,a8,Z⟩:=cH.1 (Y i (z2 i (cH.2 ⟨y,D,I⟩)));obtain⟨p,C,rfl⟩:=List.mem_map.1 a8;exact fK (B p C) i Z
       ·refine fK hf i (Cd i ?_);rw[ef];simp only[ids];exact cH.2 ⟨y,D,I⟩
      obtain⟨c1,c2⟩:=hc i Z;exact⟨gE c1 u,fun cs M j hj=>gE (c2 cs (Bb z1 M) j hj) u⟩
     simp only;split
     ·have N:wP h (BJ (ev s f)::xs)=wP h' (BJ (ev s f)::xs):=by
       unfold wP;congr 1;refine xY fun i hi=>?_
       rw[(hc i (hin i hi)).1]
      rw[N];split
      ·rename_i hg;have a9:∀i∈q.g,h i=h' i:=fun i hi=>by
        have:=List.all_eq_true.1 hg i hi;rw[←N]at this;simp only[List.contains_eq_mem,decide_eq_true_eq]at this;unfold wP at this;rcases List.mem_append.1 this with h1 | h1
        ·exact(hc i (hin i h1)).1
        ·obtain⟨j,hj,a1⟩:=List.mem_flatMap.1 h1;split at a1
         ·rename_i cs M;exact(hc j (hin j hj)).2 cs M i a1
         ·cases a1
       rw[DM (g:=q.g) (h:=apply u h) (h':=apply u h') (fun i hi=>gE (a9 i hi) u),
        uZ (g:=q.g) (h:=less q.g (apply u h)) (h':=less q.g (apply u h')) (fun i hi=>⟨xf (L i hi).1,fun cs M j hj=>xf ((L i hi).2 cs (tQ M).1 j hj)⟩)]
      ·rfl
     ·rw[p9 (h:=apply u h) (h':=apply u h') L]
   ·rfl
  | invoke r m=>rfl
 | makeMap t r=>cases r <;> rfl
 | lookup t x k ok =>
  simp only[gV,←v x (by simp[Op.operands]),←v k (by simp[Op.operands])];rw[vV (key x (by simp[Op.operands])),ux (key x (by simp[Op.operands]))]
 | mapUpdate t x k y =>
  simp only[gV,←v x (by simp[Op.operands]),←v k (by simp[Op.operands]),←v y (by simp[Op.operands])];rw[lq (key x (by simp[Op.operands])) (key y (by simp[Op.operands])),kz (key x (by simp[Op.operands]))]
 | insert t x k y =>
  simp only[gV,←v x (by simp[Op.operands]),←v k (by simp[Op.operands]),←v y (by simp[Op.operands])];rw[lq (key x (by simp[Op.operands])) (key y (by simp[Op.operands])),kz (key x (by simp[Op.operands]))]
 | _=>rfl
theorem zD{P:Program}{tb:bP}{new:Nat}{asm:Option Bool}{iO:Option xQ}{op:Op}{s u:Nat→ag}{h h':Nat→Qz}
  (v:∀x∈op.operands.toList,ev s x=ev u x) (z:∀i∈j9 h op (fp s op),h i=h' i):Gy P tb new asm iO op s h=Gy P tb new asm iO op u h':=by
 have key:∀x∈op.operands.toList,(¬((∃x,op = .move x)∨(∃x,op = .assign x)∨(∃x,op = .nilCheck x)∨∃t x f,op = .fieldAddr t x f))→∀i∈ids (ev s x),h i=h' i:=fun x q j i hi=>by
  have p:=fK q i hi;refine z i ?_;unfold j9;split
  ·exact List.mem_append_left _ p
  ·exact List.mem_append_left _ p
  ·exact List.mem_append_left _ p
  ·rename_i x;exact absurd (.inl ⟨x,rfl⟩) j
  ·rename_i x;exact absurd (.inr (.inl ⟨x,rfl⟩)) j
  ·rename_i x;exact absurd (.inr (.inr (.inl ⟨x,rfl⟩))) j
  ·rename_i t x f;exact absurd (.inr (.inr (.inr ⟨t,x,f,rfl⟩))) j
  ·exact p
 have D:qz tb new iO.isSome op s h=qz tb new iO.isSome op u h':=E6 v key;have E:jl P tb new iO op s h=jl P tb new iO op u h':=EM v key (fun c B J I=>by
  subst B;have C:=Cf (h':=h') (xs:=fp s (Op.call c)) z;refine p9 fun i hi=>?_
  obtain⟨x,q,hi⟩:=I i hi;exact C i (fK q i hi)) (fun c B A x q=>by
  subst B;exact mM (fun i hi=>key x q (by rintro(⟨_,e⟩ | ⟨_,e⟩ | ⟨_,e⟩ | ⟨_,_,_,e⟩) <;> cases e) i hi))
 unfold Gy;rw[D,E,Fg v z]
end Go.Tv
