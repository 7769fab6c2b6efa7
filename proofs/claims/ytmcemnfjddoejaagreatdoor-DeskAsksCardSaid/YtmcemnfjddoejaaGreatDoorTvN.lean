/- What an operation's outcome hangs on. -/
import Derived.Test.YtmcemnfjddoejaaGreatDoorTvM
namespace Go.Tv
open Go Go.RowKit
theorem fQ{h h':Nat→Option Obj}{i:Nat}(e:h i=h' i):∀(u:ie),apply u h i=apply u h' i:=fun u=>by
 induction u generalizing h h' with
 | nil=>exact e
 | cons p u k =>
  obtain⟨j,o⟩:=p;simp only[apply];refine k ?_;by_cases c:i=j
  ·subst c;rw[aw,aw]
  ·rw[aB _ _ c,aB _ _ c];exact e
section
variable{h h':Nat→Option Obj}
theorem nq{x:ag}(c:∀i∈ids x,h i=h' i):eW h x=eW h' x:=by
 cases x <;> try rfl
 rename_i id;simp only[eW,c id (by simp[ids])]
theorem pq:∀ {xs:List ag} {h h':Nat→Option Obj},(∀i∈bn xs,h i=h' i)→qA h xs=qA h' xs
 | [],_,_,_=>rfl
 | x::xs,h,h',c=>by
  simp only[qA,nq (x:=x) (fun i hi=>c i (by simp[bn,hi]))];cases e:eW h' x with
  | none=>rfl
  | some p =>
   obtain⟨y,u⟩:=p;simp only[pq (xs:=xs) (h:=apply u h) (h':=apply u h') (fun i hi=>fQ (c i (by simp[bn,hi])) u)]
theorem BL(c e:List ag):bn (c++e)=bn c++bn e:=by
 induction c with
 | nil=>rfl
 | cons x c f=>simp only[List.cons_append,bn,f,List.append_assoc]
theorem zD(k:IntKind)(l:List Int):bn (l.map fun i=>ag.p false (.int k) i)=[]:=by
 induction l with
 | nil=>rfl
 | cons x e c=>simp only[List.map_cons,bn,ids,c,List.append_nil]
theorem vd{x:ag}:bn (cellsOf x)=ids x:=by
 cases x with
 | lag k n xs c =>
  simp only[cellsOf,ids];rw[BL];have:=zD k xs.1;exact(congrArg (· ++ bn c) this).trans (List.nil_append _)
 | _=>simp[cellsOf,bn,ids]
theorem Ef{T:Ty}{x:ag}(c:∀i∈ids x,h i=h' i):Fk T h x=Fk T h' x:=by
 unfold Fk;rw[pq (xs:=cellsOf x) (by rw[vd];exact c)]
theorem uq{T:Ty}{x:ag}(c:∀i∈ids x,h i=h' i):Gn T h x=Gn T h' x:=by
 unfold Gn;split
 ·rename_i id i sz off;rw[c id (by simp[ids])]
 ·rfl
 ·exact Ef c
theorem xr{A:Ty}:∀ {xs:List ag} {h h':Nat→Option Obj},(∀i∈bn xs,h i=h' i)→CF A h xs=CF A h' xs
 | [],_,_,_=>rfl
 | x::xs,h,h',c=>by
  simp only[CF,uq (x:=x) (T:=A) (fun i hi=>c i (by simp[bn,hi]))];cases e:Gn A h' x with
  | none=>rfl
  | some p =>
   obtain⟨y,u⟩:=p;simp only[xr (xs:=xs) (h:=apply u h) (h':=apply u h') (fun i hi=>fQ (c i (by simp[bn,hi])) u)]
theorem yp{x:ag}(c:∀i∈ids x,h i=h' i):kG h x=kG h' x:=by
 unfold kG;split <;> first
  | rfl
  | (rename_i id;rw[c id (by simp[ids])])
  | (rename_i id i sz off;rw[c id (by simp[ids])])
theorem BR{x:ag}{i:Int}(c:∀i∈ids x,h i=h' i):zx h x i=zx h' x i:=by
 unfold zx;split <;> first
  | rfl
  | (rename_i id;rw[c id (by simp[ids])])
  | (rename_i id i sz off;rw[c id (by simp[ids])])
theorem AW{x:ag}(c:∀i∈ids x,h i=h' i):lenOf h x=lenOf h' x:=by
 unfold lenOf;split <;> first
  | rfl
  | (rename_i id;rw[c id (by simp[ids])])
  | (rename_i id i sz off;rw[c id (by simp[ids])])
theorem DD{s d:TK}{x:ag}(c:∀i∈ids x,h i=h' i):conv s d h x=conv s d h' x:=by
 unfold conv
 split <;> first
  | rfl
  | (rename_i id;rw[c id (by simp[ids])])
  | (rename_i id i sz off;rw[c id (by simp[ids])])
theorem mu{A:Ty}{x:ag}(c:∀i∈ids x,h i=h' i):dV h A x=dV h' A x:=by
 unfold dV;split <;> first
  | rfl
  | (rename_i id;rw[c id (by simp[ids])])
  | (rename_i id i sz off;rw[c id (by simp[ids])])
theorem xT(β:Bool):∀(T:Ty) (x:T.den),bn (flat β T x)=[]
 | .unit,_=>rfl
 | .prod a b,x=>by
  have e:=xT β a x.1;have f:=xT β b x.2;apply List.eq_nil_iff_forall_not_mem.2;intro i hi;simp only[flat,cq,List.mem_append]at hi;obtain⟨y,c,hi⟩:=hi;rcases c with c | c
  ·have:i∈bn (flat β a x.1):=cq.2 ⟨y,c,hi⟩;rw[e]at this;cases this
  ·have:i∈bn (flat β b x.2):=cq.2 ⟨y,c,hi⟩;rw[f]at this;cases this
 | .int _,_=>rfl
 | .bool,_=>rfl
 | .str,_=>rfl
 | .flt,_=>rfl
 | .slice _,_=>rfl
 | .ptr _,_=>rfl
 | .tree _ _,_=>rfl
 | .arr k _,x=>zD k x.1
 | .mapi _ _,_=>rfl
theorem Ks{e new:List ag}{p i:Nat}(hi:i∈bn (wr e p new)):i∈bn e∨i∈bn new:=by
 obtain⟨y,c,hi⟩:=cq.1 hi;simp only[wr,List.mem_append]at c;rcases c with(c | c) | c
 ·exact .inl (cq.2 ⟨y,List.mem_of_mem_take c,hi⟩)
 ·exact .inr (cq.2 ⟨y,c,hi⟩)
 ·exact .inl (cq.2 ⟨y,List.mem_of_mem_drop c,hi⟩)
theorem AS{A:Ty}{xs:List A.den}{i off:Nat}{y:ag}(k:∀i∈ids y,h i=h' i):Cu A h xs i off y=Cu A h' xs i off y:=by
 unfold Cu;refine uq fun j f=> ?_
 simp only[ids]at f;rcases Ks f with c | c
 ·rw[xT]at c;cases c
 ·rw[vd]at c;exact k j c
theorem uQ{x:ag}(c:∀i∈ids x,h i=h' i):xc h x=xc h' x:=by
 cases x <;> try rfl
 rename_i id;simp only[xc,c id (by simp[ids])]
theorem nv:∀ {xs:List ag},(∀i∈bn xs,h i=h' i)→oS h xs=oS h' xs
 | [],_=>rfl
 | x::xs,c=>by
  simp only[oS,uQ (x:=x) (fun i hi=>c i (by simp[bn,hi])),nv (xs:=xs) (fun i hi=>c i (by simp[bn,hi]))]
def JN(h h':Nat→Option Obj)(I:List Nat):Prop:=∀i∈I,h i=h' i∧∀c,h i=some (.box c)→∀j∈bn c,h j=h' j
theorem uM{x:ag}(e:JN h h' (ids x)):sA h x=sA h' x:=by
 have f:∀i∈ids x,h i=h' i:=fun i hi=>(e i hi).1
 cases x <;> try rfl
 ·simp only[sA,uQ f]
 ·rename_i id i sz off;simp only[sA];have j:=e id (by simp[ids]);rw[←j.1];cases k:h id with
  | none=>rfl
  | some ob =>
   cases ob with
   | box c=>simp only[nv (xs:=c) (h:=h) (h':=h') (j.2 c k)]
   | arr _ _ _=>rfl
   | fz _ _=>rfl
   | mpo _ _ _=>rfl
   | mpl _ _=>rfl
   | bytes _ _=>rfl
   | cutz _ _=>rfl
   | lmp _ _ _ _=>rfl
   | vrow _ _ _=>rfl
   | mat _ _ _ _ _=>rfl
 ·rename_i c;simp only[sA];rw[nv (xs:=c) (h:=h) (h':=h') (fun i hi=>f i (by simpa [ids]using hi))]
theorem sE:∀ {xs:List ag},JN h h' (bn xs)→rb h xs=rb h' xs
 | [],_=>rfl
 | x::xs,c=>by
  simp only[rb,uM (x:=x) (fun i hi=>c i (by simp[bn,hi])),sE (xs:=xs) (fun i hi=>c i (by simp[bn,hi]))]
theorem wA{x:ag}(c:JN h h' (ids x)):Bv h x=Bv h' x:=by
 cases x <;> try (simp only[Bv];exact uM c)
 rename_i f e;simp only[Bv];rw[sE (xs:=e) (h:=h) (h':=h') (fun i hi=>c i (by simpa [ids]using hi))]
theorem pF:∀ {xs:List ag},JN h h' (bn xs)→oo h xs=oo h' xs
 | [],_=>rfl
 | x::xs,c=>by
  simp only[oo,wA (x:=x) (fun i hi=>c i (by simp[bn,hi])),pF (xs:=xs) (fun i hi=>c i (by simp[bn,hi]))]
theorem we{g:List Nat}{i:Nat}(e:h i=h' i):less g h i=less g h' i:=by
 unfold less;split
 ·rfl
 ·exact e
theorem wi{α β:Type}{l:List α}{f c:α→List β}(e:∀x∈l,f x=c x):l.flatMap f=l.flatMap c:=by
 induction l with
 | nil=>rfl
 | cons x l j=>simp only[List.flatMap_cons,e x (by simp),j (fun y k=>e y (by simp[k]))]
theorem uP{g:List Nat}:∀ {xs:List ag},JN h h' (bn xs)→sa g h xs=sa g h' xs
 | [],_=>rfl
 | x::xs,c=>by
  have e:zA g h x=zA g h' x:=by unfold zA;rw[wA (x:=x) (fun i hi=>c i (by simp[bn,hi]))]
  simp only[sa,e,uP (xs:=xs) (fun i hi=>c i (by simp[bn,hi]))]
theorem Ct{g:List Nat}{h h':Nat→Option Obj}(c:∀i∈g,h i=h' i):jR g h 0 g=jR g h' 0 g:=by
 have key:∀(l:List Nat) (k:Nat),(∀i∈l,i∈g)→jR g h k l=jR g h' k l:=fun l=>by
  induction l with
  | nil=>intro k _;rfl
  | cons x l e =>intro k hl;simp only[jR,c x (hl x (by simp)),e (k+1) (fun i hi=>hl i (by simp[hi]))]
 exact key g 0 fun _ h=>h
theorem Ea{x:ag}(c:∀i∈ids x,h i=h' i):yP h x=yP h' x:=by
 cases x <;> try (simp only[yP];exact nq c)
 rename_i e;simp only[yP];rw[pq (xs:=e) (h:=h) (h':=h') (fun i hi=>c i (by simpa [ids]using hi))]
theorem ri:∀ {bs:List Bool} {xs:List ag} {h h':Nat→Option Obj},(∀i∈bn xs,h i=h' i)→frzL h bs xs=frzL h' bs xs
 | _,[],_,_,_=>by simp only[frzL]
 | [],_::_,_,_,_=>rfl
 | false::bs,x::xs,h,h',c=>by
  simp only[frzL,ri (bs:=bs) (xs:=xs) (h:=h) (h':=h') (fun i hi=>c i (by simp[bn,hi]))]
 | true::bs,x::xs,h,h',c=>by
  simp only[frzL,Ea (x:=x) (h:=h) (h':=h') (fun i hi=>c i (by simp[bn,hi]))];cases yP h' x with
  | none=>rfl
  | some p =>
   obtain⟨y,u⟩:=p;simp only[ri (bs:=bs) (xs:=xs) (h:=apply u h) (h':=apply u h') (fun i hi=>fQ (c i (by simp[bn,hi])) u)]
def rP(u:ie):Prop:=∀p∈u,∃A c,p.2=some (.fz A c)
theorem rP.append{u v:ie}(hu:rP u)(e:rP v):rP (u++v):=fun p j=>(List.mem_append.1 j).elim (hu p) (e p)
theorem zI{x y:ag}{u:ie}(e:eW h x=some (y,u)):rP u∧∀i∈ids y,i∈ids x:=by
 unfold eW at e;split at e
 ·split at e
  ·cases e;exact⟨fun p c=>by simp at c;subst c;exact⟨_,_,rfl⟩,fun i hi=>by simp[ids]at hi⟩
  ·cases e;exact⟨fun p c=>by simp at c,fun i hi=>by simp[ids]at hi⟩
  ·cases e;exact⟨fun p c=>by simp at c;subst c;exact⟨_,_,rfl⟩,fun i hi=>by simp[ids]at hi⟩
  ·cases e;exact⟨fun p c=>by simp at c;subst c;exact⟨_,_,rfl⟩,fun i hi=>by simp[ids]at hi⟩
  ·cases e
 ·cases e;exact⟨fun p c=>by simp at c,fun i hi=>hi⟩
theorem Bq:∀ {f e:List ag} {h:Nat→Option Obj} {u:ie},qA h f=some (e,u)→rP u∧∀i∈bn e,i∈bn f
 | [],e,h,u,c=>by cases c;exact⟨fun p j=>by simp at j,fun i hi=>hi⟩
 | x::f,e,h,u,c=>by
  simp only[qA]at c;split at c
  ·rename_i y C k;split at c
   ·rename_i m D q;cases c;obtain⟨v,z⟩:=zI k;obtain⟨A,B⟩:=Bq q;refine⟨v.append A,fun i hi=> ?_⟩;simp only[bn,List.mem_append]at hi ⊢;exact hi.imp (z i) (B i)
   ·cases c
  ·cases c
theorem IE{x y:ag}{u:ie}(c:yP h x=some (y,u)):rP u∧∀i∈ids y,i∈ids x:=by
 unfold yP at c;split at c
 ·split at c
  ·rename_i k m e;cases c;obtain⟨f,j⟩:=Bq e;exact⟨f,fun i hi=>by simp only[ids]at hi ⊢;exact j i hi⟩
  ·cases c
 ·exact zI c
theorem Ae:∀ {bs:List Bool} {xs e:List ag} {h:Nat→Option Obj} {u:ie},frzL h bs xs=some (e,u)→rP u∧∀i∈bn e,i∈bn xs
 | _,[],e,h,u,c=>by simp only[frzL]at c;cases c;exact⟨fun p j=>by simp at j,fun i hi=>hi⟩
 | [],_::_,e,h,u,c=>by simp only[frzL]at c;cases c;exact⟨fun p j=>by simp at j,fun i hi=>hi⟩
 | false::bs,x::xs,e,h,u,c=>by
  simp only[frzL]at c;split at c
  ·rename_i k D m;cases c;obtain⟨q,v⟩:=Ae m;refine⟨q,fun i hi=> ?_⟩;simp only[bn,List.mem_append]at hi ⊢;exact hi.imp (fun h=>h) (v i)
  ·cases c
 | true::bs,x::xs,e,h,u,c=>by
  simp only[frzL]at c;split at c
  ·rename_i y E m;split at c
   ·rename_i k I z;cases c;obtain⟨q,v⟩:=IE m;obtain⟨B,C⟩:=Ae z;refine⟨q.append B,fun i hi=> ?_⟩;simp only[bn,List.mem_append]at hi ⊢;exact hi.imp (v i) (C i)
   ·cases c
  ·cases c
theorem AI{u:ie}(hu:rP u){i:Nat}{m:List ag}:∀ {h:Nat→Option Obj},apply u h i=some (.box m)→h i=some (.box m):=by
 induction u with
 | nil=>intro h hb;exact hb
 | cons p u v =>
  intro h hb;obtain⟨j,o⟩:=p;have c:=v (fun q x=>hu q (by simp[x])) hb;by_cases e:i=j
  ·subst e;rw[aw]at c;obtain⟨A,xs,k⟩:=hu (i,o) (by simp);simp only at k;rw[c]at k;cases k
  ·rw[aB _ _ e]at c;exact c
theorem Bn{xs:List ag}(c:∀i∈xg h xs,h i=h' i):JN h h' (bn xs):=fun i hi =>
 ⟨c i (List.mem_append_left _ hi),fun m e j k=>c j (List.mem_append_right _ (List.mem_flatMap.2 ⟨i,hi,by rw[e];exact k⟩))⟩
theorem wC{tb:bS}{new:Nat}{t:TypeId}{x:ag}{c hi:Option (Option Int)}(e:∀i∈ids x,h i=h' i):pt tb new t x c hi h=pt tb new t x c hi h':=by
 unfold pt;split
 ·split
  ·split <;> first
    | rfl
    | (rename_i id;rw[e id (by simp[ids])])
  ·rfl
 ·rfl
theorem yT{new:Nat}{ti:TI}{x:ag}(q:∀i∈ids x,h i=h' i)(u:∀i∈ids x,∀e m A c k j,h i=some (.mat e m A c (some (k,j)))→h j=h' j):l0 new ti x h=l0 new ti x h':=by
 unfold l0;cases x <;> try rfl
 rename_i id i sz off;simp only;have v:=q id (by simp[ids]);have m:=u id (by simp[ids]);rw[←v];cases z:h id with
 | none=>rfl
 | some ob =>
  cases ob with
  | mat e B A c hole =>
   cases hole with
   | none=>rfl
   | some p =>
    obtain⟨k,j⟩:=p;simp only[m _ _ _ _ _ _ z]
  | _=>rfl
theorem wM{ti:TI}{x:ag}(e:∀i∈ids x,h i=h' i):mE ti x h=mE ti x h':=by
 unfold mE;split
 ·rename_i id b n i k _;have c:=e id (by simp[ids]);rw[c]
 ·rfl
theorem vw{ti:TI}{x y:ag}(f:∀i∈ids x,h i=h' i):kR ti x y h=kR ti x y h':=by
 unfold kR;split
 ·rename_i id b n i _ k v;have c:=f id (by simp[ids]);rw[c]
 ·rfl
theorem vu{tb:bS}{t:TypeId}{x i:ag}(c:∀i∈ids x,h i=h' i):kN tb t x i h=kN tb t x i h':=by
 unfold kN;cases tb.find t with
 | none=>rfl
 | some ti =>
  simp only;split
  ·split
   ·split
    ·split
     ·rename_i id j sz off _ _ _;rw[c id (by simp[ids])]
     ·rfl
     ·rfl
    ·split
     ·split
      ·rename_i id j sz off _ _ _;rw[c id (by simp[ids])]
      ·rfl
     ·rfl
   ·rfl
  ·rfl
theorem rn{tb:bS}{t:TypeId}{x i:ag}(c:∀i∈ids x,h i=h' i):iZ tb t x i h=iZ tb t x i h':=by
 unfold iZ;cases g8 tb t with
 | none=>rfl
 | some q =>
  simp only;split
  ·rw[BR c]
  ·rfl
theorem vt{P:Program}{tb:bS}{t:TypeId}{x k:ag}{ok:Bool}(c:∀i∈ids x,h i=h' i):mA P tb t x k ok h=mA P tb t x k ok h':=by
 unfold mA;split
 ·split
  ·rename_i id;rw[c id (by simp[ids])]
  ·rfl
 ·rfl
theorem tM{P:Program}{tb:bS}{t:TypeId}{g:List Nat}{x k:ag}{ok:Bool}(c:∀i∈ids x,h i=h' i):lq P tb t g x k ok h=lq P tb t g x k ok h':=by
 unfold lq;split
 ·split
  ·rename_i id;rw[c id (by simp[ids])]
  ·rfl
 ·rfl
theorem lH{P:Program}{tb:bS}{t:TypeId}{x k y:ag}(c:∀i∈ids x,h i=h' i)(e:∀i∈ids y,h i=h' i):fb P tb t x k y h=fb P tb t x k y h':=by
 unfold fb;split
 ·split
  ·rename_i id;rw[c id (by simp[ids])];split
   ·split
    ·split
     ·rw[uq e]
     ·rfl
    ·rfl
   ·rfl
  ·rfl
 ·rfl
theorem kh{P:Program}{tb:bS}{t:TypeId}{x k y:ag}(c:∀i∈ids x,h i=h' i):eg P tb t x k y h=eg P tb t x k y h':=by
 unfold eg;split
 ·split
  ·rename_i id;rw[c id (by simp[ids])]
  ·rfl
 ·rfl
theorem zX{id i:Nat}{e e2:TypeId}{A:Ty}{xss:List (List A.den)}{hole:Option (Nat×Nat)}{y:ag}(c:∀i∈ids y,h i=h' i)(f:∀k j,hole=some (k,j)→h j=h' j):ua id i e e2 A xss hole y h=ua id i e e2 A xss hole y h':=by
 unfold ua;cases y <;> try rfl
 rename_i r;simp only;rw[←c r (by simp[ids])];cases h r with
 | none=>rfl
 | some ob =>
  cases ob with
  | arr m B q =>
   cases hole with
   | none=>rfl
   | some p =>
    obtain⟨k,j⟩:=p;simp only[f k j rfl]
  | _=>rfl
theorem xJ{tb:bS}{t:TypeId}{x y:ag}(p:∀i∈ids x,h i=h' i)(q:∀i∈ids y,h i=h' i)(u:∀i∈ids x,∀e e2 A xss k j,h i=some (.mat e e2 A xss (some (k,j)))→h j=h' j):pP tb t x y h=pP tb t x y h':=by
 unfold pP;cases tb.find t with
 | none=>rfl
 | some ti =>
  simp only;split
  ·cases x <;> try rfl
   case ada=>exact vw p
   rename_i id i sz off;simp only;have c:=p id (by simp[ids]);have m:=u id (by simp[ids]);rw[←c];cases v:h id with
   | none=>rfl
   | some ob =>
    cases ob with
    | arr e A xs=>simp only[AS (A:=A) (xs:=xs) (i:=i) (off:=off) q]
    | fz _ _=>rfl
    | box _=>rfl
    | mpo _ _ _=>rfl
    | mpl _ _=>rfl
    | bytes _ _=>rfl
    | cutz _ _=>rfl
    | lmp _ _ _ _=>rfl
    | vrow _ _ _=>rfl
    | mat e e2 A xss hole=>simp only[zX (id:=id) (i:=i) (e:=e) (e2:=e2) (A:=A) (xss:=xss) (hole:=hole) q (fun k j z=>m e e2 A xss k j (by rw[v,z]))]
  ·rfl
theorem vp{tb:bS}{new:Nat}{t:TypeId}{x y:ag}(c:∀i∈ids x,h i=h' i)(j:∀i∈ids y,h i=h' i):mF tb new t x y h=mF tb new t x y h':=by
 unfold mF;cases g8 tb t with
 | none=>rfl
 | some p =>
  obtain⟨e,k,A⟩:=p;simp only[mu (A:=A) j];cases dV h' A y with
  | none=>rfl
  | some m =>
   simp only;cases x <;> try rfl
   rename_i id;simp only;rw[c id (by simp[ids])]
theorem yn{tb:bS}{t:TypeId}{x y:ag}(c:∀i∈ids x,h i=h' i)(j:∀i∈ids y,h i=h' i):tq tb t x y h=tq tb t x y h':=by
 unfold tq;cases g8 tb t with
 | none=>rfl
 | some p =>
  obtain⟨e,k,A⟩:=p;simp only[mu (A:=A) j];cases dV h' A y with
  | none=>rfl
  | some m =>
   simp only;cases x <;> try rfl
   rename_i id;simp only;rw[c id (by simp[ids])]
end
def eL(s:Nat→ag)(op:Op):List ag:=op.operands.toList.map (ev s)
theorem eU{s:Nat→ag}{op:Op}{x:Operand}(c:x∈op.operands.toList):∀i∈ids (ev s x),i∈bn (eL s op):=fun _ hi =>
 cq.2 ⟨ev s x,List.mem_map.2 ⟨x,c,rfl⟩,hi⟩
def vT(h:Nat→Option Obj)(c:List ag):List Nat :=
 bn c++(bn c).flatMap fun i=>match h i with
  | some (.mat _ _ _ _ (some (_,j)))=>[j]
  | _=>[]
theorem wN{h:Nat→Option Obj}{xs:List ag}{i:Nat}{e m:TypeId}{A:Ty}{c:List (List A.den)}{k j:Nat}(hi:i∈bn xs)(p:h i=some (.mat e m A c (some (k,j)))):j∈vT h xs :=
 List.mem_append_right _ (List.mem_flatMap.2 ⟨i,hi,by rw[p];exact .head _⟩)
def jM(h:Nat→Option Obj)(op:Op)(xs:List ag):List Nat :=
 match op with
 | .call _=>xg h xs
 | .load _ _=>vT h xs
 | .store _ _ _=>vT h xs
 | .move _=>[]
 | .assign _=>[]
 | .nilCheck _=>[]
 | .fieldAddr _ _ _=>[]
 | _=>bn xs
theorem C4{P:Program}{tb:bS}{new:Nat}{asm:Option Bool}{jb:Option xD}{op:Op}{s O:Nat→ag}{h h':Nat→Option Obj}
  (v:∀x∈op.operands.toList,ev s x=ev O x) (hh:∀i∈jM h op (eL s op),h i=h' i):gM P tb new asm jb op s h=gM P tb new asm jb op O h':=by
 by_cases J:(∃x,op = .move x)∨(∃x,op = .assign x)∨(∃x,op = .nilCheck x)∨∃t x f,op = .fieldAddr t x f
 ·rcases J with⟨x,rfl⟩ | ⟨x,rfl⟩ | ⟨x,rfl⟩ | ⟨t,x,f,rfl⟩ <;> simp only[gM,v x (by simp[Op.operands])]
 have a3:∀i∈bn (eL s op),h i=h' i:=fun i hi=>by
  refine hh i ?_;unfold jM;split
  ·exact List.mem_append_left _ hi
  ·exact List.mem_append_left _ hi
  ·exact List.mem_append_left _ hi
  ·rename_i x;exact absurd (.inl ⟨x,rfl⟩) J
  ·rename_i x;exact absurd (.inr (.inl ⟨x,rfl⟩)) J
  ·rename_i x;exact absurd (.inr (.inr (.inl ⟨x,rfl⟩))) J
  ·rename_i t x f;exact absurd (.inr (.inr (.inr ⟨t,x,f,rfl⟩))) J
  ·exact hi
 have key:∀x∈op.operands.toList,∀i∈ids (ev s x),h i=h' i:=fun x R i hi=>a3 i (eU R i hi)
 cases op with
 | move x=>simp only[gM,v x (by simp[Op.operands])]
 | assign x=>simp only[gM,v x (by simp[Op.operands])]
 | pick c x y =>
  have e:∀b:Bool,ev s (if b=true then x else y)=ev O (if b=true then x else y):=fun b=>by
   cases b
   ·exact v y (by simp[Op.operands])
   ·exact v x (by simp[Op.operands])
  simp only[gM,Ax,v c (by simp[Op.operands]),e,v x (by simp[Op.operands]),v y (by simp[Op.operands])]
 | alloc t=>rfl
 | box t x=>simp only[gM,v x (by simp[Op.operands])]
 | build t ps =>
  simp only[gM];have e:ps.toList.map (fun p=>ev s p.2)=ps.toList.map (fun p=>ev O p.2):=List.map_congr_left (fun p C=>v p.2 (by simp only[Op.operands,List.mem_map];exact⟨p,C,rfl⟩));rw[e]
 | buildSlice t len ps =>
  simp only[gM];have e:ps.toList.map (fun p=>ev s p.2)=ps.toList.map (fun p=>ev O p.2):=List.map_congr_left (fun p C=>v p.2 (by simp only[Op.operands,List.mem_map];exact⟨p,C,rfl⟩));rw[←e];unfold mw;cases g8 tb t with
  | none=>rfl
  | some q =>
   obtain⟨e,te,A⟩:=q;simp only;split
   ·rw[xr (A:=A) (fun i hi=>by
     obtain⟨y,D,hi⟩:=cq.1 hi;obtain⟨p,C,rfl⟩:=List.mem_map.1 D;exact key p.2 (by simp only[Op.operands,List.mem_map];exact⟨p,C,rfl⟩) i hi)]
   ·rfl
 | load t x =>
  simp only[gM,←v x (by simp[Op.operands])];have R:=key x (by simp[Op.operands]);have e2:∀ti,l0 new ti (ev s x) h=l0 new ti (ev s x) h':=fun ti=>yT R (fun i hi e e2 A a4 k j hm=>hh j (wN (eU (by simp[Op.operands]) i hi) hm))
  unfold zU;simp only[yp R,wM R,e2]
 | store t x y =>
  simp only[gM,←v x (by simp[Op.operands]),←v y (by simp[Op.operands])];exact xJ (key x (by simp[Op.operands])) (key y (by simp[Op.operands])) (fun i hi e e2 A a4 k j hm=>hh j (wN (eU (by simp[Op.operands]) i hi) hm))
 | binOp o t x y t'=>simp only[gM,v x (by simp[Op.operands]),v y (by simp[Op.operands])]
 | unOp o t x=>simp only[gM,v x (by simp[Op.operands])]
 | nilCheck x=>simp only[gM,v x (by simp[Op.operands])]
 | convert st dt x =>
  simp only[gM,←v x (by simp[Op.operands])];cases jb with
  | some _=>rfl
  | none=> ?_
  simp only;unfold zZ;cases tb.find st with
  | none=>rfl
  | some si =>
   cases tb.find dt with
   | none=>rfl
   | some di =>
    simp only;cases GG tb di.k (ev s x)with
    | some r=>rfl
    | none=>simp only[DD (s:=si.k) (d:=di.k) (key x (by simp[Op.operands]))]
 | slice t x lo hi mx =>
  cases mx with
  | some mo =>
   cases hi with
   | none=>rfl
   | some a5 =>
    have e1:qp s lo=qp O lo:=by
     cases lo with
     | none=>rfl
     | some y=>simp only[qp,v y (by simp[Op.operands])]
    simp only[gM,←v x (by simp[Op.operands]),←v a5 (by simp[Op.operands]),←v mo (by simp[Op.operands]),←e1];have R:=key x (by simp[Op.operands]);cases jb with
    | some _ =>
     simp only;unfold Ec;rw[nq R]
    | none=> ?_
    simp only;unfold uy;split
    ·split
     ·rfl
     ·rename_i id ex;rw[R id (by rw[ex];simp[ids])]
     ·rfl
    ·rfl
  | none =>
   have e1:qp s lo=qp O lo:=by
    cases lo with
    | none=>rfl
    | some y=>simp only[qp,v y (by simp[Op.operands])]
   have e2:qp s hi=qp O hi:=by
    cases hi with
    | none=>rfl
    | some y=>simp only[qp,v y (by simp[Op.operands])]
   simp only[gM,←v x (by simp[Op.operands]),←e1,←e2];exact wC (key x (by simp[Op.operands]))
 | fieldAddr t x f=>simp only[gM,v x (by simp[Op.operands])]
 | indexAddr t x i =>
  simp only[gM,←v x (by simp[Op.operands]),←v i (by simp[Op.operands])];simp only[vu (key x (by simp[Op.operands])),rn (key x (by simp[Op.operands]))]
 | index t x i=>simp only[gM,v x (by simp[Op.operands]),v i (by simp[Op.operands])]
 | extract x i=>simp only[gM,v x (by simp[Op.operands])]
 | typeAssert x xt t ok=>simp only[gM,v x (by simp[Op.operands])]
 | makeFunc f fs cs =>
  simp only[gM];rw[List.map_congr_left (f:=ev s) (g:=ev O) (fun p C=>v p (by simp only[Op.operands,Array.toList_append,List.mem_append];exact .inr C))]
 | makeSlice t l c=>simp only[gM,v l (by simp[Op.operands]),v c (by simp[Op.operands])]
 | call c =>
  obtain⟨callee,args,E⟩:=c;have B:∀x∈args.toList,x∈(Op.call { callee,args,argTypes:=E }).operands.toList:=fun x R=>by simp only[Op.operands,Call.operands,Array.toList_append,List.mem_append];exact .inr R
  have e:args.toList.map (ev s)=args.toList.map (ev O):=List.map_congr_left (fun p C=>v p (B p C));have X:∀y∈args.toList.map (ev s),∀i∈ids y,h i=h' i:=fun y D i hi=>by obtain⟨p,C,rfl⟩:=List.mem_map.1 D;exact key p (B p C) i hi
  have hc:=Bn (h':=h') (xs:=eL s (Op.call { callee,args,argTypes:=E })) hh;simp only[gM,pY];cases callee with
  | builtin b =>
   simp only[←e];unfold rh;split
   ·rename_i y t V et;split
    ·unfold uw;split
     ·split
      ·rename_i id _ _;rw[X (.mp id) (by rw[V];simp) id (by simp[ids])]
      ·rfl
     ·rfl
    ·unfold Dd;rw[AW (X y (by rw[V];simp))]
   ·rfl
   ·rfl
   ·rename_i y z t t' V et;split
    ·exact vp (X y (by rw[V];simp)) (X z (by rw[V];simp))
    ·rfl
   ·rename_i y z t t' V et;exact yn (X y (by rw[V];simp)) (X z (by rw[V];simp))
   ·rfl
  | value f =>
   have hf:f∈(Op.call { callee:= .value f,args,argTypes:=E }).operands.toList:=by simp[Op.operands,Call.operands]
   simp only[←e,←v f hf];generalize a6:gN tb (IG jb) E.toList (args.toList.map (ev s))=xs;have Y:∀i∈bn xs,i∈bn (args.toList.map (ev s)):=fun i hi=>by rw[←a6,nm]at hi;exact hi
   unfold vQ;split
   ·rename_i fid a2 q ef;have hin:∀i∈bn (CG (ev s f)::xs),i∈bn (eL s (Op.call { callee:= .value f,args,argTypes:=E })):=fun i hi=>by
     simp only[bn,List.mem_append]at hi;rcases hi with hi | hi
     ·exact eU hf i (Bj i hi)
     ·obtain⟨y,D,I⟩:=cq.1 (Y i hi);obtain⟨p,C,rfl⟩:=List.mem_map.1 D;exact eU (B p C) i I
    rw[ri (bs:=q.fl) (h:=h) (h':=h') (fun i hi=>by
     obtain⟨y,D,I⟩:=cq.1 (Y i hi);exact X y D i I)]
    cases a7:frzL h' q.fl xs with
    | none=>rfl
    | some p =>
     obtain⟨ys,u⟩:=p;obtain⟨z1,z2⟩:=Ae a7;have L:JN (apply u h) (apply u h') (bn (ys++a2)):=fun i hi=>by
      have Z:i∈bn (eL s (Op.call { callee:= .value f,args,argTypes:=E })):=by
       obtain⟨y,D,I⟩:=cq.1 hi;rcases List.mem_append.1 D with D | D
       ·obtain⟨y2,a8,Z⟩:=cq.1 (Y i (z2 i (cq.2 ⟨y,D,I⟩)));obtain⟨p,C,rfl⟩:=List.mem_map.1 a8;exact eU (B p C) i Z
       ·refine eU hf i (Bj i ?_);rw[ef];simp only[ids];exact cq.2 ⟨y,D,I⟩
      obtain⟨c1,c2⟩:=hc i Z;exact⟨fQ c1 u,fun cs M j hj=>fQ (c2 cs (AI z1 M) j hj) u⟩
     simp only;split
     ·have N:xg h (CG (ev s f)::xs)=xg h' (CG (ev s f)::xs):=by
       unfold xg;congr 1;refine wi fun i hi=> ?_
       rw[(hc i (hin i hi)).1]
      rw[N];split
      ·rename_i hg;have a9:∀i∈q.g,h i=h' i:=fun i hi=>by
        have:=List.all_eq_true.1 hg i hi;rw[←N]at this;simp only[List.contains_eq_mem,decide_eq_true_eq]at this;unfold xg at this;rcases List.mem_append.1 this with h1 | h1
        ·exact(hc i (hin i h1)).1
        ·obtain⟨j,hj,a1⟩:=List.mem_flatMap.1 h1;split at a1
         ·rename_i cs M;exact(hc j (hin j hj)).2 cs M i a1
         ·cases a1
       rw[Ct (g:=q.g) (h:=apply u h) (h':=apply u h') (fun i hi=>fQ (a9 i hi) u),
        uP (g:=q.g) (h:=less q.g (apply u h)) (h':=less q.g (apply u h')) (fun i hi=>⟨we (L i hi).1,fun cs M j hj=>we ((L i hi).2 cs (tf M).1 j hj)⟩)]
      ·rfl
     ·rw[pF (h:=apply u h) (h':=apply u h') L]
   ·rfl
  | invoke r m=>rfl
 | makeMap t r=>cases r <;> rfl
 | lookup t x k ok =>
  simp only[gM,←v x (by simp[Op.operands]),←v k (by simp[Op.operands])];rw[vt (key x (by simp[Op.operands])),tM (key x (by simp[Op.operands]))]
 | mapUpdate t x k y =>
  simp only[gM,←v x (by simp[Op.operands]),←v k (by simp[Op.operands]),←v y (by simp[Op.operands])];rw[lH (key x (by simp[Op.operands])) (key y (by simp[Op.operands])),kh (key x (by simp[Op.operands]))]
 | insert t x k y =>
  simp only[gM,←v x (by simp[Op.operands]),←v k (by simp[Op.operands]),←v y (by simp[Op.operands])];rw[lH (key x (by simp[Op.operands])) (key y (by simp[Op.operands])),kh (key x (by simp[Op.operands]))]
 | _=>rfl
theorem yX{P:Program}{tb:bS}{new:Nat}{asm:Option Bool}{jb:Option xD}{op:Op}{s p:Nat→ag}{h h':Nat→Option Obj}
  (z:∀x∈op.operands.toList,ev s x=ev p x) (q:∀i∈jM h op (eL s op),h i=h' i):F5 P tb new asm jb op s h=F5 P tb new asm jb op p h':=by
 have key:∀x∈op.operands.toList,(¬((∃x,op = .move x)∨(∃x,op = .assign x)∨(∃x,op = .nilCheck x)∨∃t x f,op = .fieldAddr t x f))→∀i∈ids (ev s x),h i=h' i:=fun x m j i hi=>by
  have k:=eU m i hi;refine q i ?_;unfold jM;split
  ·exact List.mem_append_left _ k
  ·exact List.mem_append_left _ k
  ·exact List.mem_append_left _ k
  ·rename_i x;exact absurd (.inl ⟨x,rfl⟩) j
  ·rename_i x;exact absurd (.inr (.inl ⟨x,rfl⟩)) j
  ·rename_i x;exact absurd (.inr (.inr (.inl ⟨x,rfl⟩))) j
  ·rename_i t x f;exact absurd (.inr (.inr (.inr ⟨t,x,f,rfl⟩))) j
  ·exact k
 have B:jc P tb new jb op s h=jc P tb new jb op p h':=Eb z key (fun c u D C=>by
  subst u;have v:=Bn (h':=h') (xs:=eL s (Op.call c)) q;refine pF fun i hi=> ?_
  obtain⟨x,m,hi⟩:=C i hi;exact v i (eU m i hi)) (fun c u A x m=>by
  subst u;exact mu (fun i hi=>key x m (by rintro(⟨_,e⟩ | ⟨_,e⟩ | ⟨_,e⟩ | ⟨_,_,_,e⟩) <;> cases e) i hi))
 unfold F5;rw[B,C4 z q]
end Go.Tv
