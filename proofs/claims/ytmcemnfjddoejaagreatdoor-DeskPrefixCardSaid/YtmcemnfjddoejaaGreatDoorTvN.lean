/- What an operation's outcome hangs on. -/
import Derived.Test.YtmcemnfjddoejaaGreatDoorTvM
namespace Go.Tv
open Go Go.RowKit
theorem gf{h h':Nat→Option Obj}{i:Nat}(e:h i=h' i):∀(u:hZ),apply u h i=apply u h' i:=fun u=>by
 induction u generalizing h h' with
 | nil=>exact e
 | cons p u k =>
  obtain⟨j,o⟩:=p;simp only[apply];refine k ?_;by_cases c:i=j
  ·subst c;rw[aw,aw]
  ·rw[aB _ _ c,aB _ _ c];exact e
section
variable{h h':Nat→Option Obj}
theorem nB{x:ag}(c:∀i∈ids x,h i=h' i):eW h x=eW h' x:=by
 cases x <;> try rfl
 rename_i id;simp only[eW,c id (by simp[ids])]
theorem oY:∀ {xs:List ag} {h h':Nat→Option Obj},(∀i∈bm xs,h i=h' i)→qs h xs=qs h' xs
 | [],_,_,_=>rfl
 | x::xs,h,h',c=>by
  simp only[qs,nB (x:=x) (fun i hi=>c i (by simp[bm,hi]))];cases e:eW h' x with
  | none=>rfl
  | some p =>
   obtain⟨y,u⟩:=p;simp only[oY (xs:=xs) (h:=apply u h) (h':=apply u h') (fun i hi=>gf (c i (by simp[bm,hi])) u)]
theorem Cy(c e:List ag):bm (c++e)=bm c++bm e:=by
 induction c with
 | nil=>rfl
 | cons x c f=>simp only[List.cons_append,bm,f,List.append_assoc]
theorem zv(k:IntKind)(l:List Int):bm (l.map fun i=>ag.p false (.int k) i)=[]:=by
 induction l with
 | nil=>rfl
 | cons x e c=>simp only[List.map_cons,bm,ids,c,List.append_nil]
theorem uU{x:ag}:bm (cellsOf x)=ids x:=by
 cases x with
 | lag k n xs c =>
  simp only[cellsOf,ids];rw[Cy];have:=zv k xs.1;exact(congrArg (· ++ bm c) this).trans (List.nil_append _)
 | _=>simp[cellsOf,bm,ids]
theorem DU{T:Ty}{x:ag}(c:∀i∈ids x,h i=h' i):FU T h x=FU T h' x:=by
 unfold FU;rw[oY (xs:=cellsOf x) (by rw[uU];exact c)]
theorem tw{T:Ty}{x:ag}(c:∀i∈ids x,h i=h' i):F5 T h x=F5 T h' x:=by
 unfold F5;split
 ·rename_i id i sz off;rw[c id (by simp[ids])]
 ·rfl
 ·exact DU c
theorem vJ{A:Ty}:∀ {xs:List ag} {h h':Nat→Option Obj},(∀i∈bm xs,h i=h' i)→BT A h xs=BT A h' xs
 | [],_,_,_=>rfl
 | x::xs,h,h',c=>by
  simp only[BT,tw (x:=x) (T:=A) (fun i hi=>c i (by simp[bm,hi]))];cases e:F5 A h' x with
  | none=>rfl
  | some p =>
   obtain⟨y,u⟩:=p;simp only[vJ (xs:=xs) (h:=apply u h) (h':=apply u h') (fun i hi=>gf (c i (by simp[bm,hi])) u)]
theorem xY{x:ag}(c:∀i∈ids x,h i=h' i):kE h x=kE h' x:=by
 unfold kE;split <;> first
  | rfl
  | (rename_i id;rw[c id (by simp[ids])])
  | (rename_i id i sz off;rw[c id (by simp[ids])])
theorem AY{x:ag}{i:Int}(c:∀i∈ids x,h i=h' i):ze h x i=ze h' x i:=by
 unfold ze;split <;> first
  | rfl
  | (rename_i id;rw[c id (by simp[ids])])
  | (rename_i id i sz off;rw[c id (by simp[ids])])
theorem BR{x:ag}(c:∀i∈ids x,h i=h' i):lenOf h x=lenOf h' x:=by
 unfold lenOf;split <;> first
  | rfl
  | (rename_i id;rw[c id (by simp[ids])])
  | (rename_i id i sz off;rw[c id (by simp[ids])])
theorem Dg{s d:TK}{x:ag}(c:∀i∈ids x,h i=h' i):conv s d h x=conv s d h' x:=by
 unfold conv
 split <;> first
  | rfl
  | (rename_i id;rw[c id (by simp[ids])])
  | (rename_i id i sz off;rw[c id (by simp[ids])])
theorem ma{A:Ty}{x:ag}(c:∀i∈ids x,h i=h' i):dS h A x=dS h' A x:=by
 unfold dS;split <;> first
  | rfl
  | (rename_i id;rw[c id (by simp[ids])])
  | (rename_i id i sz off;rw[c id (by simp[ids])])
theorem vO(β:Bool):∀(T:Ty) (x:T.den),bm (flat β T x)=[]
 | .unit,_=>rfl
 | .prod a b,x=>by
  have e:=vO β a x.1;have f:=vO β b x.2;apply List.eq_nil_iff_forall_not_mem.2;intro i hi;simp only[flat,cm,List.mem_append]at hi;obtain⟨y,c,hi⟩:=hi;rcases c with c | c
  ·have:i∈bm (flat β a x.1):=cm.2 ⟨y,c,hi⟩;rw[e]at this;cases this
  ·have:i∈bm (flat β b x.2):=cm.2 ⟨y,c,hi⟩;rw[f]at this;cases this
 | .int _,_=>rfl
 | .bool,_=>rfl
 | .str,_=>rfl
 | .flt,_=>rfl
 | .slice _,_=>rfl
 | .ptr _,_=>rfl
 | .tree _ _,_=>rfl
 | .arr k _,x=>zv k x.1
 | .mapi _ _,_=>rfl
theorem Jz{e new:List ag}{p i:Nat}(hi:i∈bm (wr e p new)):i∈bm e∨i∈bm new:=by
 obtain⟨y,c,hi⟩:=cm.1 hi;simp only[wr,List.mem_append]at c;rcases c with(c | c) | c
 ·exact .inl (cm.2 ⟨y,List.mem_of_mem_take c,hi⟩)
 ·exact .inr (cm.2 ⟨y,c,hi⟩)
 ·exact .inl (cm.2 ⟨y,List.mem_of_mem_drop c,hi⟩)
theorem BS{A:Ty}{xs:List A.den}{i off:Nat}{y:ag}(k:∀i∈ids y,h i=h' i):BW A h xs i off y=BW A h' xs i off y:=by
 unfold BW;refine tw fun j f=> ?_
 simp only[ids]at f;rcases Jz f with c | c
 ·rw[vO]at c;cases c
 ·rw[uU]at c;exact k j c
theorem uD{x:ag}(c:∀i∈ids x,h i=h' i):vT h x=vT h' x:=by
 cases x <;> try rfl
 rename_i id;simp only[vT,c id (by simp[ids])]
theorem na:∀ {xs:List ag},(∀i∈bm xs,h i=h' i)→o9 h xs=o9 h' xs
 | [],_=>rfl
 | x::xs,c=>by
  simp only[o9,uD (x:=x) (fun i hi=>c i (by simp[bm,hi])),na (xs:=xs) (fun i hi=>c i (by simp[bm,hi]))]
def JY(h h':Nat→Option Obj)(I:List Nat):Prop:=∀i∈I,h i=h' i∧∀c,h i=some (.box c)→∀j∈bm c,h j=h' j
theorem uN{x:ag}(e:JY h h' (ids x)):rU h x=rU h' x:=by
 have f:∀i∈ids x,h i=h' i:=fun i hi=>(e i hi).1
 cases x <;> try rfl
 ·simp only[rU,uD f]
 ·rename_i id i sz off;simp only[rU];have j:=e id (by simp[ids]);rw[←j.1];cases k:h id with
  | none=>rfl
  | some ob =>
   cases ob with
   | box c=>simp only[na (xs:=c) (h:=h) (h':=h') (j.2 c k)]
   | arr _ _ _=>rfl
   | fz _ _=>rfl
   | mpo _ _ _=>rfl
   | mpl _ _=>rfl
   | bytes _ _=>rfl
   | cutz _ _=>rfl
   | lmp _ _ _ _=>rfl
   | vrow _ _ _=>rfl
   | mat _ _ _ _ _=>rfl
 ·rename_i c;simp only[rU];rw[na (xs:=c) (h:=h) (h':=h') (fun i hi=>f i (by simpa [ids]using hi))]
theorem sK:∀ {xs:List ag},JY h h' (bm xs)→qY h xs=qY h' xs
 | [],_=>rfl
 | x::xs,c=>by
  simp only[qY,uN (x:=x) (fun i hi=>c i (by simp[bm,hi])),sK (xs:=xs) (fun i hi=>c i (by simp[bm,hi]))]
theorem vV{x:ag}(c:JY h h' (ids x)):BJ h x=BJ h' x:=by
 cases x <;> try (simp only[BJ];exact uN c)
 rename_i f e;simp only[BJ];rw[sK (xs:=e) (h:=h) (h':=h') (fun i hi=>c i (by simpa [ids]using hi))]
theorem pC:∀ {xs:List ag},JY h h' (bm xs)→oq h xs=oq h' xs
 | [],_=>rfl
 | x::xs,c=>by
  simp only[oq,vV (x:=x) (fun i hi=>c i (by simp[bm,hi])),pC (xs:=xs) (fun i hi=>c i (by simp[bm,hi]))]
theorem wX{g:List Nat}{i:Nat}(e:h i=h' i):less g h i=less g h' i:=by
 unfold less;split
 ·rfl
 ·exact e
theorem wm{α β:Type}{l:List α}{f c:α→List β}(e:∀x∈l,f x=c x):l.flatMap f=l.flatMap c:=by
 induction l with
 | nil=>rfl
 | cons x l j=>simp only[List.flatMap_cons,e x (by simp),j (fun y k=>e y (by simp[k]))]
theorem uI{g:List Nat}:∀ {xs:List ag},JY h h' (bm xs)→tc g h xs=tc g h' xs
 | [],_=>rfl
 | x::xs,c=>by
  have e:yZ g h x=yZ g h' x:=by unfold yZ;rw[vV (x:=x) (fun i hi=>c i (by simp[bm,hi]))]
  simp only[tc,e,uI (xs:=xs) (fun i hi=>c i (by simp[bm,hi]))]
theorem A9{g:List Nat}{h h':Nat→Option Obj}(c:∀i∈g,h i=h' i):jR g h 0 g=jR g h' 0 g:=by
 have key:∀(l:List Nat) (k:Nat),(∀i∈l,i∈g)→jR g h k l=jR g h' k l:=fun l=>by
  induction l with
  | nil=>intro k _;rfl
  | cons x l e =>intro k hl;simp only[jR,c x (hl x (by simp)),e (k+1) (fun i hi=>hl i (by simp[hi]))]
 exact key g 0 fun _ h=>h
theorem C2{x:ag}(c:∀i∈ids x,h i=h' i):yH h x=yH h' x:=by
 cases x <;> try (simp only[yH];exact nB c)
 rename_i e;simp only[yH];rw[oY (xs:=e) (h:=h) (h':=h') (fun i hi=>c i (by simpa [ids]using hi))]
theorem qJ:∀ {bs:List Bool} {xs:List ag} {h h':Nat→Option Obj},(∀i∈bm xs,h i=h' i)→frzL h bs xs=frzL h' bs xs
 | _,[],_,_,_=>by simp only[frzL]
 | [],_::_,_,_,_=>rfl
 | false::bs,x::xs,h,h',c=>by
  simp only[frzL,qJ (bs:=bs) (xs:=xs) (h:=h) (h':=h') (fun i hi=>c i (by simp[bm,hi]))]
 | true::bs,x::xs,h,h',c=>by
  simp only[frzL,C2 (x:=x) (h:=h) (h':=h') (fun i hi=>c i (by simp[bm,hi]))];cases yH h' x with
  | none=>rfl
  | some p =>
   obtain⟨y,u⟩:=p;simp only[qJ (bs:=bs) (xs:=xs) (h:=apply u h) (h':=apply u h') (fun i hi=>gf (c i (by simp[bm,hi])) u)]
def sr(u:hZ):Prop:=∀p∈u,∃A c,p.2=some (.fz A c)
theorem sr.append{u v:hZ}(hu:sr u)(e:sr v):sr (u++v):=fun p j=>(List.mem_append.1 j).elim (hu p) (e p)
theorem yR{x y:ag}{u:hZ}(e:eW h x=some (y,u)):sr u∧∀i∈ids y,i∈ids x:=by
 unfold eW at e;split at e
 ·split at e
  ·cases e;exact⟨fun p c=>by simp at c;subst c;exact⟨_,_,rfl⟩,fun i hi=>by simp[ids]at hi⟩
  ·cases e;exact⟨fun p c=>by simp at c,fun i hi=>by simp[ids]at hi⟩
  ·cases e;exact⟨fun p c=>by simp at c;subst c;exact⟨_,_,rfl⟩,fun i hi=>by simp[ids]at hi⟩
  ·cases e;exact⟨fun p c=>by simp at c;subst c;exact⟨_,_,rfl⟩,fun i hi=>by simp[ids]at hi⟩
  ·cases e
 ·cases e;exact⟨fun p c=>by simp at c,fun i hi=>hi⟩
theorem BY:∀ {f e:List ag} {h:Nat→Option Obj} {u:hZ},qs h f=some (e,u)→sr u∧∀i∈bm e,i∈bm f
 | [],e,h,u,c=>by cases c;exact⟨fun p j=>by simp at j,fun i hi=>hi⟩
 | x::f,e,h,u,c=>by
  simp only[qs]at c;split at c
  ·rename_i y C k;split at c
   ·rename_i m D q;cases c;obtain⟨v,z⟩:=yR k;obtain⟨A,B⟩:=BY q;refine⟨v.append A,fun i hi=> ?_⟩;simp only[bm,List.mem_append]at hi ⊢;exact hi.imp (z i) (B i)
   ·cases c
  ·cases c
theorem H6{x y:ag}{u:hZ}(c:yH h x=some (y,u)):sr u∧∀i∈ids y,i∈ids x:=by
 unfold yH at c;split at c
 ·split at c
  ·rename_i k m e;cases c;obtain⟨f,j⟩:=BY e;exact⟨f,fun i hi=>by simp only[ids]at hi ⊢;exact j i hi⟩
  ·cases c
 ·exact yR c
theorem AD:∀ {bs:List Bool} {xs e:List ag} {h:Nat→Option Obj} {u:hZ},frzL h bs xs=some (e,u)→sr u∧∀i∈bm e,i∈bm xs
 | _,[],e,h,u,c=>by simp only[frzL]at c;cases c;exact⟨fun p j=>by simp at j,fun i hi=>hi⟩
 | [],_::_,e,h,u,c=>by simp only[frzL]at c;cases c;exact⟨fun p j=>by simp at j,fun i hi=>hi⟩
 | false::bs,x::xs,e,h,u,c=>by
  simp only[frzL]at c;split at c
  ·rename_i k D m;cases c;obtain⟨q,v⟩:=AD m;refine⟨q,fun i hi=> ?_⟩;simp only[bm,List.mem_append]at hi ⊢;exact hi.imp (fun h=>h) (v i)
  ·cases c
 | true::bs,x::xs,e,h,u,c=>by
  simp only[frzL]at c;split at c
  ·rename_i y E m;split at c
   ·rename_i k I z;cases c;obtain⟨q,v⟩:=H6 m;obtain⟨B,C⟩:=AD z;refine⟨q.append B,fun i hi=> ?_⟩;simp only[bm,List.mem_append]at hi ⊢;exact hi.imp (v i) (C i)
   ·cases c
  ·cases c
theorem zE{u:hZ}(hu:sr u){i:Nat}{m:List ag}:∀ {h:Nat→Option Obj},apply u h i=some (.box m)→h i=some (.box m):=by
 induction u with
 | nil=>intro h hb;exact hb
 | cons p u v =>
  intro h hb;obtain⟨j,o⟩:=p;have c:=v (fun q x=>hu q (by simp[x])) hb;by_cases e:i=j
  ·subst e;rw[aw]at c;obtain⟨A,xs,k⟩:=hu (i,o) (by simp);simp only at k;rw[c]at k;cases k
  ·rw[aB _ _ e]at c;exact c
theorem BZ{xs:List ag}(c:∀i∈xf h xs,h i=h' i):JY h h' (bm xs):=fun i hi =>
 ⟨c i (List.mem_append_left _ hi),fun m e j k=>c j (List.mem_append_right _ (List.mem_flatMap.2 ⟨i,hi,by rw[e];exact k⟩))⟩
theorem xv{tb:bR}{new:Nat}{t:TypeId}{x:ag}{c hi:Option (Option Int)}(e:∀i∈ids x,h i=h' i):pj tb new t x c hi h=pj tb new t x c hi h':=by
 unfold pj;split
 ·split
  ·split <;> first
    | rfl
    | (rename_i id;rw[e id (by simp[ids])])
  ·rfl
 ·rfl
theorem xZ{new:Nat}{ti:TI}{x:ag}(q:∀i∈ids x,h i=h' i)(u:∀i∈ids x,∀e m A c k j,h i=some (.mat e m A c (some (k,j)))→h j=h' j):lV new ti x h=lV new ti x h':=by
 unfold lV;cases x <;> try rfl
 rename_i id i sz off;simp only;have v:=q id (by simp[ids]);have m:=u id (by simp[ids]);rw[←v];cases z:h id with
 | none=>rfl
 | some ob =>
  cases ob with
  | mat e B A c hole =>
   cases hole with
   | none=>rfl
   | some p =>
    obtain⟨k,j⟩:=p;simp only[m _ _ _ _ _ _ z]
  | _=>rfl
theorem wH{ti:TI}{x:ag}(e:∀i∈ids x,h i=h' i):mF ti x h=mF ti x h':=by
 unfold mF;split
 ·rename_i id b n i k _;have c:=e id (by simp[ids]);rw[c]
 ·rfl
theorem u9{ti:TI}{x y:ag}(f:∀i∈ids x,h i=h' i):kJ ti x y h=kJ ti x y h':=by
 unfold kJ;split
 ·rename_i id b n i _ k v;have c:=f id (by simp[ids]);rw[c]
 ·rfl
theorem vl{tb:bR}{t:TypeId}{x i:ag}(c:∀i∈ids x,h i=h' i):kH tb t x i h=kH tb t x i h':=by
 unfold kH;cases tb.find t with
 | none=>rfl
 | some ti =>
  simp only;split
  ·split
   ·split
    ·split
     ·rename_i id j sz off _ _ _;rw[c id (by simp[ids])]
     ·rfl
     ·rfl
    ·split
     ·split
      ·rename_i id j sz off _ _ _;rw[c id (by simp[ids])]
      ·rfl
     ·rfl
   ·rfl
  ·rfl
theorem qP{tb:bR}{t:TypeId}{x i:ag}(c:∀i∈ids x,h i=h' i):iH tb t x i h=iH tb t x i h':=by
 unfold iH;cases gU tb t with
 | none=>rfl
 | some q =>
  simp only;split
  ·rw[AY c]
  ·rfl
theorem vh{P:Program}{tb:bR}{t:TypeId}{x k:ag}{ok:Bool}(c:∀i∈ids x,h i=h' i):mL P tb t x k ok h=mL P tb t x k ok h':=by
 unfold mL;split
 ·split
  ·rename_i id;rw[c id (by simp[ids])]
  ·rfl
 ·rfl
theorem tR{P:Program}{tb:bR}{t:TypeId}{g:List Nat}{x k:ag}{ok:Bool}(c:∀i∈ids x,h i=h' i):ln P tb t g x k ok h=ln P tb t g x k ok h':=by
 unfold ln;split
 ·split
  ·rename_i id;rw[c id (by simp[ids])]
  ·rfl
 ·rfl
theorem lD{P:Program}{tb:bR}{t:TypeId}{x k y:ag}(c:∀i∈ids x,h i=h' i)(e:∀i∈ids y,h i=h' i):eV P tb t x k y h=eV P tb t x k y h':=by
 unfold eV;split
 ·split
  ·rename_i id;rw[c id (by simp[ids])];split
   ·split
    ·split
     ·rw[tw e]
     ·rfl
    ·rfl
   ·rfl
  ·rfl
 ·rfl
theorem kf{P:Program}{tb:bR}{t:TypeId}{x k y:ag}(c:∀i∈ids x,h i=h' i):ee P tb t x k y h=ee P tb t x k y h':=by
 unfold ee;split
 ·split
  ·rename_i id;rw[c id (by simp[ids])]
  ·rfl
 ·rfl
theorem Ar{id i:Nat}{e e2:TypeId}{A:Ty}{xss:List (List A.den)}{hole:Option (Nat×Nat)}{y:ag}(c:∀i∈ids y,h i=h' i)(f:∀k j,hole=some (k,j)→h j=h' j):ua id i e e2 A xss hole y h=ua id i e e2 A xss hole y h':=by
 unfold ua;cases y <;> try rfl
 rename_i r;simp only;rw[←c r (by simp[ids])];cases h r with
 | none=>rfl
 | some ob =>
  cases ob with
  | arr m B q =>
   cases hole with
   | none=>rfl
   | some p =>
    obtain⟨k,j⟩:=p;simp only[f k j rfl]
  | _=>rfl
theorem xm{tb:bR}{t:TypeId}{x y:ag}(p:∀i∈ids x,h i=h' i)(q:∀i∈ids y,h i=h' i)(u:∀i∈ids x,∀e e2 A xss k j,h i=some (.mat e e2 A xss (some (k,j)))→h j=h' j):pA tb t x y h=pA tb t x y h':=by
 unfold pA;cases tb.find t with
 | none=>rfl
 | some ti =>
  simp only;split
  ·cases x <;> try rfl
   case ada=>exact u9 p
   rename_i id i sz off;simp only;have c:=p id (by simp[ids]);have m:=u id (by simp[ids]);rw[←c];cases v:h id with
   | none=>rfl
   | some ob =>
    cases ob with
    | arr e A xs=>simp only[BS (A:=A) (xs:=xs) (i:=i) (off:=off) q]
    | fz _ _=>rfl
    | box _=>rfl
    | mpo _ _ _=>rfl
    | mpl _ _=>rfl
    | bytes _ _=>rfl
    | cutz _ _=>rfl
    | lmp _ _ _ _=>rfl
    | vrow _ _ _=>rfl
    | mat e e2 A xss hole=>simp only[Ar (id:=id) (i:=i) (e:=e) (e2:=e2) (A:=A) (xss:=xss) (hole:=hole) q (fun k j z=>m e e2 A xss k j (by rw[v,z]))]
  ·rfl
theorem vp{tb:bR}{new:Nat}{t:TypeId}{x y:ag}(c:∀i∈ids x,h i=h' i)(j:∀i∈ids y,h i=h' i):mB tb new t x y h=mB tb new t x y h':=by
 unfold mB;cases gU tb t with
 | none=>rfl
 | some p =>
  obtain⟨e,k,A⟩:=p;simp only[ma (A:=A) j];cases dS h' A y with
  | none=>rfl
  | some m =>
   simp only;cases x <;> try rfl
   rename_i id;simp only;rw[c id (by simp[ids])]
theorem yb{tb:bR}{t:TypeId}{x y:ag}(c:∀i∈ids x,h i=h' i)(j:∀i∈ids y,h i=h' i):sa tb t x y h=sa tb t x y h':=by
 unfold sa;cases gU tb t with
 | none=>rfl
 | some p =>
  obtain⟨e,k,A⟩:=p;simp only[ma (A:=A) j];cases dS h' A y with
  | none=>rfl
  | some m =>
   simp only;cases x <;> try rfl
   rename_i id;simp only;rw[c id (by simp[ids])]
end
def eG(s:Nat→ag)(op:Op):List ag:=op.operands.toList.map (ev s)
theorem eU{s:Nat→ag}{op:Op}{x:Operand}(c:x∈op.operands.toList):∀i∈ids (ev s x),i∈bm (eG s op):=fun _ hi =>
 cm.2 ⟨ev s x,List.mem_map.2 ⟨x,c,rfl⟩,hi⟩
def xw(h:Nat→Option Obj)(c:List ag):List Nat :=
 bm c++(bm c).flatMap fun i=>match h i with
  | some (.mat _ _ _ _ (some (_,j)))=>[j]
  | _=>[]
theorem xM{h:Nat→Option Obj}{xs:List ag}{i:Nat}{e m:TypeId}{A:Ty}{c:List (List A.den)}{k j:Nat}(hi:i∈bm xs)(p:h i=some (.mat e m A c (some (k,j)))):j∈xw h xs :=
 List.mem_append_right _ (List.mem_flatMap.2 ⟨i,hi,by rw[p];exact .head _⟩)
def jM(h:Nat→Option Obj)(op:Op)(xs:List ag):List Nat :=
 match op with
 | .call _=>xf h xs
 | .load _ _=>xw h xs
 | .store _ _ _=>xw h xs
 | .move _=>[]
 | .assign _=>[]
 | .nilCheck _=>[]
 | .fieldAddr _ _ _=>[]
 | _=>bm xs
theorem CQ{P:Program}{tb:bR}{new:Nat}{asm:Option Bool}{jb:Option wo}{op:Op}{s O:Nat→ag}{h h':Nat→Option Obj}
  (v:∀x∈op.operands.toList,ev s x=ev O x) (hh:∀i∈jM h op (eG s op),h i=h' i):gM P tb new asm jb op s h=gM P tb new asm jb op O h':=by
 by_cases J:(∃x,op = .move x)∨(∃x,op = .assign x)∨(∃x,op = .nilCheck x)∨∃t x f,op = .fieldAddr t x f
 ·rcases J with⟨x,rfl⟩ | ⟨x,rfl⟩ | ⟨x,rfl⟩ | ⟨t,x,f,rfl⟩ <;> simp only[gM,v x (by simp[Op.operands])]
 have a3:∀i∈bm (eG s op),h i=h' i:=fun i hi=>by
  refine hh i ?_;unfold jM;split
  ·exact List.mem_append_left _ hi
  ·exact List.mem_append_left _ hi
  ·exact List.mem_append_left _ hi
  ·rename_i x;exact absurd (.inl ⟨x,rfl⟩) J
  ·rename_i x;exact absurd (.inr (.inl ⟨x,rfl⟩)) J
  ·rename_i x;exact absurd (.inr (.inr (.inl ⟨x,rfl⟩))) J
  ·rename_i t x f;exact absurd (.inr (.inr (.inr ⟨t,x,f,rfl⟩))) J
  ·exact hi
 have key:∀x∈op.operands.toList,∀i∈ids (ev s x),h i=h' i:=fun x R i hi=>a3 i (eU R i hi)
 cases op with
 | move x=>simp only[gM,v x (by simp[Op.operands])]
 | assign x=>simp only[gM,v x (by simp[Op.operands])]
 | pick c x y =>
  have e:∀b:Bool,ev s (if b=true then x else y)=ev O (if b=true then x else y):=fun b=>by
   cases b
   ·exact v y (by simp[Op.operands])
   ·exact v x (by simp[Op.operands])
  simp only[gM,Aw,v c (by simp[Op.operands]),e,v x (by simp[Op.operands]),v y (by simp[Op.operands])]
 | alloc t=>rfl
 | box t x=>simp only[gM,v x (by simp[Op.operands])]
 | build t ps =>
  simp only[gM];have e:ps.toList.map (fun p=>ev s p.2)=ps.toList.map (fun p=>ev O p.2):=List.map_congr_left (fun p C=>v p.2 (by simp only[Op.operands,List.mem_map];exact⟨p,C,rfl⟩));rw[e]
 | buildSlice t len ps =>
  simp only[gM];have e:ps.toList.map (fun p=>ev s p.2)=ps.toList.map (fun p=>ev O p.2):=List.map_congr_left (fun p C=>v p.2 (by simp only[Op.operands,List.mem_map];exact⟨p,C,rfl⟩));rw[←e];unfold mg;cases gU tb t with
  | none=>rfl
  | some q =>
   obtain⟨e,te,A⟩:=q;simp only;split
   ·rw[vJ (A:=A) (fun i hi=>by
     obtain⟨y,D,hi⟩:=cm.1 hi;obtain⟨p,C,rfl⟩:=List.mem_map.1 D;exact key p.2 (by simp only[Op.operands,List.mem_map];exact⟨p,C,rfl⟩) i hi)]
   ·rfl
 | load t x =>
  simp only[gM,←v x (by simp[Op.operands])];have R:=key x (by simp[Op.operands]);have e2:∀ti,lV new ti (ev s x) h=lV new ti (ev s x) h':=fun ti=>xZ R (fun i hi e e2 A a4 k j hm=>hh j (xM (eU (by simp[Op.operands]) i hi) hm))
  unfold Ao;simp only[xY R,wH R,e2]
 | store t x y =>
  simp only[gM,←v x (by simp[Op.operands]),←v y (by simp[Op.operands])];exact xm (key x (by simp[Op.operands])) (key y (by simp[Op.operands])) (fun i hi e e2 A a4 k j hm=>hh j (xM (eU (by simp[Op.operands]) i hi) hm))
 | binOp o t x y t'=>simp only[gM,v x (by simp[Op.operands]),v y (by simp[Op.operands])]
 | unOp o t x=>simp only[gM,v x (by simp[Op.operands])]
 | nilCheck x=>simp only[gM,v x (by simp[Op.operands])]
 | convert st dt x =>
  simp only[gM,←v x (by simp[Op.operands])];cases jb with
  | some _=>rfl
  | none=> ?_
  simp only;unfold zQ;cases tb.find st with
  | none=>rfl
  | some si =>
   cases tb.find dt with
   | none=>rfl
   | some di =>
    simp only;cases Ga tb di.k (ev s x)with
    | some r=>rfl
    | none=>simp only[Dg (s:=si.k) (d:=di.k) (key x (by simp[Op.operands]))]
 | slice t x lo hi mx =>
  cases mx with
  | some mo =>
   cases hi with
   | none=>rfl
   | some a5 =>
    have e1:qd s lo=qd O lo:=by
     cases lo with
     | none=>rfl
     | some y=>simp only[qd,v y (by simp[Op.operands])]
    simp only[gM,←v x (by simp[Op.operands]),←v a5 (by simp[Op.operands]),←v mo (by simp[Op.operands]),←e1];have R:=key x (by simp[Op.operands]);cases jb with
    | some _ =>
     simp only;unfold CS;rw[nB R]
    | none=> ?_
    simp only;unfold tJ;split
    ·split
     ·rfl
     ·rename_i id ex;rw[R id (by rw[ex];simp[ids])]
     ·rfl
    ·rfl
  | none =>
   have e1:qd s lo=qd O lo:=by
    cases lo with
    | none=>rfl
    | some y=>simp only[qd,v y (by simp[Op.operands])]
   have e2:qd s hi=qd O hi:=by
    cases hi with
    | none=>rfl
    | some y=>simp only[qd,v y (by simp[Op.operands])]
   simp only[gM,←v x (by simp[Op.operands]),←e1,←e2];exact xv (key x (by simp[Op.operands]))
 | fieldAddr t x f=>simp only[gM,v x (by simp[Op.operands])]
 | indexAddr t x i =>
  simp only[gM,←v x (by simp[Op.operands]),←v i (by simp[Op.operands])];simp only[vl (key x (by simp[Op.operands])),qP (key x (by simp[Op.operands]))]
 | index t x i=>simp only[gM,v x (by simp[Op.operands]),v i (by simp[Op.operands])]
 | extract x i=>simp only[gM,v x (by simp[Op.operands])]
 | typeAssert x xt t ok=>simp only[gM,v x (by simp[Op.operands])]
 | makeFunc f fs cs =>
  simp only[gM];rw[List.map_congr_left (f:=ev s) (g:=ev O) (fun p C=>v p (by simp only[Op.operands,Array.toList_append,List.mem_append];exact .inr C))]
 | makeSlice t l c=>simp only[gM,v l (by simp[Op.operands]),v c (by simp[Op.operands])]
 | call c =>
  obtain⟨callee,args,E⟩:=c;have B:∀x∈args.toList,x∈(Op.call { callee,args,argTypes:=E }).operands.toList:=fun x R=>by simp only[Op.operands,Call.operands,Array.toList_append,List.mem_append];exact .inr R
  have e:args.toList.map (ev s)=args.toList.map (ev O):=List.map_congr_left (fun p C=>v p (B p C));have X:∀y∈args.toList.map (ev s),∀i∈ids y,h i=h' i:=fun y D i hi=>by obtain⟨p,C,rfl⟩:=List.mem_map.1 D;exact key p (B p C) i hi
  have hc:=BZ (h':=h') (xs:=eG s (Op.call { callee,args,argTypes:=E })) hh;simp only[gM,pY];cases callee with
  | builtin b =>
   simp only[←e];unfold qR;split
   ·rename_i y t V et;split
    ·unfold uf;split
     ·split
      ·rename_i id _ _;rw[X (.mp id) (by rw[V];simp) id (by simp[ids])]
      ·rfl
     ·rfl
    ·unfold Dq;rw[BR (X y (by rw[V];simp))]
   ·rfl
   ·rfl
   ·rename_i y z t t' V et;split
    ·exact vp (X y (by rw[V];simp)) (X z (by rw[V];simp))
    ·rfl
   ·rename_i y z t t' V et;exact yb (X y (by rw[V];simp)) (X z (by rw[V];simp))
   ·rfl
  | value f =>
   have hf:f∈(Op.call { callee:= .value f,args,argTypes:=E }).operands.toList:=by simp[Op.operands,Call.operands]
   simp only[←e,←v f hf];generalize a6:gN tb (IK jb) E.toList (args.toList.map (ev s))=xs;have Y:∀i∈bm xs,i∈bm (args.toList.map (ev s)):=fun i hi=>by rw[←a6,nZ]at hi;exact hi
   unfold vt;split
   ·rename_i fid a2 q ef;have hin:∀i∈bm (BK (ev s f)::xs),i∈bm (eG s (Op.call { callee:= .value f,args,argTypes:=E })):=fun i hi=>by
     simp only[bm,List.mem_append]at hi;rcases hi with hi | hi
     ·exact eU hf i (Cz i hi)
     ·obtain⟨y,D,I⟩:=cm.1 (Y i hi);obtain⟨p,C,rfl⟩:=List.mem_map.1 D;exact eU (B p C) i I
    rw[qJ (bs:=q.fl) (h:=h) (h':=h') (fun i hi=>by
     obtain⟨y,D,I⟩:=cm.1 (Y i hi);exact X y D i I)]
    cases a7:frzL h' q.fl xs with
    | none=>rfl
    | some p =>
     obtain⟨ys,u⟩:=p;obtain⟨z1,z2⟩:=AD a7;have L:JY (apply u h) (apply u h') (bm (ys++a2)):=fun i hi=>by
      have Z:i∈bm (eG s (Op.call { callee:= .value f,args,argTypes:=E })):=by
       obtain⟨y,D,I⟩:=cm.1 hi;rcases List.mem_append.1 D with D | D
       ·obtain⟨y2,a8,Z⟩:=cm.1 (Y i (z2 i (cm.2 ⟨y,D,I⟩)));obtain⟨p,C,rfl⟩:=List.mem_map.1 a8;exact eU (B p C) i Z
       ·refine eU hf i (Cz i ?_);rw[ef];simp only[ids];exact cm.2 ⟨y,D,I⟩
      obtain⟨c1,c2⟩:=hc i Z;exact⟨gf c1 u,fun cs M j hj=>gf (c2 cs (zE z1 M) j hj) u⟩
     simp only;split
     ·have N:xf h (BK (ev s f)::xs)=xf h' (BK (ev s f)::xs):=by
       unfold xf;congr 1;refine wm fun i hi=> ?_
       rw[(hc i (hin i hi)).1]
      rw[N];split
      ·rename_i hg;have a9:∀i∈q.g,h i=h' i:=fun i hi=>by
        have:=List.all_eq_true.1 hg i hi;rw[←N]at this;simp only[List.contains_eq_mem,decide_eq_true_eq]at this;unfold xf at this;rcases List.mem_append.1 this with h1 | h1
        ·exact(hc i (hin i h1)).1
        ·obtain⟨j,hj,a1⟩:=List.mem_flatMap.1 h1;split at a1
         ·rename_i cs M;exact(hc j (hin j hj)).2 cs M i a1
         ·cases a1
       rw[A9 (g:=q.g) (h:=apply u h) (h':=apply u h') (fun i hi=>gf (a9 i hi) u),
        uI (g:=q.g) (h:=less q.g (apply u h)) (h':=less q.g (apply u h')) (fun i hi=>⟨wX (L i hi).1,fun cs M j hj=>wX ((L i hi).2 cs (rK M).1 j hj)⟩)]
      ·rfl
     ·rw[pC (h:=apply u h) (h':=apply u h') L]
   ·rfl
  | invoke r m=>rfl
 | makeMap t r=>cases r <;> rfl
 | lookup t x k ok =>
  simp only[gM,←v x (by simp[Op.operands]),←v k (by simp[Op.operands])];rw[vh (key x (by simp[Op.operands])),tR (key x (by simp[Op.operands]))]
 | mapUpdate t x k y =>
  simp only[gM,←v x (by simp[Op.operands]),←v k (by simp[Op.operands]),←v y (by simp[Op.operands])];rw[lD (key x (by simp[Op.operands])) (key y (by simp[Op.operands])),kf (key x (by simp[Op.operands]))]
 | insert t x k y =>
  simp only[gM,←v x (by simp[Op.operands]),←v k (by simp[Op.operands]),←v y (by simp[Op.operands])];rw[lD (key x (by simp[Op.operands])) (key y (by simp[Op.operands])),kf (key x (by simp[Op.operands]))]
 | _=>rfl
theorem yO{P:Program}{tb:bR}{new:Nat}{asm:Option Bool}{jb:Option wo}{op:Op}{s p:Nat→ag}{h h':Nat→Option Obj}
  (z:∀x∈op.operands.toList,ev s x=ev p x) (q:∀i∈jM h op (eG s op),h i=h' i):Fk P tb new asm jb op s h=Fk P tb new asm jb op p h':=by
 have key:∀x∈op.operands.toList,(¬((∃x,op = .move x)∨(∃x,op = .assign x)∨(∃x,op = .nilCheck x)∨∃t x f,op = .fieldAddr t x f))→∀i∈ids (ev s x),h i=h' i:=fun x m j i hi=>by
  have k:=eU m i hi;refine q i ?_;unfold jM;split
  ·exact List.mem_append_left _ k
  ·exact List.mem_append_left _ k
  ·exact List.mem_append_left _ k
  ·rename_i x;exact absurd (.inl ⟨x,rfl⟩) j
  ·rename_i x;exact absurd (.inr (.inl ⟨x,rfl⟩)) j
  ·rename_i x;exact absurd (.inr (.inr (.inl ⟨x,rfl⟩))) j
  ·rename_i t x f;exact absurd (.inr (.inr (.inr ⟨t,x,f,rfl⟩))) j
  ·exact k
 have B:ja P tb new jb op s h=ja P tb new jb op p h':=DW z key (fun c u D C=>by
  subst u;have v:=BZ (h':=h') (xs:=eG s (Op.call c)) q;refine pC fun i hi=> ?_
  obtain⟨x,m,hi⟩:=C i hi;exact v i (eU m i hi)) (fun c u A x m=>by
  subst u;exact ma (fun i hi=>key x m (by rintro(⟨_,e⟩ | ⟨_,e⟩ | ⟨_,e⟩ | ⟨_,_,_,e⟩) <;> cases e) i hi))
 unfold Fk;rw[B,CQ z q]
end Go.Tv
