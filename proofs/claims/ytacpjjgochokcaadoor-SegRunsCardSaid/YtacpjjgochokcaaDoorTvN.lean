/- What an operation's outcome hangs on. -/
import Derived.Test.YtacpjjgochokcaaDoorTvM
namespace Go.Tv
open Go Go.RowKit
theorem j7{h h':Nat→Option Obj}{i:Nat}(e:h i=h' i):∀(u:mV),apply u h i=apply u h' i:=fun u=>by
 induction u generalizing h h' with
 | nil=>exact e
 | cons p u ih =>
  obtain⟨j,o⟩:=p
  simp only[apply]
  refine ih ?_
  by_cases hj:i=j
  ·subst hj;rw[aV,aV]
  ·rw[bN _ _ hj,bN _ _ hj];exact e
section
variable{h h':Nat→Option Obj}
theorem yH{x:AVal}(hh:∀i∈dU x,h i=h' i):lX h x=lX h' x:=by
 cases x <;> try rfl
 rename_i id
 simp only[lX,hh id (by simp[dU])]
theorem uG:∀ {xs:List AVal} {h h':Nat→Option Obj},(∀i∈bQ xs,h i=h' i)→vN h xs=vN h' xs
 | [],_,_,_=>rfl
 | x::xs,h,h',hh=>by
  simp only[vN,yH (x:=x) (fun i hi=>hh i (by simp[bQ,hi]))]
  cases hd:lX h' x with
  | none=>rfl
  | some p =>
   obtain⟨y,u⟩:=p
   simp only[uG (xs:=xs) (h:=apply u h) (h':=apply u h') (fun i hi=>j7 (hh i (by simp[bQ,hi])) u)]
theorem E0{x:AVal}:bQ (cellsOf x)=dU x:=by
 cases x <;> simp[cellsOf,bQ,dU]
theorem aC0{T:Ty}{x:AVal}(hh:∀i∈dU x,h i=h' i):aEP T h x=aEP T h' x:=by
 unfold aEP
 rw[uG (xs:=cellsOf x) (by rw[E0];exact hh)]
theorem zN{T:Ty}{x:AVal}(hh:∀i∈dU x,h i=h' i):toT T h x=toT T h' x:=by
 unfold toT
 split
 ·rename_i id i sz off
  rw[hh id (by simp[dU])]
 ·exact aC0 hh
theorem Q3{A:Ty}:∀ {xs:List AVal} {h h':Nat→Option Obj},(∀i∈bQ xs,h i=h' i)→aCf A h xs=aCf A h' xs
 | [],_,_,_=>rfl
 | x::xs,h,h',hh=>by
  simp only[aCf,zN (x:=x) (T:=A) (fun i hi=>hh i (by simp[bQ,hi]))]
  cases hd:toT A h' x with
  | none=>rfl
  | some p =>
   obtain⟨y,u⟩:=p
   simp only[Q3 (xs:=xs) (h:=apply u h) (h':=apply u h') (fun i hi=>j7 (hh i (by simp[bQ,hi])) u)]
theorem S6{x:AVal}(hh:∀i∈dU x,h i=h' i):qJ h x=qJ h' x:=by
 unfold qJ
 split <;> first
  | rfl
  | (rename_i id;rw[hh id (by simp[dU])])
  | (rename_i id i sz off;rw[hh id (by simp[dU])])
theorem aB1{x:AVal}{i:Int}(hh:∀i∈dU x,h i=h' i):U7 h x i=U7 h' x i:=by
 unfold U7
 split <;> first
  | rfl
  | (rename_i id;rw[hh id (by simp[dU])])
  | (rename_i id i sz off;rw[hh id (by simp[dU])])
theorem aBe{x:AVal}(hh:∀i∈dU x,h i=h' i):lenOf h x=lenOf h' x:=by
 unfold lenOf
 split <;> first
  | rfl
  | (rename_i id;rw[hh id (by simp[dU])])
  | (rename_i id i sz off;rw[hh id (by simp[dU])])
theorem aCQ{s d:TK}{x:AVal}(hh:∀i∈dU x,h i=h' i):conv s d h x=conv s d h' x:=by
 unfold conv
 split <;> first
  | rfl
  | (rename_i id;rw[hh id (by simp[dU])])
  | (rename_i id i sz off;rw[hh id (by simp[dU])])
theorem vQ{A:Ty}{x:AVal}(hh:∀i∈dU x,h i=h' i):l4 h A x=l4 h' A x:=by
 unfold l4
 split <;> first
  | rfl
  | (rename_i id;rw[hh id (by simp[dU])])
  | (rename_i id i sz off;rw[hh id (by simp[dU])])
theorem P9(β:Bool):∀(T:Ty) (x:T.den),bQ (lO β T x)=[]
 | .unit,_=>rfl
 | .prod a b,x=>by
  have h1:=P9 β a x.1
  have h2:=P9 β b x.2
  apply List.eq_nil_iff_forall_not_mem.2
  intro i hi
  simp only[lO,fF,List.mem_append]at hi
  obtain⟨y,hy,hi⟩:=hi
  rcases hy with hy | hy
  ·have:i∈bQ (lO β a x.1):=fF.2 ⟨y,hy,hi⟩
   rw[h1]at this;cases this
  ·have:i∈bQ (lO β b x.2):=fF.2 ⟨y,hy,hi⟩
   rw[h2]at this;cases this
 | .int _,_=>rfl
 | .bool,_=>rfl
 | .str,_=>rfl
 | .flt,_=>rfl
 | .slice _,_=>rfl
 | .ptr _,_=>rfl
 | .tree _ _,_=>rfl
theorem aJc{cs new:List AVal}{p i:Nat}(hi:i∈bQ (wr cs p new)):i∈bQ cs∨i∈bQ new:=by
 obtain⟨y,hy,hi⟩:=fF.1 hi
 simp only[wr,List.mem_append]at hy
 rcases hy with(hy | hy) | hy
 ·exact .inl (fF.2 ⟨y,List.mem_of_mem_take hy,hi⟩)
 ·exact .inr (fF.2 ⟨y,hy,hi⟩)
 ·exact .inl (fF.2 ⟨y,List.mem_of_mem_drop hy,hi⟩)
theorem aBg{A:Ty}{xs:List A.den}{i off:Nat}{y:AVal}(hh:∀i∈dU y,h i=h' i):aB6 A h xs i off y=aB6 A h' xs i off y:=by
 unfold aB6
 refine zN fun j hj=> ?_
 simp only[dU]at hj
 rcases aJc hj with h1 | h1
 ·rw[P9]at h1;cases h1
 ·rw[E0]at h1;exact hh j h1
theorem E6{x:AVal}(hh:∀i∈dU x,h i=h' i):N8 h x=N8 h' x:=by
 cases x <;> try rfl
 rename_i id
 simp only[N8,hh id (by simp[dU])]
theorem sD:∀ {xs:List AVal},(∀i∈bQ xs,h i=h' i)→tA h xs=tA h' xs
 | [],_=>rfl
 | x::xs,hh=>by
  simp only[tA,E6 (x:=x) (fun i hi=>hh i (by simp[bQ,hi])),sD (xs:=xs) (fun i hi=>hh i (by simp[bQ,hi]))]
def Clo(h h':Nat→Option Obj)(I:List Nat):Prop:=∀i∈I,h i=h' i∧∀cs,h i=some (.box cs)→∀j∈bQ cs,h j=h' j
theorem E1{x:AVal}(hh:Clo h h' (dU x)):yL h x=yL h' x:=by
 have h0:∀i∈dU x,h i=h' i:=fun i hi=>(hh i hi).1
 cases x <;> try rfl
 ·simp only[yL,E6 h0]
 ·rename_i id i sz off
  simp only[yL]
  have h1:=hh id (by simp[dU])
  rw[←h1.1]
  cases he:h id with
  | none=>rfl
  | some ob =>
   cases ob with
   | box cs=>simp only[sD (xs:=cs) (h:=h) (h':=h') (h1.2 cs he)]
   | arr _ _ _=>rfl
   | fz _ _=>rfl
   | mpo _ _ _=>rfl
   | mpl _ _=>rfl
   | mat _ _ _ _ _=>rfl
 ·rename_i cs
  simp only[yL]
  rw[sD (xs:=cs) (h:=h) (h':=h') (fun i hi=>h0 i (by simpa [dU]using hi))]
theorem yX:∀ {xs:List AVal},Clo h h' (bQ xs)→wM h xs=wM h' xs
 | [],_=>rfl
 | x::xs,hh=>by
  simp only[wM,E1 (x:=x) (fun i hi=>hh i (by simp[bQ,hi])),yX (xs:=xs) (fun i hi=>hh i (by simp[bQ,hi]))]
theorem M6{x:AVal}(hh:Clo h h' (dU x)):aA7 h x=aA7 h' x:=by
 cases x <;> try (simp only[aA7];exact E1 hh)
 rename_i f cs
 simp only[aA7]
 rw[yX (xs:=cs) (h:=h) (h':=h') (fun i hi=>hh i (by simpa [dU]using hi))]
theorem E5:∀ {xs:List AVal},Clo h h' (bQ xs)→C8 h xs=C8 h' xs
 | [],_=>rfl
 | x::xs,hh=>by
  simp only[C8,M6 (x:=x) (fun i hi=>hh i (by simp[bQ,hi])),E5 (xs:=xs) (fun i hi=>hh i (by simp[bQ,hi]))]
theorem J1{g:List Nat}{i:Nat}(e:h i=h' i):less g h i=less g h' i:=by
 unfold less
 split
 ·rfl
 ·exact e
theorem M3{α β:Type}{l:List α}{f f':α→List β}(e:∀x∈l,f x=f' x):l.flatMap f=l.flatMap f':=by
 induction l with
 | nil=>rfl
 | cons x l ih=>simp only[List.flatMap_cons,e x (by simp),ih (fun y hy=>e y (by simp[hy]))]
theorem C3{g:List Nat}:∀ {xs:List AVal},Clo h h' (bQ xs)→yB g h xs=yB g h' xs
 | [],_=>rfl
 | x::xs,hh=>by
  have e:V9 g h x=V9 g h' x:=by
   unfold V9
   rw[M6 (x:=x) (fun i hi=>hh i (by simp[bQ,hi]))]
  simp only[yB,e,C3 (xs:=xs) (fun i hi=>hh i (by simp[bQ,hi]))]
theorem aB7{g:List Nat}{h h':Nat→Option Obj}(hg:∀i∈g,h i=h' i):nN g h 0 g=nN g h' 0 g:=by
 have key:∀(l:List Nat) (k:Nat),(∀i∈l,i∈g)→nN g h k l=nN g h' k l:=fun l=>by
  induction l with
  | nil=>intro k _;rfl
  | cons x l ih =>
   intro k hl
   simp only[nN,hg x (hl x (by simp)),ih (k+1) (fun i hi=>hl i (by simp[hi]))]
 exact key g 0 fun _ h=>h
theorem aCH{x:AVal}(hh:∀i∈dU x,h i=h' i):U1 h x=U1 h' x:=by
 cases x <;> try (simp only[U1];exact yH hh)
 rename_i cs
 simp only[U1]
 rw[uG (xs:=cs) (h:=h) (h':=h') (fun i hi=>hh i (by simpa [dU]using hi))]
theorem wX:∀ {bs:List Bool} {xs:List AVal} {h h':Nat→Option Obj},(∀i∈bQ xs,h i=h' i)→sG h bs xs=sG h' bs xs
 | _,[],_,_,_=>by simp only[sG]
 | [],_::_,_,_,_=>rfl
 | false::bs,x::xs,h,h',hh=>by
  simp only[sG,wX (bs:=bs) (xs:=xs) (h:=h) (h':=h') (fun i hi=>hh i (by simp[bQ,hi]))]
 | true::bs,x::xs,h,h',hh=>by
  simp only[sG,aCH (x:=x) (h:=h) (h':=h') (fun i hi=>hh i (by simp[bQ,hi]))]
  cases U1 h' x with
  | none=>rfl
  | some p =>
   obtain⟨y,u⟩:=p
   simp only[wX (bs:=bs) (xs:=xs) (h:=apply u h) (h':=apply u h') (fun i hi=>j7 (hh i (by simp[bQ,hi])) u)]
def AllFz(u:mV):Prop:=∀p∈u,∃A xs,p.2=some (.fz A xs)
theorem AllFz.append{u v:mV}(hu:AllFz u)(hv:AllFz v):AllFz (u++v):=fun p hp=>(List.mem_append.1 hp).elim (hu p) (hv p)
theorem X8{x y:AVal}{u:mV}(hd:lX h x=some (y,u)):AllFz u∧∀i∈dU y,i∈dU x:=by
 unfold lX at hd
 split at hd
 ·split at hd
  ·cases hd;exact⟨fun p hp=>by simp at hp;subst hp;exact⟨_,_,rfl⟩,fun i hi=>by simp[dU]at hi⟩
  ·cases hd;exact⟨fun p hp=>by simp at hp,fun i hi=>by simp[dU]at hi⟩
  ·cases hd;exact⟨fun p hp=>by simp at hp;subst hp;exact⟨_,_,rfl⟩,fun i hi=>by simp[dU]at hi⟩
  ·cases hd
 ·cases hd;exact⟨fun p hp=>by simp at hp,fun i hi=>hi⟩
theorem aBj:∀ {xs ys:List AVal} {h:Nat→Option Obj} {u:mV},vN h xs=some (ys,u)→AllFz u∧∀i∈bQ ys,i∈bQ xs
 | [],ys,h,u,hd=>by cases hd;exact⟨fun p hp=>by simp at hp,fun i hi=>hi⟩
 | x::xs,ys,h,u,hd=>by
  simp only[vN]at hd
  split at hd
  ·rename_i y u1 h1
   split at hd
   ·rename_i ys' us h2
    cases hd
    obtain⟨q1,q2⟩:=X8 h1
    obtain⟨r1,r2⟩:=aBj h2
    refine⟨q1.append r1,fun i hi=> ?_⟩
    simp only[bQ,List.mem_append]at hi ⊢
    exact hi.imp (q2 i) (r2 i)
   ·cases hd
  ·cases hd
theorem aHm{x y:AVal}{u:mV}(hd:U1 h x=some (y,u)):AllFz u∧∀i∈dU y,i∈dU x:=by
 unfold U1 at hd
 split at hd
 ·split at hd
  ·rename_i ds u' h1
   cases hd
   obtain⟨q1,q2⟩:=aBj h1
   exact⟨q1,fun i hi=>by simp only[dU]at hi ⊢;exact q2 i hi⟩
  ·cases hd
 ·exact X8 hd
theorem aAy:∀ {bs:List Bool} {xs ys:List AVal} {h:Nat→Option Obj} {u:mV},sG h bs xs=some (ys,u)→AllFz u∧∀i∈bQ ys,i∈bQ xs
 | _,[],ys,h,u,hd=>by simp only[sG]at hd;cases hd;exact⟨fun p hp=>by simp at hp,fun i hi=>hi⟩
 | [],_::_,ys,h,u,hd=>by simp only[sG]at hd;cases hd;exact⟨fun p hp=>by simp at hp,fun i hi=>hi⟩
 | false::bs,x::xs,ys,h,u,hd=>by
  simp only[sG]at hd
  split at hd
  ·rename_i ys' u' h1
   cases hd
   obtain⟨q1,q2⟩:=aAy h1
   refine⟨q1,fun i hi=> ?_⟩
   simp only[bQ,List.mem_append]at hi ⊢
   exact hi.imp (fun h=>h) (q2 i)
  ·cases hd
 | true::bs,x::xs,ys,h,u,hd=>by
  simp only[sG]at hd
  split at hd
  ·rename_i y u1 h1
   split at hd
   ·rename_i ys' us h2
    cases hd
    obtain⟨q1,q2⟩:=aHm h1
    obtain⟨r1,r2⟩:=aAy h2
    refine⟨q1.append r1,fun i hi=> ?_⟩
    simp only[bQ,List.mem_append]at hi ⊢
    exact hi.imp (q2 i) (r2 i)
   ·cases hd
  ·cases hd
theorem aAa{u:mV}(hu:AllFz u){i:Nat}{cs:List AVal}:∀ {h:Nat→Option Obj},apply u h i=some (.box cs)→h i=some (.box cs):=by
 induction u with
 | nil=>intro h hb;exact hb
 | cons p u ih =>
  intro h hb
  obtain⟨j,o⟩:=p
  have h1:=ih (fun q hq=>hu q (by simp[hq])) hb
  by_cases e:i=j
  ·subst e
   rw[aV]at h1
   obtain⟨A,xs,h2⟩:=hu (i,o) (by simp)
   simp only at h2
   rw[h1]at h2
   cases h2
  ·rw[bN _ _ e]at h1;exact h1
theorem aFW{xs:List AVal}(hh:∀i∈L8 h xs,h i=h' i):Clo h h' (bQ xs):=fun i hi =>
 ⟨hh i (List.mem_append_left _ hi),fun cs hc j hj=>hh j (List.mem_append_right _ (List.mem_flatMap.2 ⟨i,hi,by rw[hc];exact hj⟩))⟩
theorem S3{tb:Tab}{new:Nat}{t:TypeId}{x:AVal}{lo hi:Option (Option Int)}(hh:∀i∈dU x,h i=h' i):uD tb new t x lo hi h=uD tb new t x lo hi h':=by
 unfold uD
 split
 ·split
  ·split <;> first
    | rfl
    | (rename_i id;rw[hh id (by simp[dU])])
  ·rfl
 ·rfl
theorem S9{new:Nat}{ti:TI}{x:AVal}(hx:∀i∈dU x,h i=h' i)(ho:∀i∈dU x,∀e e2 A xss k j,h i=some (.mat e e2 A xss (some (k,j)))→h j=h' j):pP new ti x h=pP new ti x h':=by
 unfold pP
 cases x <;> try rfl
 rename_i id i sz off
 simp only
 have e1:=hx id (by simp[dU])
 have e2:=ho id (by simp[dU])
 rw[←e1]
 cases hm:h id with
 | none=>rfl
 | some ob =>
  cases ob with
  | mat e e2' A xss hole =>
   cases hole with
   | none=>rfl
   | some p =>
    obtain⟨k,j⟩:=p
    simp only[e2 _ _ _ _ _ _ hm]
  | _=>rfl
theorem N4{ti:TI}{x:AVal}(hx:∀i∈dU x,h i=h' i):rH ti x h=rH ti x h':=by
 unfold rH
 split
 ·rename_i id b n i k _
  have hid:=hx id (by simp[dU])
  rw[hid]
 ·rfl
theorem F8{ti:TI}{x y:AVal}(hx:∀i∈dU x,h i=h' i):oR ti x y h=oR ti x y h':=by
 unfold oR
 split
 ·rename_i id b n i _ k v
  have hid:=hx id (by simp[dU])
  rw[hid]
 ·rfl
theorem F5{tb:Tab}{t:TypeId}{x i:AVal}(hx:∀i∈dU x,h i=h' i):oU tb t x i h=oU tb t x i h':=by
 unfold oU
 cases tb.find t with
 | none=>rfl
 | some ti =>
  simp only
  split
  ·split
   ·split
    ·split
     ·rename_i id j sz off _ _ _
      rw[hx id (by simp[dU])]
     ·rfl
     ·rfl
    ·split
     ·split
      ·rename_i id j sz off _ _ _
       rw[hx id (by simp[dU])]
      ·rfl
     ·rfl
   ·rfl
  ·rfl
theorem wY{tb:Tab}{t:TypeId}{x i:AVal}(hx:∀i∈dU x,h i=h' i):lZ tb t x i h=lZ tb t x i h':=by
 unfold lZ
 cases nY tb t with
 | none=>rfl
 | some q =>
  simp only
  split
  ·rw[aB1 hx]
  ·rfl
theorem G0{P:Program}{tb:Tab}{t:TypeId}{x k:AVal}{ok:Bool}(hx:∀i∈dU x,h i=h' i):qV P tb t x k ok h=qV P tb t x k ok h':=by
 unfold qV
 split
 ·split
  ·rename_i id
   rw[hx id (by simp[dU])]
  ·rfl
 ·rfl
theorem A6{P:Program}{tb:Tab}{t:TypeId}{g:List Nat}{x k:AVal}{ok:Bool}(hx:∀i∈dU x,h i=h' i):pB P tb t g x k ok h=pB P tb t g x k ok h':=by
 unfold pB
 split
 ·split
  ·rename_i id
   rw[hx id (by simp[dU])]
  ·rfl
 ·rfl
theorem pI{P:Program}{tb:Tab}{t:TypeId}{x k y:AVal}(hx:∀i∈dU x,h i=h' i)(hy:∀i∈dU y,h i=h' i):iS P tb t x k y h=iS P tb t x k y h':=by
 unfold iS
 split
 ·split
  ·rename_i id
   rw[hx id (by simp[dU])]
   split
   ·split
    ·split
     ·rw[zN hy]
     ·rfl
    ·rfl
   ·rfl
  ·rfl
 ·rfl
theorem nW{P:Program}{tb:Tab}{t:TypeId}{x k y:AVal}(hx:∀i∈dU x,h i=h' i):gT P tb t x k y h=gT P tb t x k y h':=by
 unfold gT
 split
 ·split
  ·rename_i id
   rw[hx id (by simp[dU])]
  ·rfl
 ·rfl
theorem aAQ{id i:Nat}{e e2:TypeId}{A:Ty}{xss:List (List A.den)}{hole:Option (Nat×Nat)}{y:AVal}(hy:∀i∈dU y,h i=h' i)(ho:∀k j,hole=some (k,j)→h j=h' j):z7 id i e e2 A xss hole y h=z7 id i e e2 A xss hole y h':=by
 unfold z7
 cases y <;> try rfl
 rename_i r
 simp only
 rw[←hy r (by simp[dU])]
 cases h r with
 | none=>rfl
 | some ob =>
  cases ob with
  | arr e3 B zs =>
   cases hole with
   | none=>rfl
   | some p =>
    obtain⟨k,j⟩:=p
    simp only[ho k j rfl]
  | _=>rfl
theorem O2{tb:Tab}{t:TypeId}{x y:AVal}(hx:∀i∈dU x,h i=h' i)(hy:∀i∈dU y,h i=h' i)(ho:∀i∈dU x,∀e e2 A xss k j,h i=some (.mat e e2 A xss (some (k,j)))→h j=h' j):sY tb t x y h=sY tb t x y h':=by
 unfold sY
 cases tb.find t with
 | none=>rfl
 | some ti =>
  simp only
  split
  ·cases x <;> try rfl
   case ada=>exact F8 hx
   rename_i id i sz off
   simp only
   have hid:=hx id (by simp[dU])
   have hop:=ho id (by simp[dU])
   rw[←hid]
   cases hm:h id with
   | none=>rfl
   | some ob =>
    cases ob with
    | arr e A xs=>simp only[aBg (A:=A) (xs:=xs) (i:=i) (off:=off) hy]
    | fz _ _=>rfl
    | box _=>rfl
    | mpo _ _ _=>rfl
    | mpl _ _=>rfl
    | mat e e2 A xss hole=>simp only[aAQ (id:=id) (i:=i) (e:=e) (e2:=e2) (A:=A) (xss:=xss) (hole:=hole) hy (fun k j eh=>hop e e2 A xss k j (by rw[hm,eh]))]
  ·rfl
theorem G6{tb:Tab}{new:Nat}{t:TypeId}{x y:AVal}(hx:∀i∈dU x,h i=h' i)(hy:∀i∈dU y,h i=h' i):rM tb new t x y h=rM tb new t x y h':=by
 unfold rM
 cases nY tb t with
 | none=>rfl
 | some p =>
  obtain⟨e,te,A⟩:=p
  simp only[vQ (A:=A) hy]
  cases l4 h' A y with
  | none=>rfl
  | some ys =>
   simp only
   cases x <;> try rfl
   rename_i id
   simp only
   rw[hx id (by simp[dU])]
theorem T7{tb:Tab}{t:TypeId}{x y:AVal}(hx:∀i∈dU x,h i=h' i)(hy:∀i∈dU y,h i=h' i):xW tb t x y h=xW tb t x y h':=by
 unfold xW
 cases nY tb t with
 | none=>rfl
 | some p =>
  obtain⟨e,te,A⟩:=p
  simp only[vQ (A:=A) hy]
  cases l4 h' A y with
  | none=>rfl
  | some ys =>
   simp only
   cases x <;> try rfl
   rename_i id
   simp only
   rw[hx id (by simp[dU])]
end
def jH(s:Nat→AVal)(op:Op):List AVal:=op.operands.toList.map (ev s)
theorem kW{s:Nat→AVal}{op:Op}{x:Operand}(hx:x∈op.operands.toList):∀i∈dU (ev s x),i∈bQ (jH s op):=fun _ hi =>
 fF.2 ⟨ev s x,List.mem_map.2 ⟨x,hx,rfl⟩,hi⟩
def J9(h:Nat→Option Obj)(xs:List AVal):List Nat :=
 bQ xs++(bQ xs).flatMap fun i=>match h i with
  | some (.mat _ _ _ _ (some (_,j)))=>[j]
  | _=>[]
theorem M8{h:Nat→Option Obj}{xs:List AVal}{i:Nat}{e e2:TypeId}{A:Ty}{xss:List (List A.den)}{k j:Nat}(hi:i∈bQ xs)(hm:h i=some (.mat e e2 A xss (some (k,j)))):j∈J9 h xs :=
 List.mem_append_right _ (List.mem_flatMap.2 ⟨i,hi,by rw[hm];exact .head _⟩)
def pC(h:Nat→Option Obj)(op:Op)(xs:List AVal):List Nat :=
 match op with
 | .call _=>L8 h xs
 | .load _ _=>J9 h xs
 | .store _ _ _=>J9 h xs
 | .move _=>[]
 | .assign _=>[]
 | .nilCheck _=>[]
 | .fieldAddr _ _ _=>[]
 | _=>bQ xs
theorem W8{P:Program}{tb:Tab}{new:Nat}{asm:Option Bool}{orc:Option Orc}{op:Op}{s s':Nat→AVal}{h h':Nat→Option Obj}
  (hs:∀x∈op.operands.toList,ev s x=ev s' x) (hh:∀i∈pC h op (jH s op),h i=h' i):sO P tb new asm orc op s h=sO P tb new asm orc op s' h':=by
 by_cases hmv:(∃x,op = .move x)∨(∃x,op = .assign x)∨(∃x,op = .nilCheck x)∨∃t x f,op = .fieldAddr t x f
 ·rcases hmv with⟨x,rfl⟩ | ⟨x,rfl⟩ | ⟨x,rfl⟩ | ⟨t,x,f,rfl⟩ <;> simp only[sO,hs x (by simp[Op.operands])]
 have hid:∀i∈bQ (jH s op),h i=h' i:=fun i hi=>by
  refine hh i ?_
  unfold pC
  split
  ·exact List.mem_append_left _ hi
  ·exact List.mem_append_left _ hi
  ·exact List.mem_append_left _ hi
  ·rename_i x;exact absurd (.inl ⟨x,rfl⟩) hmv
  ·rename_i x;exact absurd (.inr (.inl ⟨x,rfl⟩)) hmv
  ·rename_i x;exact absurd (.inr (.inr (.inl ⟨x,rfl⟩))) hmv
  ·rename_i t x f;exact absurd (.inr (.inr (.inr ⟨t,x,f,rfl⟩))) hmv
  ·exact hi
 have key:∀x∈op.operands.toList,∀i∈dU (ev s x),h i=h' i:=fun x hx i hi=>hid i (kW hx i hi)
 cases op with
 | move x=>simp only[sO,hs x (by simp[Op.operands])]
 | assign x=>simp only[sO,hs x (by simp[Op.operands])]
 | pick c x y =>
  have e:∀b:Bool,ev s (if b=true then x else y)=ev s' (if b=true then x else y):=fun b=>by
   cases b
   ·exact hs y (by simp[Op.operands])
   ·exact hs x (by simp[Op.operands])
  simp only[sO,aAu,hs c (by simp[Op.operands]),e,hs x (by simp[Op.operands]),hs y (by simp[Op.operands])]
 | alloc t=>rfl
 | box t x=>simp only[sO,hs x (by simp[Op.operands])]
 | build t ps =>
  simp only[sO]
  have e:ps.toList.map (fun p=>ev s p.2)=ps.toList.map (fun p=>ev s' p.2):=List.map_congr_left (fun p hp=>hs p.2 (by simp only[Op.operands,List.mem_map];exact⟨p,hp,rfl⟩))
  rw[e]
 | buildSlice t len ps =>
  simp only[sO]
  have e:ps.toList.map (fun p=>ev s p.2)=ps.toList.map (fun p=>ev s' p.2):=List.map_congr_left (fun p hp=>hs p.2 (by simp only[Op.operands,List.mem_map];exact⟨p,hp,rfl⟩))
  rw[←e]
  unfold qN
  cases nY tb t with
  | none=>rfl
  | some q =>
   obtain⟨e,te,A⟩:=q
   simp only
   split
   ·rw[Q3 (A:=A) (fun i hi=>by
     obtain⟨y,hy,hi⟩:=fF.1 hi
     obtain⟨p,hp,rfl⟩:=List.mem_map.1 hy
     exact key p.2 (by simp only[Op.operands,List.mem_map];exact⟨p,hp,rfl⟩) i hi)]
   ·rfl
 | load t x =>
  simp only[sO,←hs x (by simp[Op.operands])]
  have hx:=key x (by simp[Op.operands])
  have e2:∀ti,pP new ti (ev s x) h=pP new ti (ev s x) h':=fun ti=>S9 hx (fun i hi e e2 A xss k j hm=>hh j (M8 (kW (by simp[Op.operands]) i hi) hm))
  unfold aAo
  simp only[S6 hx,N4 hx,e2]
 | store t x y =>
  simp only[sO,←hs x (by simp[Op.operands]),←hs y (by simp[Op.operands])]
  exact O2 (key x (by simp[Op.operands])) (key y (by simp[Op.operands])) (fun i hi e e2 A xss k j hm=>hh j (M8 (kW (by simp[Op.operands]) i hi) hm))
 | binOp o t x y t'=>simp only[sO,hs x (by simp[Op.operands]),hs y (by simp[Op.operands])]
 | unOp o t x=>simp only[sO,hs x (by simp[Op.operands])]
 | nilCheck x=>simp only[sO,hs x (by simp[Op.operands])]
 | convert st dt x =>
  simp only[sO,←hs x (by simp[Op.operands])]
  unfold aAG
  cases tb.find st with
  | none=>rfl
  | some si =>
   cases tb.find dt with
   | none=>rfl
   | some di =>
    simp only
    cases aGv tb di.k (ev s x)with
    | some r=>rfl
    | none=>simp only[aCQ (s:=si.k) (d:=di.k) (key x (by simp[Op.operands]))]
 | slice t x lo hi mx =>
  cases mx with
  | some mo =>
   cases hi with
   | none=>rfl
   | some hio =>
    have e1:yZ s lo=yZ s' lo:=by
     cases lo with
     | none=>rfl
     | some y=>simp only[yZ,hs y (by simp[Op.operands])]
    simp only[sO,←hs x (by simp[Op.operands]),←hs hio (by simp[Op.operands]),←hs mo (by simp[Op.operands]),←e1]
    have hx:=key x (by simp[Op.operands])
    unfold zC
    split
    ·split
     ·rfl
     ·rename_i id ex
      rw[hx id (by rw[ex];simp[dU])]
     ·rfl
    ·rfl
  | none =>
   have e1:yZ s lo=yZ s' lo:=by
    cases lo with
    | none=>rfl
    | some y=>simp only[yZ,hs y (by simp[Op.operands])]
   have e2:yZ s hi=yZ s' hi:=by
    cases hi with
    | none=>rfl
    | some y=>simp only[yZ,hs y (by simp[Op.operands])]
   simp only[sO,←hs x (by simp[Op.operands]),←e1,←e2]
   exact S3 (key x (by simp[Op.operands]))
 | fieldAddr t x f=>simp only[sO,hs x (by simp[Op.operands])]
 | indexAddr t x i =>
  simp only[sO,←hs x (by simp[Op.operands]),←hs i (by simp[Op.operands])]
  simp only[F5 (key x (by simp[Op.operands])),wY (key x (by simp[Op.operands]))]
 | index t x i=>simp only[sO,hs x (by simp[Op.operands]),hs i (by simp[Op.operands])]
 | extract x i=>simp only[sO,hs x (by simp[Op.operands])]
 | typeAssert x xt t ok=>simp only[sO,hs x (by simp[Op.operands])]
 | makeFunc f fs cs =>
  simp only[sO]
  rw[List.map_congr_left (f:=ev s) (g:=ev s') (fun p hp=>hs p (by simp only[Op.operands,Array.toList_append,List.mem_append];exact .inr hp))]
 | makeSlice t l c=>simp only[sO,hs l (by simp[Op.operands]),hs c (by simp[Op.operands])]
 | call c =>
  obtain⟨callee,args,tys⟩:=c
  have hargs:∀x∈args.toList,x∈(Op.call { callee,args,argTypes:=tys }).operands.toList:=fun x hx=>by
   simp only[Op.operands,Call.operands,Array.toList_append,List.mem_append];exact .inr hx
  have e:args.toList.map (ev s)=args.toList.map (ev s'):=List.map_congr_left (fun p hp=>hs p (hargs p hp))
  have hk:∀y∈args.toList.map (ev s),∀i∈dU y,h i=h' i:=fun y hy i hi=>by
   obtain⟨p,hp,rfl⟩:=List.mem_map.1 hy
   exact key p (hargs p hp) i hi
  have hc:=aFW (h':=h') (xs:=jH s (Op.call { callee,args,argTypes:=tys })) hh
  simp only[sO,u9]
  cases callee with
  | builtin b =>
   simp only[←e]
   unfold w9
   split
   ·rename_i y t ey et
    split
    ·unfold zY
     split
     ·split
      ·rename_i id _ _
       rw[hk (.mp id) (by rw[ey];simp) id (by simp[dU])]
      ·rfl
     ·rfl
    ·unfold aCS
     rw[aBe (hk y (by rw[ey];simp))]
   ·rfl
   ·rfl
   ·rename_i y z t t' ey et
    split
    ·exact G6 (hk y (by rw[ey];simp)) (hk z (by rw[ey];simp))
    ·rfl
   ·rename_i y z t t' ey et
    exact T7 (hk y (by rw[ey];simp)) (hk z (by rw[ey];simp))
   ·rfl
  | value f =>
   have hf:f∈(Op.call { callee:= .value f,args,argTypes:=tys }).operands.toList:=by simp[Op.operands,Call.operands]
   simp only[←e,←hs f hf]
   generalize hxs:lS tb (aKo orc) tys.toList (args.toList.map (ev s))=xs
   have hxi:∀i∈bQ xs,i∈bQ (args.toList.map (ev s)):=fun i hi=>by rw[←hxs,wD]at hi;exact hi
   unfold H7
   split
   ·rename_i fid caps q ef
    have hin:∀i∈bQ (aBK (ev s f)::xs),i∈bQ (jH s (Op.call { callee:= .value f,args,argTypes:=tys })):=fun i hi=>by
     simp only[bQ,List.mem_append]at hi
     rcases hi with hi | hi
     ·exact kW hf i (aBT i hi)
     ·obtain⟨y,hy,hi'⟩:=fF.1 (hxi i hi)
      obtain⟨p,hp,rfl⟩:=List.mem_map.1 hy
      exact kW (hargs p hp) i hi'
    rw[wX (bs:=q.fl) (h:=h) (h':=h') (fun i hi=>by
     obtain⟨y,hy,hi'⟩:=fF.1 (hxi i hi)
     exact hk y hy i hi')]
    cases hfz:sG h' q.fl xs with
    | none=>rfl
    | some p =>
     obtain⟨ys,u⟩:=p
     obtain⟨z1,z2⟩:=aAy hfz
     have hclo:Clo (apply u h) (apply u h') (bQ (ys++caps)):=fun i hi=>by
      have hi2:i∈bQ (jH s (Op.call { callee:= .value f,args,argTypes:=tys })):=by
       obtain⟨y,hy,hi'⟩:=fF.1 hi
       rcases List.mem_append.1 hy with hy | hy
       ·obtain⟨y2,hy2,hi2⟩:=fF.1 (hxi i (z2 i (fF.2 ⟨y,hy,hi'⟩)))
        obtain⟨p,hp,rfl⟩:=List.mem_map.1 hy2
        exact kW (hargs p hp) i hi2
       ·refine kW hf i (aBT i ?_)
        rw[ef]
        simp only[dU]
        exact fF.2 ⟨y,hy,hi'⟩
      obtain⟨c1,c2⟩:=hc i hi2
      exact⟨j7 c1 u,fun cs hcs j hj=>j7 (c2 cs (aAa z1 hcs) j hj) u⟩
     simp only
     split
     ·have hfoot:L8 h (aBK (ev s f)::xs)=L8 h' (aBK (ev s f)::xs):=by
       unfold L8
       congr 1
       refine M3 fun i hi=> ?_
       rw[(hc i (hin i hi)).1]
      rw[hfoot]
      split
      ·rename_i hg
       have hgi:∀i∈q.g,h i=h' i:=fun i hi=>by
        have:=List.all_eq_true.1 hg i hi
        rw[←hfoot]at this
        simp only[List.contains_eq_mem,decide_eq_true_eq]at this
        unfold L8 at this
        rcases List.mem_append.1 this with h1 | h1
        ·exact(hc i (hin i h1)).1
        ·obtain⟨j,hj,hj'⟩:=List.mem_flatMap.1 h1
         split at hj'
         ·rename_i cs hcs
          exact(hc j (hin j hj)).2 cs hcs i hj'
         ·cases hj'
       rw[aB7 (g:=q.g) (h:=apply u h) (h':=apply u h') (fun i hi=>j7 (hgi i hi) u),
        C3 (g:=q.g) (h:=less q.g (apply u h)) (h':=less q.g (apply u h')) (fun i hi=>⟨J1 (hclo i hi).1,fun cs hcs j hj=>J1 ((hclo i hi).2 cs (xJ hcs).1 j hj)⟩)]
      ·rfl
     ·rw[E5 (h:=apply u h) (h':=apply u h') hclo]
   ·rfl
  | invoke r m=>rfl
 | makeMap t r=>cases r <;> rfl
 | lookup t x k ok =>
  simp only[sO,←hs x (by simp[Op.operands]),←hs k (by simp[Op.operands])]
  rw[G0 (key x (by simp[Op.operands])),A6 (key x (by simp[Op.operands]))]
 | mapUpdate t x k y =>
  simp only[sO,←hs x (by simp[Op.operands]),←hs k (by simp[Op.operands]),←hs y (by simp[Op.operands])]
  rw[pI (key x (by simp[Op.operands])) (key y (by simp[Op.operands])),nW (key x (by simp[Op.operands]))]
 | insert t x k y =>
  simp only[sO,←hs x (by simp[Op.operands]),←hs k (by simp[Op.operands]),←hs y (by simp[Op.operands])]
  rw[pI (key x (by simp[Op.operands])) (key y (by simp[Op.operands])),nW (key x (by simp[Op.operands]))]
 | _=>rfl
end Go.Tv
