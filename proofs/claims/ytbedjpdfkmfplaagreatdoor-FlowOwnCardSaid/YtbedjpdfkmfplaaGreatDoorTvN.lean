/- What an operation's outcome hangs on. -/
import Derived.Test.YtbedjpdfkmfplaaGreatDoorTvM
namespace Go.Tv
open Go Go.RowKit
theorem iB{h h':Nat→Option Obj}{i:Nat}(e:h i=h' i):∀(u:jJ),apply u h i=apply u h' i:=fun u=>by
 induction u generalizing h h' with
 | nil=>exact e
 | cons p u ih =>
  obtain⟨j,o⟩:=p
  simp only[apply]
  refine ih ?_
  by_cases hj:i=j
  ·subst hj;rw[aI,aI]
  ·rw[aP _ _ hj,aP _ _ hj];exact e
section
variable{h h':Nat→Option Obj}
theorem rL{x:AVal}(hh:∀i∈cE x,h i=h' i):gH h x=gH h' x:=by
 cases x <;> try rfl
 rename_i id
 simp only[gH,hh id (by simp[cE])]
theorem vB:∀ {xs:List AVal} {h h':Nat→Option Obj},(∀i∈bP xs,h i=h' i)→wY h xs=wY h' xs
 | [],_,_,_=>rfl
 | x::xs,h,h',hh=>by
  simp only[wY,rL (x:=x) (fun i hi=>hh i (by simp[bP,hi]))]
  cases hd:gH h' x with
  | none=>rfl
  | some p =>
   obtain⟨y,u⟩:=p
   simp only[vB (xs:=xs) (h:=apply u h) (h':=apply u h') (fun i hi=>iB (hh i (by simp[bP,hi])) u)]
theorem aDO(xs ys:List AVal):bP (xs++ys)=bP xs++bP ys:=by
 induction xs with
 | nil=>rfl
 | cons x xs ih=>simp only[List.cons_append,bP,ih,List.append_assoc]
theorem aAQ(k:IntKind)(l:List Int):bP (l.map fun i=>AVal.p false (.int k) i)=[]:=by
 induction l with
 | nil=>rfl
 | cons x xs ih=>simp only[List.map_cons,bP,cE,ih,List.append_nil]
theorem H3{x:AVal}:bP (cellsOf x)=cE x:=by
 cases x with
 | lag k n xs cs =>
  simp only[cellsOf,cE]
  rw[aDO]
  have:=aAQ k xs.1
  exact(congrArg (· ++ bP cs) this).trans (List.nil_append _)
 | _=>simp[cellsOf,bP,cE]
theorem aE4{T:Ty}{x:AVal}(hh:∀i∈cE x,h i=h' i):aFQ T h x=aFQ T h' x:=by
 unfold aFQ
 rw[vB (xs:=cellsOf x) (by rw[H3];exact hh)]
theorem G2{T:Ty}{x:AVal}(hh:∀i∈cE x,h i=h' i):toT T h x=toT T h' x:=by
 unfold toT
 split
 ·rename_i id i sz off
  rw[hh id (by simp[cE])]
 ·rfl
 ·exact aE4 hh
theorem X3{A:Ty}:∀ {xs:List AVal} {h h':Nat→Option Obj},(∀i∈bP xs,h i=h' i)→aCs A h xs=aCs A h' xs
 | [],_,_,_=>rfl
 | x::xs,h,h',hh=>by
  simp only[aCs,G2 (x:=x) (T:=A) (fun i hi=>hh i (by simp[bP,hi]))]
  cases hd:toT A h' x with
  | none=>rfl
  | some p =>
   obtain⟨y,u⟩:=p
   simp only[X3 (xs:=xs) (h:=apply u h) (h':=apply u h') (fun i hi=>iB (hh i (by simp[bP,hi])) u)]
theorem aAb{x:AVal}(hh:∀i∈cE x,h i=h' i):mH h x=mH h' x:=by
 unfold mH
 split <;> first
  | rfl
  | (rename_i id;rw[hh id (by simp[cE])])
  | (rename_i id i sz off;rw[hh id (by simp[cE])])
theorem aC9{x:AVal}{i:Int}(hh:∀i∈cE x,h i=h' i):aAT h x i=aAT h' x i:=by
 unfold aAT
 split <;> first
  | rfl
  | (rename_i id;rw[hh id (by simp[cE])])
  | (rename_i id i sz off;rw[hh id (by simp[cE])])
theorem aDY{x:AVal}(hh:∀i∈cE x,h i=h' i):lenOf h x=lenOf h' x:=by
 unfold lenOf
 split <;> first
  | rfl
  | (rename_i id;rw[hh id (by simp[cE])])
  | (rename_i id i sz off;rw[hh id (by simp[cE])])
theorem aE0{s d:TK}{x:AVal}(hh:∀i∈cE x,h i=h' i):conv s d h x=conv s d h' x:=by
 unfold conv
 split <;> first
  | rfl
  | (rename_i id;rw[hh id (by simp[cE])])
  | (rename_i id i sz off;rw[hh id (by simp[cE])])
theorem pC{A:Ty}{x:AVal}(hh:∀i∈cE x,h i=h' i):fI h A x=fI h' A x:=by
 unfold fI
 split <;> first
  | rfl
  | (rename_i id;rw[hh id (by simp[cE])])
  | (rename_i id i sz off;rw[hh id (by simp[cE])])
theorem O3(β:Bool):∀(T:Ty) (x:T.den),bP (g5 β T x)=[]
 | .unit,_=>rfl
 | .prod a b,x=>by
  have h1:=O3 β a x.1
  have h2:=O3 β b x.2
  apply List.eq_nil_iff_forall_not_mem.2
  intro i hi
  simp only[g5,dC,List.mem_append]at hi
  obtain⟨y,hy,hi⟩:=hi
  rcases hy with hy | hy
  ·have:i∈bP (g5 β a x.1):=dC.2 ⟨y,hy,hi⟩
   rw[h1]at this;cases this
  ·have:i∈bP (g5 β b x.2):=dC.2 ⟨y,hy,hi⟩
   rw[h2]at this;cases this
 | .int _,_=>rfl
 | .bool,_=>rfl
 | .str,_=>rfl
 | .flt,_=>rfl
 | .slice _,_=>rfl
 | .ptr _,_=>rfl
 | .tree _ _,_=>rfl
 | .arr k _,x=>aAQ k x.1
 | .mapi _ _,_=>rfl
theorem aJL{cs new:List AVal}{p i:Nat}(hi:i∈bP (wr cs p new)):i∈bP cs∨i∈bP new:=by
 obtain⟨y,hy,hi⟩:=dC.1 hi
 simp only[wr,List.mem_append]at hy
 rcases hy with(hy | hy) | hy
 ·exact .inl (dC.2 ⟨y,List.mem_of_mem_take hy,hi⟩)
 ·exact .inr (dC.2 ⟨y,hy,hi⟩)
 ·exact .inl (dC.2 ⟨y,List.mem_of_mem_drop hy,hi⟩)
theorem aDF{A:Ty}{xs:List A.den}{i off:Nat}{y:AVal}(hh:∀i∈cE y,h i=h' i):aCO A h xs i off y=aCO A h' xs i off y:=by
 unfold aCO
 refine G2 fun j hj=> ?_
 simp only[cE]at hj
 rcases aJL hj with h1 | h1
 ·rw[O3]at h1;cases h1
 ·rw[H3]at h1;exact hh j h1
theorem J9{x:AVal}(hh:∀i∈cE x,h i=h' i):S5 h x=S5 h' x:=by
 cases x <;> try rfl
 rename_i id
 simp only[S5,hh id (by simp[cE])]
theorem rV:∀ {xs:List AVal},(∀i∈bP xs,h i=h' i)→u3 h xs=u3 h' xs
 | [],_=>rfl
 | x::xs,hh=>by
  simp only[u3,J9 (x:=x) (fun i hi=>hh i (by simp[bP,hi])),rV (xs:=xs) (fun i hi=>hh i (by simp[bP,hi]))]
def Clo(h h':Nat→Option Obj)(I:List Nat):Prop:=∀i∈I,h i=h' i∧∀cs,h i=some (.box cs)→∀j∈bP cs,h j=h' j
theorem J5{x:AVal}(hh:Clo h h' (cE x)):A4 h x=A4 h' x:=by
 have h0:∀i∈cE x,h i=h' i:=fun i hi=>(hh i hi).1
 cases x <;> try rfl
 ·simp only[A4,J9 h0]
 ·rename_i id i sz off
  simp only[A4]
  have h1:=hh id (by simp[cE])
  rw[←h1.1]
  cases he:h id with
  | none=>rfl
  | some ob =>
   cases ob with
   | box cs=>simp only[rV (xs:=cs) (h:=h) (h':=h') (h1.2 cs he)]
   | arr _ _ _=>rfl
   | fz _ _=>rfl
   | mpo _ _ _=>rfl
   | mpl _ _=>rfl
   | bytes _ _=>rfl
   | cutz _ _=>rfl
   | lmp _ _ _ _=>rfl
   | vrow _ _ _=>rfl
   | mat _ _ _ _ _=>rfl
 ·rename_i cs
  simp only[A4]
  rw[rV (xs:=cs) (h:=h) (h':=h') (fun i hi=>h0 i (by simpa [cE]using hi))]
theorem C5:∀ {xs:List AVal},Clo h h' (bP xs)→yL h xs=yL h' xs
 | [],_=>rfl
 | x::xs,hh=>by
  simp only[yL,J5 (x:=x) (fun i hi=>hh i (by simp[bP,hi])),C5 (xs:=xs) (fun i hi=>hh i (by simp[bP,hi]))]
theorem W2{x:AVal}(hh:Clo h h' (cE x)):aDk h x=aDk h' x:=by
 cases x <;> try (simp only[aDk];exact J5 hh)
 rename_i f cs
 simp only[aDk]
 rw[C5 (xs:=cs) (h:=h) (h':=h') (fun i hi=>hh i (by simpa [cE]using hi))]
theorem uX:∀ {xs:List AVal},Clo h h' (bP xs)→sP h xs=sP h' xs
 | [],_=>rfl
 | x::xs,hh=>by
  simp only[sP,W2 (x:=x) (fun i hi=>hh i (by simp[bP,hi])),uX (xs:=xs) (fun i hi=>hh i (by simp[bP,hi]))]
theorem W7{g:List Nat}{i:Nat}(e:h i=h' i):less g h i=less g h' i:=by
 unfold less
 split
 ·rfl
 ·exact e
theorem U0{α β:Type}{l:List α}{f f':α→List β}(e:∀x∈l,f x=f' x):l.flatMap f=l.flatMap f':=by
 induction l with
 | nil=>rfl
 | cons x l ih=>simp only[List.flatMap_cons,e x (by simp),ih (fun y hy=>e y (by simp[hy]))]
theorem J3{g:List Nat}:∀ {xs:List AVal},Clo h h' (bP xs)→C0 g h xs=C0 g h' xs
 | [],_=>rfl
 | x::xs,hh=>by
  have e:aBc g h x=aBc g h' x:=by
   unfold aBc
   rw[W2 (x:=x) (fun i hi=>hh i (by simp[bP,hi]))]
  simp only[C0,e,J3 (xs:=xs) (fun i hi=>hh i (by simp[bP,hi]))]
theorem aDu{g:List Nat}{h h':Nat→Option Obj}(hg:∀i∈g,h i=h' i):lL g h 0 g=lL g h' 0 g:=by
 have key:∀(l:List Nat) (k:Nat),(∀i∈l,i∈g)→lL g h k l=lL g h' k l:=fun l=>by
  induction l with
  | nil=>intro k _;rfl
  | cons x l ih =>
   intro k hl
   simp only[lL,hg x (hl x (by simp)),ih (k+1) (fun i hi=>hl i (by simp[hi]))]
 exact key g 0 fun _ h=>h
theorem aEp{x:AVal}(hh:∀i∈cE x,h i=h' i):aAi h x=aAi h' x:=by
 cases x <;> try (simp only[aAi];exact rL hh)
 rename_i cs
 simp only[aAi]
 rw[vB (xs:=cs) (h:=h) (h':=h') (fun i hi=>hh i (by simpa [cE]using hi))]
theorem xX:∀ {bs:List Bool} {xs:List AVal} {h h':Nat→Option Obj},(∀i∈bP xs,h i=h' i)→frzL h bs xs=frzL h' bs xs
 | _,[],_,_,_=>by simp only[frzL]
 | [],_::_,_,_,_=>rfl
 | false::bs,x::xs,h,h',hh=>by
  simp only[frzL,xX (bs:=bs) (xs:=xs) (h:=h) (h':=h') (fun i hi=>hh i (by simp[bP,hi]))]
 | true::bs,x::xs,h,h',hh=>by
  simp only[frzL,aEp (x:=x) (h:=h) (h':=h') (fun i hi=>hh i (by simp[bP,hi]))]
  cases aAi h' x with
  | none=>rfl
  | some p =>
   obtain⟨y,u⟩:=p
   simp only[xX (bs:=bs) (xs:=xs) (h:=apply u h) (h':=apply u h') (fun i hi=>iB (hh i (by simp[bP,hi])) u)]
def AllFz(u:jJ):Prop:=∀p∈u,∃A xs,p.2=some (.fz A xs)
theorem AllFz.append{u v:jJ}(hu:AllFz u)(hv:AllFz v):AllFz (u++v):=fun p hp=>(List.mem_append.1 hp).elim (hu p) (hv p)
theorem aBi{x y:AVal}{u:jJ}(hd:gH h x=some (y,u)):AllFz u∧∀i∈cE y,i∈cE x:=by
 unfold gH at hd
 split at hd
 ·split at hd
  ·cases hd;exact⟨fun p hp=>by simp at hp;subst hp;exact⟨_,_,rfl⟩,fun i hi=>by simp[cE]at hi⟩
  ·cases hd;exact⟨fun p hp=>by simp at hp,fun i hi=>by simp[cE]at hi⟩
  ·cases hd;exact⟨fun p hp=>by simp at hp;subst hp;exact⟨_,_,rfl⟩,fun i hi=>by simp[cE]at hi⟩
  ·cases hd;exact⟨fun p hp=>by simp at hp;subst hp;exact⟨_,_,rfl⟩,fun i hi=>by simp[cE]at hi⟩
  ·cases hd
 ·cases hd;exact⟨fun p hp=>by simp at hp,fun i hi=>hi⟩
theorem aCW:∀ {xs ys:List AVal} {h:Nat→Option Obj} {u:jJ},wY h xs=some (ys,u)→AllFz u∧∀i∈bP ys,i∈bP xs
 | [],ys,h,u,hd=>by cases hd;exact⟨fun p hp=>by simp at hp,fun i hi=>hi⟩
 | x::xs,ys,h,u,hd=>by
  simp only[wY]at hd
  split at hd
  ·rename_i y u1 h1
   split at hd
   ·rename_i ys' us h2
    cases hd
    obtain⟨q1,q2⟩:=aBi h1
    obtain⟨r1,r2⟩:=aCW h2
    refine⟨q1.append r1,fun i hi=> ?_⟩
    simp only[bP,List.mem_append]at hi ⊢
    exact hi.imp (q2 i) (r2 i)
   ·cases hd
  ·cases hd
theorem aIx{x y:AVal}{u:jJ}(hd:aAi h x=some (y,u)):AllFz u∧∀i∈cE y,i∈cE x:=by
 unfold aAi at hd
 split at hd
 ·split at hd
  ·rename_i ds u' h1
   cases hd
   obtain⟨q1,q2⟩:=aCW h1
   exact⟨q1,fun i hi=>by simp only[cE]at hi ⊢;exact q2 i hi⟩
  ·cases hd
 ·exact aBi hd
theorem aBA:∀ {bs:List Bool} {xs ys:List AVal} {h:Nat→Option Obj} {u:jJ},frzL h bs xs=some (ys,u)→AllFz u∧∀i∈bP ys,i∈bP xs
 | _,[],ys,h,u,hd=>by simp only[frzL]at hd;cases hd;exact⟨fun p hp=>by simp at hp,fun i hi=>hi⟩
 | [],_::_,ys,h,u,hd=>by simp only[frzL]at hd;cases hd;exact⟨fun p hp=>by simp at hp,fun i hi=>hi⟩
 | false::bs,x::xs,ys,h,u,hd=>by
  simp only[frzL]at hd
  split at hd
  ·rename_i ys' u' h1
   cases hd
   obtain⟨q1,q2⟩:=aBA h1
   refine⟨q1,fun i hi=> ?_⟩
   simp only[bP,List.mem_append]at hi ⊢
   exact hi.imp (fun h=>h) (q2 i)
  ·cases hd
 | true::bs,x::xs,ys,h,u,hd=>by
  simp only[frzL]at hd
  split at hd
  ·rename_i y u1 h1
   split at hd
   ·rename_i ys' us h2
    cases hd
    obtain⟨q1,q2⟩:=aIx h1
    obtain⟨r1,r2⟩:=aBA h2
    refine⟨q1.append r1,fun i hi=> ?_⟩
    simp only[bP,List.mem_append]at hi ⊢
    exact hi.imp (q2 i) (r2 i)
   ·cases hd
  ·cases hd
theorem aB2{u:jJ}(hu:AllFz u){i:Nat}{cs:List AVal}:∀ {h:Nat→Option Obj},apply u h i=some (.box cs)→h i=some (.box cs):=by
 induction u with
 | nil=>intro h hb;exact hb
 | cons p u ih =>
  intro h hb
  obtain⟨j,o⟩:=p
  have h1:=ih (fun q hq=>hu q (by simp[hq])) hb
  by_cases e:i=j
  ·subst e
   rw[aI]at h1
   obtain⟨A,xs,h2⟩:=hu (i,o) (by simp)
   simp only at h2
   rw[h1]at h2
   cases h2
  ·rw[aP _ _ e]at h1;exact h1
theorem aCt{xs:List AVal}(hh:∀i∈W9 h xs,h i=h' i):Clo h h' (bP xs):=fun i hi =>
 ⟨hh i (List.mem_append_left _ hi),fun cs hc j hj=>hh j (List.mem_append_right _ (List.mem_flatMap.2 ⟨i,hi,by rw[hc];exact hj⟩))⟩
theorem S6{tb:Tab}{new:Nat}{t:TypeId}{x:AVal}{lo hi:Option (Option Int)}(hh:∀i∈cE x,h i=h' i):tR tb new t x lo hi h=tR tb new t x lo hi h':=by
 unfold tR
 split
 ·split
  ·split <;> first
    | rfl
    | (rename_i id;rw[hh id (by simp[cE])])
  ·rfl
 ·rfl
theorem aAD{new:Nat}{ti:TI}{x:AVal}(hx:∀i∈cE x,h i=h' i)(ho:∀i∈cE x,∀e e2 A xss k j,h i=some (.mat e e2 A xss (some (k,j)))→h j=h' j):oQ new ti x h=oQ new ti x h':=by
 unfold oQ
 cases x <;> try rfl
 rename_i id i sz off
 simp only
 have e1:=hx id (by simp[cE])
 have e2:=ho id (by simp[cE])
 rw[←e1]
 cases hm:h id with
 | none=>rfl
 | some ob =>
  cases ob with
  | mat e e2' A xss hole =>
   cases hole with
   | none=>rfl
   | some p =>
    obtain⟨k,j⟩:=p
    simp only[e2 _ _ _ _ _ _ hm]
  | _=>rfl
theorem P2{ti:TI}{x:AVal}(hx:∀i∈cE x,h i=h' i):qM ti x h=qM ti x h':=by
 unfold qM
 split
 ·rename_i id b n i k _
  have hid:=hx id (by simp[cE])
  rw[hid]
 ·rfl
theorem L4{ti:TI}{x y:AVal}(hx:∀i∈cE x,h i=h' i):mT ti x y h=mT ti x y h':=by
 unfold mT
 split
 ·rename_i id b n i _ k v
  have hid:=hx id (by simp[cE])
  rw[hid]
 ·rfl
theorem L8{tb:Tab}{t:TypeId}{x i:AVal}(hx:∀i∈cE x,h i=h' i):mW tb t x i h=mW tb t x i h':=by
 unfold mW
 cases tb.find t with
 | none=>rfl
 | some ti =>
  simp only
  split
  ·split
   ·split
    ·split
     ·rename_i id j sz off _ _ _
      rw[hx id (by simp[cE])]
     ·rfl
     ·rfl
    ·split
     ·split
      ·rename_i id j sz off _ _ _
       rw[hx id (by simp[cE])]
      ·rfl
     ·rfl
   ·rfl
  ·rfl
theorem yB{tb:Tab}{t:TypeId}{x i:AVal}(hx:∀i∈cE x,h i=h' i):kA tb t x i h=kA tb t x i h':=by
 unfold kA
 cases jA tb t with
 | none=>rfl
 | some q =>
  simp only
  split
  ·rw[aC9 hx]
  ·rfl
theorem L1{P:Program}{tb:Tab}{t:TypeId}{x k:AVal}{ok:Bool}(hx:∀i∈cE x,h i=h' i):pT P tb t x k ok h=pT P tb t x k ok h':=by
 unfold pT
 split
 ·split
  ·rename_i id
   rw[hx id (by simp[cE])]
  ·rfl
 ·rfl
theorem F8{P:Program}{tb:Tab}{t:TypeId}{g:List Nat}{x k:AVal}{ok:Bool}(hx:∀i∈cE x,h i=h' i):oA P tb t g x k ok h=oA P tb t g x k ok h':=by
 unfold oA
 split
 ·split
  ·rename_i id
   rw[hx id (by simp[cE])]
  ·rfl
 ·rfl
theorem nQ{P:Program}{tb:Tab}{t:TypeId}{x k y:AVal}(hx:∀i∈cE x,h i=h' i)(hy:∀i∈cE y,h i=h' i):gL P tb t x k y h=gL P tb t x k y h':=by
 unfold gL
 split
 ·split
  ·rename_i id
   rw[hx id (by simp[cE])]
   split
   ·split
    ·split
     ·rw[G2 hy]
     ·rfl
    ·rfl
   ·rfl
  ·rfl
 ·rfl
theorem mD{P:Program}{tb:Tab}{t:TypeId}{x k y:AVal}(hx:∀i∈cE x,h i=h' i):fP P tb t x k y h=fP P tb t x k y h':=by
 unfold fP
 split
 ·split
  ·rename_i id
   rw[hx id (by simp[cE])]
  ·rfl
 ·rfl
theorem aBo{id i:Nat}{e e2:TypeId}{A:Ty}{xss:List (List A.den)}{hole:Option (Nat×Nat)}{y:AVal}(hy:∀i∈cE y,h i=h' i)(ho:∀k j,hole=some (k,j)→h j=h' j):F4 id i e e2 A xss hole y h=F4 id i e e2 A xss hole y h':=by
 unfold F4
 cases y <;> try rfl
 rename_i r
 simp only
 rw[←hy r (by simp[cE])]
 cases h r with
 | none=>rfl
 | some ob =>
  cases ob with
  | arr e3 B zs =>
   cases hole with
   | none=>rfl
   | some p =>
    obtain⟨k,j⟩:=p
    simp only[ho k j rfl]
  | _=>rfl
theorem Q1{tb:Tab}{t:TypeId}{x y:AVal}(hx:∀i∈cE x,h i=h' i)(hy:∀i∈cE y,h i=h' i)(ho:∀i∈cE x,∀e e2 A xss k j,h i=some (.mat e e2 A xss (some (k,j)))→h j=h' j):uV tb t x y h=uV tb t x y h':=by
 unfold uV
 cases tb.find t with
 | none=>rfl
 | some ti =>
  simp only
  split
  ·cases x <;> try rfl
   case ada=>exact L4 hx
   rename_i id i sz off
   simp only
   have hid:=hx id (by simp[cE])
   have hop:=ho id (by simp[cE])
   rw[←hid]
   cases hm:h id with
   | none=>rfl
   | some ob =>
    cases ob with
    | arr e A xs=>simp only[aDF (A:=A) (xs:=xs) (i:=i) (off:=off) hy]
    | fz _ _=>rfl
    | box _=>rfl
    | mpo _ _ _=>rfl
    | mpl _ _=>rfl
    | bytes _ _=>rfl
    | cutz _ _=>rfl
    | lmp _ _ _ _=>rfl
    | vrow _ _ _=>rfl
    | mat e e2 A xss hole=>simp only[aBo (id:=id) (i:=i) (e:=e) (e2:=e2) (A:=A) (xss:=xss) (hole:=hole) hy (fun k j eh=>hop e e2 A xss k j (by rw[hm,eh]))]
  ·rfl
theorem M0{tb:Tab}{new:Nat}{t:TypeId}{x y:AVal}(hx:∀i∈cE x,h i=h' i)(hy:∀i∈cE y,h i=h' i):pY tb new t x y h=pY tb new t x y h':=by
 unfold pY
 cases jA tb t with
 | none=>rfl
 | some p =>
  obtain⟨e,te,A⟩:=p
  simp only[pC (A:=A) hy]
  cases fI h' A y with
  | none=>rfl
  | some ys =>
   simp only
   cases x <;> try rfl
   rename_i id
   simp only
   rw[hx id (by simp[cE])]
theorem aAa{tb:Tab}{t:TypeId}{x y:AVal}(hx:∀i∈cE x,h i=h' i)(hy:∀i∈cE y,h i=h' i):zQ tb t x y h=zQ tb t x y h':=by
 unfold zQ
 cases jA tb t with
 | none=>rfl
 | some p =>
  obtain⟨e,te,A⟩:=p
  simp only[pC (A:=A) hy]
  cases fI h' A y with
  | none=>rfl
  | some ys =>
   simp only
   cases x <;> try rfl
   rename_i id
   simp only
   rw[hx id (by simp[cE])]
end
def fW(s:Nat→AVal)(op:Op):List AVal:=op.operands.toList.map (ev s)
theorem gJ{s:Nat→AVal}{op:Op}{x:Operand}(hx:x∈op.operands.toList):∀i∈cE (ev s x),i∈bP (fW s op):=fun _ hi =>
 dC.2 ⟨ev s x,List.mem_map.2 ⟨x,hx,rfl⟩,hi⟩
def U6(h:Nat→Option Obj)(xs:List AVal):List Nat :=
 bP xs++(bP xs).flatMap fun i=>match h i with
  | some (.mat _ _ _ _ (some (_,j)))=>[j]
  | _=>[]
theorem U3{h:Nat→Option Obj}{xs:List AVal}{i:Nat}{e e2:TypeId}{A:Ty}{xss:List (List A.den)}{k j:Nat}(hi:i∈bP xs)(hm:h i=some (.mat e e2 A xss (some (k,j)))):j∈U6 h xs :=
 List.mem_append_right _ (List.mem_flatMap.2 ⟨i,hi,by rw[hm];exact .head _⟩)
def lC(h:Nat→Option Obj)(op:Op)(xs:List AVal):List Nat :=
 match op with
 | .call _=>W9 h xs
 | .load _ _=>U6 h xs
 | .store _ _ _=>U6 h xs
 | .move _=>[]
 | .assign _=>[]
 | .nilCheck _=>[]
 | .fieldAddr _ _ _=>[]
 | _=>bP xs
theorem aEq{P:Program}{tb:Tab}{new:Nat}{asm:Option Bool}{orc:Option Orc}{op:Op}{s s':Nat→AVal}{h h':Nat→Option Obj}
  (hs:∀x∈op.operands.toList,ev s x=ev s' x) (hh:∀i∈lC h op (fW s op),h i=h' i):i6 P tb new asm orc op s h=i6 P tb new asm orc op s' h':=by
 by_cases hmv:(∃x,op = .move x)∨(∃x,op = .assign x)∨(∃x,op = .nilCheck x)∨∃t x f,op = .fieldAddr t x f
 ·rcases hmv with⟨x,rfl⟩ | ⟨x,rfl⟩ | ⟨x,rfl⟩ | ⟨t,x,f,rfl⟩ <;> simp only[i6,hs x (by simp[Op.operands])]
 have hid:∀i∈bP (fW s op),h i=h' i:=fun i hi=>by
  refine hh i ?_
  unfold lC
  split
  ·exact List.mem_append_left _ hi
  ·exact List.mem_append_left _ hi
  ·exact List.mem_append_left _ hi
  ·rename_i x;exact absurd (.inl ⟨x,rfl⟩) hmv
  ·rename_i x;exact absurd (.inr (.inl ⟨x,rfl⟩)) hmv
  ·rename_i x;exact absurd (.inr (.inr (.inl ⟨x,rfl⟩))) hmv
  ·rename_i t x f;exact absurd (.inr (.inr (.inr ⟨t,x,f,rfl⟩))) hmv
  ·exact hi
 have key:∀x∈op.operands.toList,∀i∈cE (ev s x),h i=h' i:=fun x hx i hi=>hid i (gJ hx i hi)
 cases op with
 | move x=>simp only[i6,hs x (by simp[Op.operands])]
 | assign x=>simp only[i6,hs x (by simp[Op.operands])]
 | pick c x y =>
  have e:∀b:Bool,ev s (if b=true then x else y)=ev s' (if b=true then x else y):=fun b=>by
   cases b
   ·exact hs y (by simp[Op.operands])
   ·exact hs x (by simp[Op.operands])
  simp only[i6,aBK,hs c (by simp[Op.operands]),e,hs x (by simp[Op.operands]),hs y (by simp[Op.operands])]
 | alloc t=>rfl
 | box t x=>simp only[i6,hs x (by simp[Op.operands])]
 | build t ps =>
  simp only[i6]
  have e:ps.toList.map (fun p=>ev s p.2)=ps.toList.map (fun p=>ev s' p.2):=List.map_congr_left (fun p hp=>hs p.2 (by simp only[Op.operands,List.mem_map];exact⟨p,hp,rfl⟩))
  rw[e]
 | buildSlice t len ps =>
  simp only[i6]
  have e:ps.toList.map (fun p=>ev s p.2)=ps.toList.map (fun p=>ev s' p.2):=List.map_congr_left (fun p hp=>hs p.2 (by simp only[Op.operands,List.mem_map];exact⟨p,hp,rfl⟩))
  rw[←e]
  unfold pB
  cases jA tb t with
  | none=>rfl
  | some q =>
   obtain⟨e,te,A⟩:=q
   simp only
   split
   ·rw[X3 (A:=A) (fun i hi=>by
     obtain⟨y,hy,hi⟩:=dC.1 hi
     obtain⟨p,hp,rfl⟩:=List.mem_map.1 hy
     exact key p.2 (by simp only[Op.operands,List.mem_map];exact⟨p,hp,rfl⟩) i hi)]
   ·rfl
 | load t x =>
  simp only[i6,←hs x (by simp[Op.operands])]
  have hx:=key x (by simp[Op.operands])
  have e2:∀ti,oQ new ti (ev s x) h=oQ new ti (ev s x) h':=fun ti=>aAD hx (fun i hi e e2 A xss k j hm=>hh j (U3 (gJ (by simp[Op.operands]) i hi) hm))
  unfold aBL
  simp only[aAb hx,P2 hx,e2]
 | store t x y =>
  simp only[i6,←hs x (by simp[Op.operands]),←hs y (by simp[Op.operands])]
  exact Q1 (key x (by simp[Op.operands])) (key y (by simp[Op.operands])) (fun i hi e e2 A xss k j hm=>hh j (U3 (gJ (by simp[Op.operands]) i hi) hm))
 | binOp o t x y t'=>simp only[i6,hs x (by simp[Op.operands]),hs y (by simp[Op.operands])]
 | unOp o t x=>simp only[i6,hs x (by simp[Op.operands])]
 | nilCheck x=>simp only[i6,hs x (by simp[Op.operands])]
 | convert st dt x =>
  simp only[i6,←hs x (by simp[Op.operands])]
  cases orc with
  | some _=>rfl
  | none=> ?_
  simp only
  unfold aCc
  cases tb.find st with
  | none=>rfl
  | some si =>
   cases tb.find dt with
   | none=>rfl
   | some di =>
    simp only
    cases aHI tb di.k (ev s x)with
    | some r=>rfl
    | none=>simp only[aE0 (s:=si.k) (d:=di.k) (key x (by simp[Op.operands]))]
 | slice t x lo hi mx =>
  cases mx with
  | some mo =>
   cases hi with
   | none=>rfl
   | some hio =>
    have e1:wP s lo=wP s' lo:=by
     cases lo with
     | none=>rfl
     | some y=>simp only[wP,hs y (by simp[Op.operands])]
    simp only[i6,←hs x (by simp[Op.operands]),←hs hio (by simp[Op.operands]),←hs mo (by simp[Op.operands]),←e1]
    have hx:=key x (by simp[Op.operands])
    cases orc with
    | some _ =>
     simp only
     unfold aEd
     rw[rL hx]
    | none=> ?_
    simp only
    unfold E7
    split
    ·split
     ·rfl
     ·rename_i id ex
      rw[hx id (by rw[ex];simp[cE])]
     ·rfl
    ·rfl
  | none =>
   have e1:wP s lo=wP s' lo:=by
    cases lo with
    | none=>rfl
    | some y=>simp only[wP,hs y (by simp[Op.operands])]
   have e2:wP s hi=wP s' hi:=by
    cases hi with
    | none=>rfl
    | some y=>simp only[wP,hs y (by simp[Op.operands])]
   simp only[i6,←hs x (by simp[Op.operands]),←e1,←e2]
   exact S6 (key x (by simp[Op.operands]))
 | fieldAddr t x f=>simp only[i6,hs x (by simp[Op.operands])]
 | indexAddr t x i =>
  simp only[i6,←hs x (by simp[Op.operands]),←hs i (by simp[Op.operands])]
  simp only[L8 (key x (by simp[Op.operands])),yB (key x (by simp[Op.operands]))]
 | index t x i=>simp only[i6,hs x (by simp[Op.operands]),hs i (by simp[Op.operands])]
 | extract x i=>simp only[i6,hs x (by simp[Op.operands])]
 | typeAssert x xt t ok=>simp only[i6,hs x (by simp[Op.operands])]
 | makeFunc f fs cs =>
  simp only[i6]
  rw[List.map_congr_left (f:=ev s) (g:=ev s') (fun p hp=>hs p (by simp only[Op.operands,Array.toList_append,List.mem_append];exact .inr hp))]
 | makeSlice t l c=>simp only[i6,hs l (by simp[Op.operands]),hs c (by simp[Op.operands])]
 | call c =>
  obtain⟨callee,args,tys⟩:=c
  have hargs:∀x∈args.toList,x∈(Op.call { callee,args,argTypes:=tys }).operands.toList:=fun x hx=>by
   simp only[Op.operands,Call.operands,Array.toList_append,List.mem_append];exact .inr hx
  have e:args.toList.map (ev s)=args.toList.map (ev s'):=List.map_congr_left (fun p hp=>hs p (hargs p hp))
  have hk:∀y∈args.toList.map (ev s),∀i∈cE y,h i=h' i:=fun y hy i hi=>by
   obtain⟨p,hp,rfl⟩:=List.mem_map.1 hy
   exact key p (hargs p hp) i hi
  have hc:=aCt (h':=h') (xs:=fW s (Op.call { callee,args,argTypes:=tys })) hh
  simp only[i6,wE]
  cases callee with
  | builtin b =>
   simp only[←e]
   unfold yH
   split
   ·rename_i y t ey et
    split
    ·unfold G3
     split
     ·split
      ·rename_i id _ _
       rw[hk (.mp id) (by rw[ey];simp) id (by simp[cE])]
      ·rfl
     ·rfl
    ·unfold aEt
     rw[aDY (hk y (by rw[ey];simp))]
   ·rfl
   ·rfl
   ·rename_i y z t t' ey et
    split
    ·exact M0 (hk y (by rw[ey];simp)) (hk z (by rw[ey];simp))
    ·rfl
   ·rename_i y z t t' ey et
    exact aAa (hk y (by rw[ey];simp)) (hk z (by rw[ey];simp))
   ·rfl
  | value f =>
   have hf:f∈(Op.call { callee:= .value f,args,argTypes:=tys }).operands.toList:=by simp[Op.operands,Call.operands]
   simp only[←e,←hs f hf]
   generalize hxs:i7 tb (aIw orc) tys.toList (args.toList.map (ev s))=xs
   have hxi:∀i∈bP xs,i∈bP (args.toList.map (ev s)):=fun i hi=>by rw[←hxs,qU]at hi;exact hi
   unfold N0
   split
   ·rename_i fid caps q ef
    have hin:∀i∈bP (aCi (ev s f)::xs),i∈bP (fW s (Op.call { callee:= .value f,args,argTypes:=tys })):=fun i hi=>by
     simp only[bP,List.mem_append]at hi
     rcases hi with hi | hi
     ·exact gJ hf i (aDW i hi)
     ·obtain⟨y,hy,hi'⟩:=dC.1 (hxi i hi)
      obtain⟨p,hp,rfl⟩:=List.mem_map.1 hy
      exact gJ (hargs p hp) i hi'
    rw[xX (bs:=q.fl) (h:=h) (h':=h') (fun i hi=>by
     obtain⟨y,hy,hi'⟩:=dC.1 (hxi i hi)
     exact hk y hy i hi')]
    cases hfz:frzL h' q.fl xs with
    | none=>rfl
    | some p =>
     obtain⟨ys,u⟩:=p
     obtain⟨z1,z2⟩:=aBA hfz
     have hclo:Clo (apply u h) (apply u h') (bP (ys++caps)):=fun i hi=>by
      have hi2:i∈bP (fW s (Op.call { callee:= .value f,args,argTypes:=tys })):=by
       obtain⟨y,hy,hi'⟩:=dC.1 hi
       rcases List.mem_append.1 hy with hy | hy
       ·obtain⟨y2,hy2,hi2⟩:=dC.1 (hxi i (z2 i (dC.2 ⟨y,hy,hi'⟩)))
        obtain⟨p,hp,rfl⟩:=List.mem_map.1 hy2
        exact gJ (hargs p hp) i hi2
       ·refine gJ hf i (aDW i ?_)
        rw[ef]
        simp only[cE]
        exact dC.2 ⟨y,hy,hi'⟩
      obtain⟨c1,c2⟩:=hc i hi2
      exact⟨iB c1 u,fun cs hcs j hj=>iB (c2 cs (aB2 z1 hcs) j hj) u⟩
     simp only
     split
     ·have hfoot:W9 h (aCi (ev s f)::xs)=W9 h' (aCi (ev s f)::xs):=by
       unfold W9
       congr 1
       refine U0 fun i hi=> ?_
       rw[(hc i (hin i hi)).1]
      rw[hfoot]
      split
      ·rename_i hg
       have hgi:∀i∈q.g,h i=h' i:=fun i hi=>by
        have:=List.all_eq_true.1 hg i hi
        rw[←hfoot]at this
        simp only[List.contains_eq_mem,decide_eq_true_eq]at this
        unfold W9 at this
        rcases List.mem_append.1 this with h1 | h1
        ·exact(hc i (hin i h1)).1
        ·obtain⟨j,hj,hj'⟩:=List.mem_flatMap.1 h1
         split at hj'
         ·rename_i cs hcs
          exact(hc j (hin j hj)).2 cs hcs i hj'
         ·cases hj'
       rw[aDu (g:=q.g) (h:=apply u h) (h':=apply u h') (fun i hi=>iB (hgi i hi) u),
        J3 (g:=q.g) (h:=less q.g (apply u h)) (h':=less q.g (apply u h')) (fun i hi=>⟨W7 (hclo i hi).1,fun cs hcs j hj=>W7 ((hclo i hi).2 cs (zM hcs).1 j hj)⟩)]
      ·rfl
     ·rw[uX (h:=apply u h) (h':=apply u h') hclo]
   ·rfl
  | invoke r m=>rfl
 | makeMap t r=>cases r <;> rfl
 | lookup t x k ok =>
  simp only[i6,←hs x (by simp[Op.operands]),←hs k (by simp[Op.operands])]
  rw[L1 (key x (by simp[Op.operands])),F8 (key x (by simp[Op.operands]))]
 | mapUpdate t x k y =>
  simp only[i6,←hs x (by simp[Op.operands]),←hs k (by simp[Op.operands]),←hs y (by simp[Op.operands])]
  rw[nQ (key x (by simp[Op.operands])) (key y (by simp[Op.operands])),mD (key x (by simp[Op.operands]))]
 | insert t x k y =>
  simp only[i6,←hs x (by simp[Op.operands]),←hs k (by simp[Op.operands]),←hs y (by simp[Op.operands])]
  rw[nQ (key x (by simp[Op.operands])) (key y (by simp[Op.operands])),mD (key x (by simp[Op.operands]))]
 | _=>rfl
theorem aA8{P:Program}{tb:Tab}{new:Nat}{asm:Option Bool}{orc:Option Orc}{op:Op}{s s':Nat→AVal}{h h':Nat→Option Obj}
  (hs:∀x∈op.operands.toList,ev s x=ev s' x) (hh:∀i∈lC h op (fW s op),h i=h' i):sem P tb new asm orc op s h=sem P tb new asm orc op s' h':=by
 have key:∀x∈op.operands.toList,(¬((∃x,op = .move x)∨(∃x,op = .assign x)∨(∃x,op = .nilCheck x)∨∃t x f,op = .fieldAddr t x f))→∀i∈cE (ev s x),h i=h' i:=fun x hx hmv i hi=>by
  have hid:=gJ hx i hi
  refine hh i ?_
  unfold lC
  split
  ·exact List.mem_append_left _ hid
  ·exact List.mem_append_left _ hid
  ·exact List.mem_append_left _ hid
  ·rename_i x;exact absurd (.inl ⟨x,rfl⟩) hmv
  ·rename_i x;exact absurd (.inr (.inl ⟨x,rfl⟩)) hmv
  ·rename_i x;exact absurd (.inr (.inr (.inl ⟨x,rfl⟩))) hmv
  ·rename_i t x f;exact absurd (.inr (.inr (.inr ⟨t,x,f,rfl⟩))) hmv
  ·exact hid
 have e1:kG P tb new orc op s h=kG P tb new orc op s' h':=aE8 hs key (fun c hc ys hy=>by
  subst hc
  have hcl:=aCt (h':=h') (xs:=fW s (Op.call c)) hh
  refine uX fun i hi=> ?_
  obtain⟨x,hx,hi⟩:=hy i hi
  exact hcl i (gJ hx i hi)) (fun c hc A x hx=>by
  subst hc
  exact pC (fun i hi=>key x hx (by rintro(⟨_,e⟩ | ⟨_,e⟩ | ⟨_,e⟩ | ⟨_,_,_,e⟩) <;> cases e) i hi))
 unfold sem
 rw[e1,aEq hs hh]
end Go.Tv
