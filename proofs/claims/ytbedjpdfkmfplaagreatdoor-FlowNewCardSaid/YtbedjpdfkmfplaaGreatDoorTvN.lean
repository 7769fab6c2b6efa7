/- What an operation's outcome hangs on. -/
import Derived.Test.YtbedjpdfkmfplaaGreatDoorTvM
namespace Go.Tv
open Go Go.RowKit
theorem g9{h h':Nat→Option Obj}{i:Nat}(e:h i=h' i):∀(u:jB),apply u h i=apply u h' i:=fun u=>by
 induction u generalizing h h' with
 | nil=>exact e
 | cons p u ih =>
  obtain⟨j,o⟩:=p
  simp only[apply]
  refine ih ?_
  by_cases hj:i=j
  ·subst hj;rw[aH,aH]
  ·rw[aP _ _ hj,aP _ _ hj];exact e
section
variable{h h':Nat→Option Obj}
theorem p9{x:AVal}(hh:∀i∈cE x,h i=h' i):fY h x=fY h' x:=by
 cases x <;> try rfl
 rename_i id
 simp only[fY,hh id (by simp[cE])]
theorem tJ:∀ {xs:List AVal} {h h':Nat→Option Obj},(∀i∈bR xs,h i=h' i)→wP h xs=wP h' xs
 | [],_,_,_=>rfl
 | x::xs,h,h',hh=>by
  simp only[wP,p9 (x:=x) (fun i hi=>hh i (by simp[bR,hi]))]
  cases hd:fY h' x with
  | none=>rfl
  | some p =>
   obtain⟨y,u⟩:=p
   simp only[tJ (xs:=xs) (h:=apply u h) (h':=apply u h') (fun i hi=>g9 (hh i (by simp[bR,hi])) u)]
theorem aCj(xs ys:List AVal):bR (xs++ys)=bR xs++bR ys:=by
 induction xs with
 | nil=>rfl
 | cons x xs ih=>simp only[List.cons_append,bR,ih,List.append_assoc]
theorem aA5(k:IntKind)(l:List Int):bR (l.map fun i=>AVal.p false (.int k) i)=[]:=by
 induction l with
 | nil=>rfl
 | cons x xs ih=>simp only[List.map_cons,bR,cE,ih,List.append_nil]
theorem H5{x:AVal}:bR (cellsOf x)=cE x:=by
 cases x with
 | lag k n xs cs =>
  simp only[cellsOf,cE]
  rw[aCj]
  have:=aA5 k xs.1
  exact(congrArg (· ++ bR cs) this).trans (List.nil_append _)
 | _=>simp[cellsOf,bR,cE]
theorem aEP{T:Ty}{x:AVal}(hh:∀i∈cE x,h i=h' i):aF1 T h x=aF1 T h' x:=by
 unfold aF1
 rw[tJ (xs:=cellsOf x) (by rw[H5];exact hh)]
theorem E6{T:Ty}{x:AVal}(hh:∀i∈cE x,h i=h' i):toT T h x=toT T h' x:=by
 unfold toT
 split
 ·rename_i id i sz off
  rw[hh id (by simp[cE])]
 ·rfl
 ·exact aEP hh
theorem T3{A:Ty}:∀ {xs:List AVal} {h h':Nat→Option Obj},(∀i∈bR xs,h i=h' i)→aDL A h xs=aDL A h' xs
 | [],_,_,_=>rfl
 | x::xs,h,h',hh=>by
  simp only[aDL,E6 (x:=x) (T:=A) (fun i hi=>hh i (by simp[bR,hi]))]
  cases hd:toT A h' x with
  | none=>rfl
  | some p =>
   obtain⟨y,u⟩:=p
   simp only[T3 (xs:=xs) (h:=apply u h) (h':=apply u h') (fun i hi=>g9 (hh i (by simp[bR,hi])) u)]
theorem aAs{x:AVal}(hh:∀i∈cE x,h i=h' i):mE h x=mE h' x:=by
 unfold mE
 split <;> first
  | rfl
  | (rename_i id;rw[hh id (by simp[cE])])
  | (rename_i id i sz off;rw[hh id (by simp[cE])])
theorem aDw{x:AVal}{i:Int}(hh:∀i∈cE x,h i=h' i):aAV h x i=aAV h' x i:=by
 unfold aAV
 split <;> first
  | rfl
  | (rename_i id;rw[hh id (by simp[cE])])
  | (rename_i id i sz off;rw[hh id (by simp[cE])])
theorem aCb{x:AVal}(hh:∀i∈cE x,h i=h' i):lenOf h x=lenOf h' x:=by
 unfold lenOf
 split <;> first
  | rfl
  | (rename_i id;rw[hh id (by simp[cE])])
  | (rename_i id i sz off;rw[hh id (by simp[cE])])
theorem aEA{s d:TK}{x:AVal}(hh:∀i∈cE x,h i=h' i):conv s d h x=conv s d h' x:=by
 unfold conv
 split <;> first
  | rfl
  | (rename_i id;rw[hh id (by simp[cE])])
  | (rename_i id i sz off;rw[hh id (by simp[cE])])
theorem pA{A:Ty}{x:AVal}(hh:∀i∈cE x,h i=h' i):eU h A x=eU h' A x:=by
 unfold eU
 split <;> first
  | rfl
  | (rename_i id;rw[hh id (by simp[cE])])
  | (rename_i id i sz off;rw[hh id (by simp[cE])])
theorem M7(β:Bool):∀(T:Ty) (x:T.den),bR (gS β T x)=[]
 | .unit,_=>rfl
 | .prod a b,x=>by
  have h1:=M7 β a x.1
  have h2:=M7 β b x.2
  apply List.eq_nil_iff_forall_not_mem.2
  intro i hi
  simp only[gS,cX,List.mem_append]at hi
  obtain⟨y,hy,hi⟩:=hi
  rcases hy with hy | hy
  ·have:i∈bR (gS β a x.1):=cX.2 ⟨y,hy,hi⟩
   rw[h1]at this;cases this
  ·have:i∈bR (gS β b x.2):=cX.2 ⟨y,hy,hi⟩
   rw[h2]at this;cases this
 | .int _,_=>rfl
 | .bool,_=>rfl
 | .str,_=>rfl
 | .flt,_=>rfl
 | .slice _,_=>rfl
 | .ptr _,_=>rfl
 | .tree _ _,_=>rfl
 | .arr k _,x=>aA5 k x.1
 | .mapi _ _,_=>rfl
theorem aJg{cs new:List AVal}{p i:Nat}(hi:i∈bR (wr cs p new)):i∈bR cs∨i∈bR new:=by
 obtain⟨y,hy,hi⟩:=cX.1 hi
 simp only[wr,List.mem_append]at hy
 rcases hy with(hy | hy) | hy
 ·exact .inl (cX.2 ⟨y,List.mem_of_mem_take hy,hi⟩)
 ·exact .inr (cX.2 ⟨y,hy,hi⟩)
 ·exact .inl (cX.2 ⟨y,List.mem_of_mem_drop hy,hi⟩)
theorem aDJ{A:Ty}{xs:List A.den}{i off:Nat}{y:AVal}(hh:∀i∈cE y,h i=h' i):aCI A h xs i off y=aCI A h' xs i off y:=by
 unfold aCI
 refine E6 fun j hj=> ?_
 simp only[cE]at hj
 rcases aJg hj with h1 | h1
 ·rw[M7]at h1;cases h1
 ·rw[H5]at h1;exact hh j h1
theorem F7{x:AVal}(hh:∀i∈cE x,h i=h' i):T4 h x=T4 h' x:=by
 cases x <;> try rfl
 rename_i id
 simp only[T4,hh id (by simp[cE])]
theorem qJ:∀ {xs:List AVal},(∀i∈bR xs,h i=h' i)→sS h xs=sS h' xs
 | [],_=>rfl
 | x::xs,hh=>by
  simp only[sS,F7 (x:=x) (fun i hi=>hh i (by simp[bR,hi])),qJ (xs:=xs) (fun i hi=>hh i (by simp[bR,hi]))]
def Clo(h h':Nat→Option Obj)(I:List Nat):Prop:=∀i∈I,h i=h' i∧∀cs,h i=some (.box cs)→∀j∈bR cs,h j=h' j
theorem I8{x:AVal}(hh:Clo h h' (cE x)):yO h x=yO h' x:=by
 have h0:∀i∈cE x,h i=h' i:=fun i hi=>(hh i hi).1
 cases x <;> try rfl
 ·simp only[yO,F7 h0]
 ·rename_i id i sz off
  simp only[yO]
  have h1:=hh id (by simp[cE])
  rw[←h1.1]
  cases he:h id with
  | none=>rfl
  | some ob =>
   cases ob with
   | box cs=>simp only[qJ (xs:=cs) (h:=h) (h':=h') (h1.2 cs he)]
   | arr _ _ _=>rfl
   | fz _ _=>rfl
   | mpo _ _ _=>rfl
   | mpl _ _=>rfl
   | bytes _ _=>rfl
   | cutz _ _=>rfl
   | lmp _ _ _ _=>rfl
   | vrow _ _ _=>rfl
   | mat _ _ _ _ _=>rfl
 ·rename_i cs
  simp only[yO]
  rw[qJ (xs:=cs) (h:=h) (h':=h') (fun i hi=>h0 i (by simpa [cE]using hi))]
theorem zC:∀ {xs:List AVal},Clo h h' (bR xs)→xV h xs=xV h' xs
 | [],_=>rfl
 | x::xs,hh=>by
  simp only[xV,I8 (x:=x) (fun i hi=>hh i (by simp[bR,hi])),zC (xs:=xs) (fun i hi=>hh i (by simp[bR,hi]))]
theorem N8{x:AVal}(hh:Clo h h' (cE x)):aDk h x=aDk h' x:=by
 cases x <;> try (simp only[aDk];exact I8 hh)
 rename_i f cs
 simp only[aDk]
 rw[zC (xs:=cs) (h:=h) (h':=h') (fun i hi=>hh i (by simpa [cE]using hi))]
theorem sU:∀ {xs:List AVal},Clo h h' (bR xs)→rS h xs=rS h' xs
 | [],_=>rfl
 | x::xs,hh=>by
  simp only[rS,N8 (x:=x) (fun i hi=>hh i (by simp[bR,hi])),sU (xs:=xs) (fun i hi=>hh i (by simp[bR,hi]))]
theorem M6{g:List Nat}{i:Nat}(e:h i=h' i):less g h i=less g h' i:=by
 unfold less
 split
 ·rfl
 ·exact e
theorem V2{α β:Type}{l:List α}{f f':α→List β}(e:∀x∈l,f x=f' x):l.flatMap f=l.flatMap f':=by
 induction l with
 | nil=>rfl
 | cons x l ih=>simp only[List.flatMap_cons,e x (by simp),ih (fun y hy=>e y (by simp[hy]))]
theorem G1{g:List Nat}:∀ {xs:List AVal},Clo h h' (bR xs)→zL g h xs=zL g h' xs
 | [],_=>rfl
 | x::xs,hh=>by
  have e:aAK g h x=aAK g h' x:=by
   unfold aAK
   rw[N8 (x:=x) (fun i hi=>hh i (by simp[bR,hi]))]
  simp only[zL,e,G1 (xs:=xs) (fun i hi=>hh i (by simp[bR,hi]))]
theorem aDi{g:List Nat}{h h':Nat→Option Obj}(hg:∀i∈g,h i=h' i):kT g h 0 g=kT g h' 0 g:=by
 have key:∀(l:List Nat) (k:Nat),(∀i∈l,i∈g)→kT g h k l=kT g h' k l:=fun l=>by
  induction l with
  | nil=>intro k _;rfl
  | cons x l ih =>
   intro k hl
   simp only[kT,hg x (hl x (by simp)),ih (k+1) (fun i hi=>hl i (by simp[hi]))]
 exact key g 0 fun _ h=>h
theorem aEw{x:AVal}(hh:∀i∈cE x,h i=h' i):X9 h x=X9 h' x:=by
 cases x <;> try (simp only[X9];exact p9 hh)
 rename_i cs
 simp only[X9]
 rw[tJ (xs:=cs) (h:=h) (h':=h') (fun i hi=>hh i (by simpa [cE]using hi))]
theorem xO:∀ {bs:List Bool} {xs:List AVal} {h h':Nat→Option Obj},(∀i∈bR xs,h i=h' i)→frzL h bs xs=frzL h' bs xs
 | _,[],_,_,_=>by simp only[frzL]
 | [],_::_,_,_,_=>rfl
 | false::bs,x::xs,h,h',hh=>by
  simp only[frzL,xO (bs:=bs) (xs:=xs) (h:=h) (h':=h') (fun i hi=>hh i (by simp[bR,hi]))]
 | true::bs,x::xs,h,h',hh=>by
  simp only[frzL,aEw (x:=x) (h:=h) (h':=h') (fun i hi=>hh i (by simp[bR,hi]))]
  cases X9 h' x with
  | none=>rfl
  | some p =>
   obtain⟨y,u⟩:=p
   simp only[xO (bs:=bs) (xs:=xs) (h:=apply u h) (h':=apply u h') (fun i hi=>g9 (hh i (by simp[bR,hi])) u)]
def AllFz(u:jB):Prop:=∀p∈u,∃A xs,p.2=some (.fz A xs)
theorem AllFz.append{u v:jB}(hu:AllFz u)(hv:AllFz v):AllFz (u++v):=fun p hp=>(List.mem_append.1 hp).elim (hu p) (hv p)
theorem aAy{x y:AVal}{u:jB}(hd:fY h x=some (y,u)):AllFz u∧∀i∈cE y,i∈cE x:=by
 unfold fY at hd
 split at hd
 ·split at hd
  ·cases hd;exact⟨fun p hp=>by simp at hp;subst hp;exact⟨_,_,rfl⟩,fun i hi=>by simp[cE]at hi⟩
  ·cases hd;exact⟨fun p hp=>by simp at hp,fun i hi=>by simp[cE]at hi⟩
  ·cases hd;exact⟨fun p hp=>by simp at hp;subst hp;exact⟨_,_,rfl⟩,fun i hi=>by simp[cE]at hi⟩
  ·cases hd;exact⟨fun p hp=>by simp at hp;subst hp;exact⟨_,_,rfl⟩,fun i hi=>by simp[cE]at hi⟩
  ·cases hd
 ·cases hd;exact⟨fun p hp=>by simp at hp,fun i hi=>hi⟩
theorem aDs:∀ {xs ys:List AVal} {h:Nat→Option Obj} {u:jB},wP h xs=some (ys,u)→AllFz u∧∀i∈bR ys,i∈bR xs
 | [],ys,h,u,hd=>by cases hd;exact⟨fun p hp=>by simp at hp,fun i hi=>hi⟩
 | x::xs,ys,h,u,hd=>by
  simp only[wP]at hd
  split at hd
  ·rename_i y u1 h1
   split at hd
   ·rename_i ys' us h2
    cases hd
    obtain⟨q1,q2⟩:=aAy h1
    obtain⟨r1,r2⟩:=aDs h2
    refine⟨q1.append r1,fun i hi=> ?_⟩
    simp only[bR,List.mem_append]at hi ⊢
    exact hi.imp (q2 i) (r2 i)
   ·cases hd
  ·cases hd
theorem aIo{x y:AVal}{u:jB}(hd:X9 h x=some (y,u)):AllFz u∧∀i∈cE y,i∈cE x:=by
 unfold X9 at hd
 split at hd
 ·split at hd
  ·rename_i ds u' h1
   cases hd
   obtain⟨q1,q2⟩:=aDs h1
   exact⟨q1,fun i hi=>by simp only[cE]at hi ⊢;exact q2 i hi⟩
  ·cases hd
 ·exact aAy hd
theorem aBS:∀ {bs:List Bool} {xs ys:List AVal} {h:Nat→Option Obj} {u:jB},frzL h bs xs=some (ys,u)→AllFz u∧∀i∈bR ys,i∈bR xs
 | _,[],ys,h,u,hd=>by simp only[frzL]at hd;cases hd;exact⟨fun p hp=>by simp at hp,fun i hi=>hi⟩
 | [],_::_,ys,h,u,hd=>by simp only[frzL]at hd;cases hd;exact⟨fun p hp=>by simp at hp,fun i hi=>hi⟩
 | false::bs,x::xs,ys,h,u,hd=>by
  simp only[frzL]at hd
  split at hd
  ·rename_i ys' u' h1
   cases hd
   obtain⟨q1,q2⟩:=aBS h1
   refine⟨q1,fun i hi=> ?_⟩
   simp only[bR,List.mem_append]at hi ⊢
   exact hi.imp (fun h=>h) (q2 i)
  ·cases hd
 | true::bs,x::xs,ys,h,u,hd=>by
  simp only[frzL]at hd
  split at hd
  ·rename_i y u1 h1
   split at hd
   ·rename_i ys' us h2
    cases hd
    obtain⟨q1,q2⟩:=aIo h1
    obtain⟨r1,r2⟩:=aBS h2
    refine⟨q1.append r1,fun i hi=> ?_⟩
    simp only[bR,List.mem_append]at hi ⊢
    exact hi.imp (q2 i) (r2 i)
   ·cases hd
  ·cases hd
theorem aBU{u:jB}(hu:AllFz u){i:Nat}{cs:List AVal}:∀ {h:Nat→Option Obj},apply u h i=some (.box cs)→h i=some (.box cs):=by
 induction u with
 | nil=>intro h hb;exact hb
 | cons p u ih =>
  intro h hb
  obtain⟨j,o⟩:=p
  have h1:=ih (fun q hq=>hu q (by simp[hq])) hb
  by_cases e:i=j
  ·subst e
   rw[aH]at h1
   obtain⟨A,xs,h2⟩:=hu (i,o) (by simp)
   simp only at h2
   rw[h1]at h2
   cases h2
  ·rw[aP _ _ e]at h1;exact h1
theorem aB1{xs:List AVal}(hh:∀i∈U3 h xs,h i=h' i):Clo h h' (bR xs):=fun i hi =>
 ⟨hh i (List.mem_append_left _ hi),fun cs hc j hj=>hh j (List.mem_append_right _ (List.mem_flatMap.2 ⟨i,hi,by rw[hc];exact hj⟩))⟩
theorem M9{tb:Tab}{new:Nat}{t:TypeId}{x:AVal}{lo hi:Option (Option Int)}(hh:∀i∈cE x,h i=h' i):uQ tb new t x lo hi h=uQ tb new t x lo hi h':=by
 unfold uQ
 split
 ·split
  ·split <;> first
    | rfl
    | (rename_i id;rw[hh id (by simp[cE])])
  ·rfl
 ·rfl
theorem aAw{new:Nat}{ti:TI}{x:AVal}(hx:∀i∈cE x,h i=h' i)(ho:∀i∈cE x,∀e e2 A xss k j,h i=some (.mat e e2 A xss (some (k,j)))→h j=h' j):oF new ti x h=oF new ti x h':=by
 unfold oF
 cases x <;> try rfl
 rename_i id i sz off
 simp only
 have e1:=hx id (by simp[cE])
 have e2:=ho id (by simp[cE])
 rw[←e1]
 cases hm:h id with
 | none=>rfl
 | some ob =>
  cases ob with
  | mat e e2' A xss hole =>
   cases hole with
   | none=>rfl
   | some p =>
    obtain⟨k,j⟩:=p
    simp only[e2 _ _ _ _ _ _ hm]
  | _=>rfl
theorem N3{ti:TI}{x:AVal}(hx:∀i∈cE x,h i=h' i):pP ti x h=pP ti x h':=by
 unfold pP
 split
 ·rename_i id b n i k _
  have hid:=hx id (by simp[cE])
  rw[hid]
 ·rfl
theorem J8{ti:TI}{x y:AVal}(hx:∀i∈cE x,h i=h' i):mK ti x y h=mK ti x y h':=by
 unfold mK
 split
 ·rename_i id b n i _ k v
  have hid:=hx id (by simp[cE])
  rw[hid]
 ·rfl
theorem J1{tb:Tab}{t:TypeId}{x i:AVal}(hx:∀i∈cE x,h i=h' i):mJ tb t x i h=mJ tb t x i h':=by
 unfold mJ
 cases tb.find t with
 | none=>rfl
 | some ti =>
  simp only
  split
  ·split
   ·split
    ·split
     ·rename_i id j sz off _ _ _
      rw[hx id (by simp[cE])]
     ·rfl
     ·rfl
    ·split
     ·split
      ·rename_i id j sz off _ _ _
       rw[hx id (by simp[cE])]
      ·rfl
     ·rfl
   ·rfl
  ·rfl
theorem xI{tb:Tab}{t:TypeId}{x i:AVal}(hx:∀i∈cE x,h i=h' i):jV tb t x i h=jV tb t x i h':=by
 unfold jV
 cases iT tb t with
 | none=>rfl
 | some q =>
  simp only
  split
  ·rw[aDw hx]
  ·rfl
theorem J4{P:Program}{tb:Tab}{t:TypeId}{x k:AVal}{ok:Bool}(hx:∀i∈cE x,h i=h' i):pJ P tb t x k ok h=pJ P tb t x k ok h':=by
 unfold pJ
 split
 ·split
  ·rename_i id
   rw[hx id (by simp[cE])]
  ·rfl
 ·rfl
theorem C1{P:Program}{tb:Tab}{t:TypeId}{g:List Nat}{x k:AVal}{ok:Bool}(hx:∀i∈cE x,h i=h' i):mS P tb t g x k ok h=mS P tb t g x k ok h':=by
 unfold mS
 split
 ·split
  ·rename_i id
   rw[hx id (by simp[cE])]
  ·rfl
 ·rfl
theorem nS{P:Program}{tb:Tab}{t:TypeId}{x k y:AVal}(hx:∀i∈cE x,h i=h' i)(hy:∀i∈cE y,h i=h' i):fZ P tb t x k y h=fZ P tb t x k y h':=by
 unfold fZ
 split
 ·split
  ·rename_i id
   rw[hx id (by simp[cE])]
   split
   ·split
    ·split
     ·rw[E6 hy]
     ·rfl
    ·rfl
   ·rfl
  ·rfl
 ·rfl
theorem lX{P:Program}{tb:Tab}{t:TypeId}{x k y:AVal}(hx:∀i∈cE x,h i=h' i):fF P tb t x k y h=fF P tb t x k y h':=by
 unfold fF
 split
 ·split
  ·rename_i id
   rw[hx id (by simp[cE])]
  ·rfl
 ·rfl
theorem aBu{id i:Nat}{e e2:TypeId}{A:Ty}{xss:List (List A.den)}{hole:Option (Nat×Nat)}{y:AVal}(hy:∀i∈cE y,h i=h' i)(ho:∀k j,hole=some (k,j)→h j=h' j):B2 id i e e2 A xss hole y h=B2 id i e e2 A xss hole y h':=by
 unfold B2
 cases y <;> try rfl
 rename_i r
 simp only
 rw[←hy r (by simp[cE])]
 cases h r with
 | none=>rfl
 | some ob =>
  cases ob with
  | arr e3 B zs =>
   cases hole with
   | none=>rfl
   | some p =>
    obtain⟨k,j⟩:=p
    simp only[ho k j rfl]
  | _=>rfl
theorem S3{tb:Tab}{t:TypeId}{x y:AVal}(hx:∀i∈cE x,h i=h' i)(hy:∀i∈cE y,h i=h' i)(ho:∀i∈cE x,∀e e2 A xss k j,h i=some (.mat e e2 A xss (some (k,j)))→h j=h' j):uV tb t x y h=uV tb t x y h':=by
 unfold uV
 cases tb.find t with
 | none=>rfl
 | some ti =>
  simp only
  split
  ·cases x <;> try rfl
   case ada=>exact J8 hx
   rename_i id i sz off
   simp only
   have hid:=hx id (by simp[cE])
   have hop:=ho id (by simp[cE])
   rw[←hid]
   cases hm:h id with
   | none=>rfl
   | some ob =>
    cases ob with
    | arr e A xs=>simp only[aDJ (A:=A) (xs:=xs) (i:=i) (off:=off) hy]
    | fz _ _=>rfl
    | box _=>rfl
    | mpo _ _ _=>rfl
    | mpl _ _=>rfl
    | bytes _ _=>rfl
    | cutz _ _=>rfl
    | lmp _ _ _ _=>rfl
    | vrow _ _ _=>rfl
    | mat e e2 A xss hole=>simp only[aBu (id:=id) (i:=i) (e:=e) (e2:=e2) (A:=A) (xss:=xss) (hole:=hole) hy (fun k j eh=>hop e e2 A xss k j (by rw[hm,eh]))]
  ·rfl
theorem K3{tb:Tab}{new:Nat}{t:TypeId}{x y:AVal}(hx:∀i∈cE x,h i=h' i)(hy:∀i∈cE y,h i=h' i):pG tb new t x y h=pG tb new t x y h':=by
 unfold pG
 cases iT tb t with
 | none=>rfl
 | some p =>
  obtain⟨e,te,A⟩:=p
  simp only[pA (A:=A) hy]
  cases eU h' A y with
  | none=>rfl
  | some ys =>
   simp only
   cases x <;> try rfl
   rename_i id
   simp only
   rw[hx id (by simp[cE])]
theorem aAg{tb:Tab}{t:TypeId}{x y:AVal}(hx:∀i∈cE x,h i=h' i)(hy:∀i∈cE y,h i=h' i):zI tb t x y h=zI tb t x y h':=by
 unfold zI
 cases iT tb t with
 | none=>rfl
 | some p =>
  obtain⟨e,te,A⟩:=p
  simp only[pA (A:=A) hy]
  cases eU h' A y with
  | none=>rfl
  | some ys =>
   simp only
   cases x <;> try rfl
   rename_i id
   simp only
   rw[hx id (by simp[cE])]
end
def fS(s:Nat→AVal)(op:Op):List AVal:=op.operands.toList.map (ev s)
theorem gA{s:Nat→AVal}{op:Op}{x:Operand}(hx:x∈op.operands.toList):∀i∈cE (ev s x),i∈bR (fS s op):=fun _ hi =>
 cX.2 ⟨ev s x,List.mem_map.2 ⟨x,hx,rfl⟩,hi⟩
def P2(h:Nat→Option Obj)(xs:List AVal):List Nat :=
 bR xs++(bR xs).flatMap fun i=>match h i with
  | some (.mat _ _ _ _ (some (_,j)))=>[j]
  | _=>[]
theorem T7{h:Nat→Option Obj}{xs:List AVal}{i:Nat}{e e2:TypeId}{A:Ty}{xss:List (List A.den)}{k j:Nat}(hi:i∈bR xs)(hm:h i=some (.mat e e2 A xss (some (k,j)))):j∈P2 h xs :=
 List.mem_append_right _ (List.mem_flatMap.2 ⟨i,hi,by rw[hm];exact .head _⟩)
def lF(h:Nat→Option Obj)(op:Op)(xs:List AVal):List Nat :=
 match op with
 | .call _=>U3 h xs
 | .load _ _=>P2 h xs
 | .store _ _ _=>P2 h xs
 | .move _=>[]
 | .assign _=>[]
 | .nilCheck _=>[]
 | .fieldAddr _ _ _=>[]
 | _=>bR xs
theorem aEp{P:Program}{tb:Tab}{new:Nat}{asm:Option Bool}{orc:Option Orc}{op:Op}{s s':Nat→AVal}{h h':Nat→Option Obj}
  (hs:∀x∈op.operands.toList,ev s x=ev s' x) (hh:∀i∈lF h op (fS s op),h i=h' i):iR P tb new asm orc op s h=iR P tb new asm orc op s' h':=by
 by_cases hmv:(∃x,op = .move x)∨(∃x,op = .assign x)∨(∃x,op = .nilCheck x)∨∃t x f,op = .fieldAddr t x f
 ·rcases hmv with⟨x,rfl⟩ | ⟨x,rfl⟩ | ⟨x,rfl⟩ | ⟨t,x,f,rfl⟩ <;> simp only[iR,hs x (by simp[Op.operands])]
 have hid:∀i∈bR (fS s op),h i=h' i:=fun i hi=>by
  refine hh i ?_
  unfold lF
  split
  ·exact List.mem_append_left _ hi
  ·exact List.mem_append_left _ hi
  ·exact List.mem_append_left _ hi
  ·rename_i x;exact absurd (.inl ⟨x,rfl⟩) hmv
  ·rename_i x;exact absurd (.inr (.inl ⟨x,rfl⟩)) hmv
  ·rename_i x;exact absurd (.inr (.inr (.inl ⟨x,rfl⟩))) hmv
  ·rename_i t x f;exact absurd (.inr (.inr (.inr ⟨t,x,f,rfl⟩))) hmv
  ·exact hi
 have key:∀x∈op.operands.toList,∀i∈cE (ev s x),h i=h' i:=fun x hx i hi=>hid i (gA hx i hi)
 cases op with
 | move x=>simp only[iR,hs x (by simp[Op.operands])]
 | assign x=>simp only[iR,hs x (by simp[Op.operands])]
 | pick c x y =>
  have e:∀b:Bool,ev s (if b=true then x else y)=ev s' (if b=true then x else y):=fun b=>by
   cases b
   ·exact hs y (by simp[Op.operands])
   ·exact hs x (by simp[Op.operands])
  simp only[iR,aBA,hs c (by simp[Op.operands]),e,hs x (by simp[Op.operands]),hs y (by simp[Op.operands])]
 | alloc t=>rfl
 | box t x=>simp only[iR,hs x (by simp[Op.operands])]
 | build t ps =>
  simp only[iR]
  have e:ps.toList.map (fun p=>ev s p.2)=ps.toList.map (fun p=>ev s' p.2):=List.map_congr_left (fun p hp=>hs p.2 (by simp only[Op.operands,List.mem_map];exact⟨p,hp,rfl⟩))
  rw[e]
 | buildSlice t len ps =>
  simp only[iR]
  have e:ps.toList.map (fun p=>ev s p.2)=ps.toList.map (fun p=>ev s' p.2):=List.map_congr_left (fun p hp=>hs p.2 (by simp only[Op.operands,List.mem_map];exact⟨p,hp,rfl⟩))
  rw[←e]
  unfold o5
  cases iT tb t with
  | none=>rfl
  | some q =>
   obtain⟨e,te,A⟩:=q
   simp only
   split
   ·rw[T3 (A:=A) (fun i hi=>by
     obtain⟨y,hy,hi⟩:=cX.1 hi
     obtain⟨p,hp,rfl⟩:=List.mem_map.1 hy
     exact key p.2 (by simp only[Op.operands,List.mem_map];exact⟨p,hp,rfl⟩) i hi)]
   ·rfl
 | load t x =>
  simp only[iR,←hs x (by simp[Op.operands])]
  have hx:=key x (by simp[Op.operands])
  have e2:∀ti,oF new ti (ev s x) h=oF new ti (ev s x) h':=fun ti=>aAw hx (fun i hi e e2 A xss k j hm=>hh j (T7 (gA (by simp[Op.operands]) i hi) hm))
  unfold aBt
  simp only[aAs hx,N3 hx,e2]
 | store t x y =>
  simp only[iR,←hs x (by simp[Op.operands]),←hs y (by simp[Op.operands])]
  exact S3 (key x (by simp[Op.operands])) (key y (by simp[Op.operands])) (fun i hi e e2 A xss k j hm=>hh j (T7 (gA (by simp[Op.operands]) i hi) hm))
 | binOp o t x y t'=>simp only[iR,hs x (by simp[Op.operands]),hs y (by simp[Op.operands])]
 | unOp o t x=>simp only[iR,hs x (by simp[Op.operands])]
 | nilCheck x=>simp only[iR,hs x (by simp[Op.operands])]
 | convert st dt x =>
  simp only[iR,←hs x (by simp[Op.operands])]
  cases orc with
  | some _=>rfl
  | none=> ?_
  simp only
  unfold aBz
  cases tb.find st with
  | none=>rfl
  | some si =>
   cases tb.find dt with
   | none=>rfl
   | some di =>
    simp only
    cases aHg tb di.k (ev s x)with
    | some r=>rfl
    | none=>simp only[aEA (s:=si.k) (d:=di.k) (key x (by simp[Op.operands]))]
 | slice t x lo hi mx =>
  cases mx with
  | some mo =>
   cases hi with
   | none=>rfl
   | some hio =>
    have e1:vV s lo=vV s' lo:=by
     cases lo with
     | none=>rfl
     | some y=>simp only[vV,hs y (by simp[Op.operands])]
    simp only[iR,←hs x (by simp[Op.operands]),←hs hio (by simp[Op.operands]),←hs mo (by simp[Op.operands]),←e1]
    have hx:=key x (by simp[Op.operands])
    cases orc with
    | some _ =>
     simp only
     unfold aEB
     rw[p9 hx]
    | none=> ?_
    simp only
    unfold D6
    split
    ·split
     ·rfl
     ·rename_i id ex
      rw[hx id (by rw[ex];simp[cE])]
     ·rfl
    ·rfl
  | none =>
   have e1:vV s lo=vV s' lo:=by
    cases lo with
    | none=>rfl
    | some y=>simp only[vV,hs y (by simp[Op.operands])]
   have e2:vV s hi=vV s' hi:=by
    cases hi with
    | none=>rfl
    | some y=>simp only[vV,hs y (by simp[Op.operands])]
   simp only[iR,←hs x (by simp[Op.operands]),←e1,←e2]
   exact M9 (key x (by simp[Op.operands]))
 | fieldAddr t x f=>simp only[iR,hs x (by simp[Op.operands])]
 | indexAddr t x i =>
  simp only[iR,←hs x (by simp[Op.operands]),←hs i (by simp[Op.operands])]
  simp only[J1 (key x (by simp[Op.operands])),xI (key x (by simp[Op.operands]))]
 | index t x i=>simp only[iR,hs x (by simp[Op.operands]),hs i (by simp[Op.operands])]
 | extract x i=>simp only[iR,hs x (by simp[Op.operands])]
 | typeAssert x xt t ok=>simp only[iR,hs x (by simp[Op.operands])]
 | makeFunc f fs cs =>
  simp only[iR]
  rw[List.map_congr_left (f:=ev s) (g:=ev s') (fun p hp=>hs p (by simp only[Op.operands,Array.toList_append,List.mem_append];exact .inr hp))]
 | makeSlice t l c=>simp only[iR,hs l (by simp[Op.operands]),hs c (by simp[Op.operands])]
 | call c =>
  obtain⟨callee,args,tys⟩:=c
  have hargs:∀x∈args.toList,x∈(Op.call { callee,args,argTypes:=tys }).operands.toList:=fun x hx=>by
   simp only[Op.operands,Call.operands,Array.toList_append,List.mem_append];exact .inr hx
  have e:args.toList.map (ev s)=args.toList.map (ev s'):=List.map_congr_left (fun p hp=>hs p (hargs p hp))
  have hk:∀y∈args.toList.map (ev s),∀i∈cE y,h i=h' i:=fun y hy i hi=>by
   obtain⟨p,hp,rfl⟩:=List.mem_map.1 hy
   exact key p (hargs p hp) i hi
  have hc:=aB1 (h':=h') (xs:=fS s (Op.call { callee,args,argTypes:=tys })) hh
  simp only[iR,vI]
  cases callee with
  | builtin b =>
   simp only[←e]
   unfold xL
   split
   ·rename_i y t ey et
    split
    ·unfold E5
     split
     ·split
      ·rename_i id _ _
       rw[hk (.mp id) (by rw[ey];simp) id (by simp[cE])]
      ·rfl
     ·rfl
    ·unfold aEo
     rw[aCb (hk y (by rw[ey];simp))]
   ·rfl
   ·rfl
   ·rename_i y z t t' ey et
    split
    ·exact K3 (hk y (by rw[ey];simp)) (hk z (by rw[ey];simp))
    ·rfl
   ·rename_i y z t t' ey et
    exact aAg (hk y (by rw[ey];simp)) (hk z (by rw[ey];simp))
   ·rfl
  | value f =>
   have hf:f∈(Op.call { callee:= .value f,args,argTypes:=tys }).operands.toList:=by simp[Op.operands,Call.operands]
   simp only[←e,←hs f hf]
   generalize hxs:iP tb (aIf orc) tys.toList (args.toList.map (ev s))=xs
   have hxi:∀i∈bR xs,i∈bR (args.toList.map (ev s)):=fun i hi=>by rw[←hxs,qO]at hi;exact hi
   unfold L0
   split
   ·rename_i fid caps q ef
    have hin:∀i∈bR (aCT (ev s f)::xs),i∈bR (fS s (Op.call { callee:= .value f,args,argTypes:=tys })):=fun i hi=>by
     simp only[bR,List.mem_append]at hi
     rcases hi with hi | hi
     ·exact gA hf i (aCQ i hi)
     ·obtain⟨y,hy,hi'⟩:=cX.1 (hxi i hi)
      obtain⟨p,hp,rfl⟩:=List.mem_map.1 hy
      exact gA (hargs p hp) i hi'
    rw[xO (bs:=q.fl) (h:=h) (h':=h') (fun i hi=>by
     obtain⟨y,hy,hi'⟩:=cX.1 (hxi i hi)
     exact hk y hy i hi')]
    cases hfz:frzL h' q.fl xs with
    | none=>rfl
    | some p =>
     obtain⟨ys,u⟩:=p
     obtain⟨z1,z2⟩:=aBS hfz
     have hclo:Clo (apply u h) (apply u h') (bR (ys++caps)):=fun i hi=>by
      have hi2:i∈bR (fS s (Op.call { callee:= .value f,args,argTypes:=tys })):=by
       obtain⟨y,hy,hi'⟩:=cX.1 hi
       rcases List.mem_append.1 hy with hy | hy
       ·obtain⟨y2,hy2,hi2⟩:=cX.1 (hxi i (z2 i (cX.2 ⟨y,hy,hi'⟩)))
        obtain⟨p,hp,rfl⟩:=List.mem_map.1 hy2
        exact gA (hargs p hp) i hi2
       ·refine gA hf i (aCQ i ?_)
        rw[ef]
        simp only[cE]
        exact cX.2 ⟨y,hy,hi'⟩
      obtain⟨c1,c2⟩:=hc i hi2
      exact⟨g9 c1 u,fun cs hcs j hj=>g9 (c2 cs (aBU z1 hcs) j hj) u⟩
     simp only
     split
     ·have hfoot:U3 h (aCT (ev s f)::xs)=U3 h' (aCT (ev s f)::xs):=by
       unfold U3
       congr 1
       refine V2 fun i hi=> ?_
       rw[(hc i (hin i hi)).1]
      rw[hfoot]
      split
      ·rename_i hg
       have hgi:∀i∈q.g,h i=h' i:=fun i hi=>by
        have:=List.all_eq_true.1 hg i hi
        rw[←hfoot]at this
        simp only[List.contains_eq_mem,decide_eq_true_eq]at this
        unfold U3 at this
        rcases List.mem_append.1 this with h1 | h1
        ·exact(hc i (hin i h1)).1
        ·obtain⟨j,hj,hj'⟩:=List.mem_flatMap.1 h1
         split at hj'
         ·rename_i cs hcs
          exact(hc j (hin j hj)).2 cs hcs i hj'
         ·cases hj'
       rw[aDi (g:=q.g) (h:=apply u h) (h':=apply u h') (fun i hi=>g9 (hgi i hi) u),
        G1 (g:=q.g) (h:=less q.g (apply u h)) (h':=less q.g (apply u h')) (fun i hi=>⟨M6 (hclo i hi).1,fun cs hcs j hj=>M6 ((hclo i hi).2 cs (yV hcs).1 j hj)⟩)]
      ·rfl
     ·rw[sU (h:=apply u h) (h':=apply u h') hclo]
   ·rfl
  | invoke r m=>rfl
 | makeMap t r=>cases r <;> rfl
 | lookup t x k ok =>
  simp only[iR,←hs x (by simp[Op.operands]),←hs k (by simp[Op.operands])]
  rw[J4 (key x (by simp[Op.operands])),C1 (key x (by simp[Op.operands]))]
 | mapUpdate t x k y =>
  simp only[iR,←hs x (by simp[Op.operands]),←hs k (by simp[Op.operands]),←hs y (by simp[Op.operands])]
  rw[nS (key x (by simp[Op.operands])) (key y (by simp[Op.operands])),lX (key x (by simp[Op.operands]))]
 | insert t x k y =>
  simp only[iR,←hs x (by simp[Op.operands]),←hs k (by simp[Op.operands]),←hs y (by simp[Op.operands])]
  rw[nS (key x (by simp[Op.operands])) (key y (by simp[Op.operands])),lX (key x (by simp[Op.operands]))]
 | _=>rfl
theorem aAR{P:Program}{tb:Tab}{new:Nat}{asm:Option Bool}{orc:Option Orc}{op:Op}{s s':Nat→AVal}{h h':Nat→Option Obj}
  (hs:∀x∈op.operands.toList,ev s x=ev s' x) (hh:∀i∈lF h op (fS s op),h i=h' i):sem P tb new asm orc op s h=sem P tb new asm orc op s' h':=by
 have key:∀x∈op.operands.toList,(¬((∃x,op = .move x)∨(∃x,op = .assign x)∨(∃x,op = .nilCheck x)∨∃t x f,op = .fieldAddr t x f))→∀i∈cE (ev s x),h i=h' i:=fun x hx hmv i hi=>by
  have hid:=gA hx i hi
  refine hh i ?_
  unfold lF
  split
  ·exact List.mem_append_left _ hid
  ·exact List.mem_append_left _ hid
  ·exact List.mem_append_left _ hid
  ·rename_i x;exact absurd (.inl ⟨x,rfl⟩) hmv
  ·rename_i x;exact absurd (.inr (.inl ⟨x,rfl⟩)) hmv
  ·rename_i x;exact absurd (.inr (.inr (.inl ⟨x,rfl⟩))) hmv
  ·rename_i t x f;exact absurd (.inr (.inr (.inr ⟨t,x,f,rfl⟩))) hmv
  ·exact hid
 have e1:j8 P tb new orc op s h=j8 P tb new orc op s' h':=aD2 hs key (fun c hc ys hy=>by
  subst hc
  have hcl:=aB1 (h':=h') (xs:=fS s (Op.call c)) hh
  refine sU fun i hi=> ?_
  obtain⟨x,hx,hi⟩:=hy i hi
  exact hcl i (gA hx i hi)) (fun c hc A x hx=>by
  subst hc
  exact pA (fun i hi=>key x hx (by rintro(⟨_,e⟩ | ⟨_,e⟩ | ⟨_,e⟩ | ⟨_,_,_,e⟩) <;> cases e) i hi))
 unfold sem
 rw[e1,aEp hs hh]
end Go.Tv
