/- What an operation's outcome hangs on. -/
import Derived.Test.YtacpjjgochokcaaDoorTvM
namespace Go.Tv
open Go Go.RowKit
theorem i8{h h':Nat→Option Obj}{i:Nat}(e:h i=h' i):∀(u:lQ),apply u h i=apply u h' i:=fun u=>by
 induction u generalizing h h' with
 | nil=>exact e
 | cons p u ih =>
  obtain⟨j,o⟩:=p
  simp only[apply]
  refine ih ?_
  by_cases hj:i=j
  ·subst hj;rw[aV,aV]
  ·rw[bL _ _ hj,bL _ _ hj];exact e
section
variable{h h':Nat→Option Obj}
theorem xK{x:AVal}(hh:∀i∈dQ x,h i=h' i):kX h x=kX h' x:=by
 cases x <;> try rfl
 rename_i id
 simp only[kX,hh id (by simp[dQ])]
theorem tJ:∀ {xs:List AVal} {h h':Nat→Option Obj},(∀i∈bP xs,h i=h' i)→uQ h xs=uQ h' xs
 | [],_,_,_=>rfl
 | x::xs,h,h',hh=>by
  simp only[uQ,xK (x:=x) (fun i hi=>hh i (by simp[bP,hi]))]
  cases hd:kX h' x with
  | none=>rfl
  | some p =>
   obtain⟨y,u⟩:=p
   simp only[tJ (xs:=xs) (h:=apply u h) (h':=apply u h') (fun i hi=>i8 (hh i (by simp[bP,hi])) u)]
theorem zQ{x:AVal}:bP (cellsOf x)=dQ x:=by
 cases x <;> simp[cellsOf,bP,dQ]
theorem aBT{T:Ty}{x:AVal}(hh:∀i∈dQ x,h i=h' i):aDH T h x=aDH T h' x:=by
 unfold aDH
 rw[tJ (xs:=cellsOf x) (by rw[zQ];exact hh)]
theorem y4{T:Ty}{x:AVal}(hh:∀i∈dQ x,h i=h' i):toT T h x=toT T h' x:=by
 unfold toT
 split
 ·rename_i id i sz off
  rw[hh id (by simp[dQ])]
 ·exact aBT hh
theorem P3{A:Ty}:∀ {xs:List AVal} {h h':Nat→Option Obj},(∀i∈bP xs,h i=h' i)→aBy A h xs=aBy A h' xs
 | [],_,_,_=>rfl
 | x::xs,h,h',hh=>by
  simp only[aBy,y4 (x:=x) (T:=A) (fun i hi=>hh i (by simp[bP,hi]))]
  cases hd:toT A h' x with
  | none=>rfl
  | some p =>
   obtain⟨y,u⟩:=p
   simp only[P3 (xs:=xs) (h:=apply u h) (h':=apply u h') (fun i hi=>i8 (hh i (by simp[bP,hi])) u)]
theorem P4{x:AVal}(hh:∀i∈dQ x,h i=h' i):o9 h x=o9 h' x:=by
 unfold o9
 split <;> first
  | rfl
  | (rename_i id;rw[hh id (by simp[dQ])])
  | (rename_i id i sz off;rw[hh id (by simp[dQ])])
theorem aA6{x:AVal}{i:Int}(hh:∀i∈dQ x,h i=h' i):R6 h x i=R6 h' x i:=by
 unfold R6
 split <;> first
  | rfl
  | (rename_i id;rw[hh id (by simp[dQ])])
  | (rename_i id i sz off;rw[hh id (by simp[dQ])])
theorem aBI{x:AVal}(hh:∀i∈dQ x,h i=h' i):lenOf h x=lenOf h' x:=by
 unfold lenOf
 split <;> first
  | rfl
  | (rename_i id;rw[hh id (by simp[dQ])])
  | (rename_i id i sz off;rw[hh id (by simp[dQ])])
theorem aB5{s d:TK}{x:AVal}(hh:∀i∈dQ x,h i=h' i):conv s d h x=conv s d h' x:=by
 unfold conv
 split <;> first
  | rfl
  | (rename_i id;rw[hh id (by simp[dQ])])
  | (rename_i id i sz off;rw[hh id (by simp[dQ])])
theorem u5{A:Ty}{x:AVal}(hh:∀i∈dQ x,h i=h' i):kY h A x=kY h' A x:=by
 unfold kY
 split <;> first
  | rfl
  | (rename_i id;rw[hh id (by simp[dQ])])
  | (rename_i id i sz off;rw[hh id (by simp[dQ])])
theorem F9(β:Bool):∀(T:Ty) (x:T.den),bP (kR β T x)=[]
 | .unit,_=>rfl
 | .prod a b,x=>by
  have h1:=F9 β a x.1
  have h2:=F9 β b x.2
  apply List.eq_nil_iff_forall_not_mem.2
  intro i hi
  simp only[kR,eY,List.mem_append]at hi
  obtain⟨y,hy,hi⟩:=hi
  rcases hy with hy | hy
  ·have:i∈bP (kR β a x.1):=eY.2 ⟨y,hy,hi⟩
   rw[h1]at this;cases this
  ·have:i∈bP (kR β b x.2):=eY.2 ⟨y,hy,hi⟩
   rw[h2]at this;cases this
 | .int _,_=>rfl
 | .bool,_=>rfl
 | .str,_=>rfl
 | .flt,_=>rfl
 | .slice _,_=>rfl
 | .ptr _,_=>rfl
 | .tree _ _,_=>rfl
theorem aIF{cs new:List AVal}{p i:Nat}(hi:i∈bP (wr cs p new)):i∈bP cs∨i∈bP new:=by
 obtain⟨y,hy,hi⟩:=eY.1 hi
 simp only[wr,List.mem_append]at hy
 rcases hy with(hy | hy) | hy
 ·exact .inl (eY.2 ⟨y,List.mem_of_mem_take hy,hi⟩)
 ·exact .inr (eY.2 ⟨y,hy,hi⟩)
 ·exact .inl (eY.2 ⟨y,List.mem_of_mem_drop hy,hi⟩)
theorem aBx{A:Ty}{xs:List A.den}{i off:Nat}{y:AVal}(hh:∀i∈dQ y,h i=h' i):aA3 A h xs i off y=aA3 A h' xs i off y:=by
 unfold aA3
 refine y4 fun j hj=> ?_
 simp only[dQ]at hj
 rcases aIF hj with h1 | h1
 ·rw[F9]at h1;cases h1
 ·rw[zQ]at h1;exact hh j h1
theorem zI{x:AVal}(hh:∀i∈dQ x,h i=h' i):L9 h x=L9 h' x:=by
 cases x <;> try rfl
 rename_i id
 simp only[L9,hh id (by simp[dQ])]
theorem rB:∀ {xs:List AVal},(∀i∈bP xs,h i=h' i)→tL h xs=tL h' xs
 | [],_=>rfl
 | x::xs,hh=>by
  simp only[tL,zI (x:=x) (fun i hi=>hh i (by simp[bP,hi])),rB (xs:=xs) (fun i hi=>hh i (by simp[bP,hi]))]
def Clo(h h':Nat→Option Obj)(I:List Nat):Prop:=∀i∈I,h i=h' i∧∀cs,h i=some (.box cs)→∀j∈bP cs,h j=h' j
theorem A0{x:AVal}(hh:Clo h h' (dQ x)):x7 h x=x7 h' x:=by
 have h0:∀i∈dQ x,h i=h' i:=fun i hi=>(hh i hi).1
 cases x <;> try rfl
 ·simp only[x7,zI h0]
 ·rename_i id i sz off
  simp only[x7]
  have h1:=hh id (by simp[dQ])
  rw[←h1.1]
  cases he:h id with
  | none=>rfl
  | some ob =>
   cases ob with
   | box cs=>simp only[rB (xs:=cs) (h:=h) (h':=h') (h1.2 cs he)]
   | arr _ _ _=>rfl
   | fz _ _=>rfl
   | mpo _ _ _=>rfl
   | mpl _ _=>rfl
   | mat _ _ _ _ _=>rfl
 ·rename_i cs
  simp only[x7]
  rw[rB (xs:=cs) (h:=h) (h':=h') (fun i hi=>h0 i (by simpa [dQ]using hi))]
theorem x8:∀ {xs:List AVal},Clo h h' (bP xs)→vM h xs=vM h' xs
 | [],_=>rfl
 | x::xs,hh=>by
  simp only[vM,A0 (x:=x) (fun i hi=>hh i (by simp[bP,hi])),x8 (xs:=xs) (fun i hi=>hh i (by simp[bP,hi]))]
theorem G5{x:AVal}(hh:Clo h h' (dQ x)):aBH h x=aBH h' x:=by
 cases x <;> try (simp only[aBH];exact A0 hh)
 rename_i f cs
 simp only[aBH]
 rw[x8 (xs:=cs) (h:=h) (h':=h') (fun i hi=>hh i (by simpa [dQ]using hi))]
theorem zK:∀ {xs:List AVal},Clo h h' (bP xs)→zZ h xs=zZ h' xs
 | [],_=>rfl
 | x::xs,hh=>by
  simp only[zZ,G5 (x:=x) (fun i hi=>hh i (by simp[bP,hi])),zK (xs:=xs) (fun i hi=>hh i (by simp[bP,hi]))]
theorem E9{g:List Nat}{i:Nat}(e:h i=h' i):less g h i=less g h' i:=by
 unfold less
 split
 ·rfl
 ·exact e
theorem P1{α β:Type}{l:List α}{f f':α→List β}(e:∀x∈l,f x=f' x):l.flatMap f=l.flatMap f':=by
 induction l with
 | nil=>rfl
 | cons x l ih=>simp only[List.flatMap_cons,e x (by simp),ih (fun y hy=>e y (by simp[hy]))]
theorem A7{g:List Nat}:∀ {xs:List AVal},Clo h h' (bP xs)→wJ g h xs=wJ g h' xs
 | [],_=>rfl
 | x::xs,hh=>by
  have e:R7 g h x=R7 g h' x:=by
   unfold R7
   rw[G5 (x:=x) (fun i hi=>hh i (by simp[bP,hi]))]
  simp only[wJ,e,A7 (xs:=xs) (fun i hi=>hh i (by simp[bP,hi]))]
theorem aBo{g:List Nat}{h h':Nat→Option Obj}(hg:∀i∈g,h i=h' i):mJ g h 0 g=mJ g h' 0 g:=by
 have key:∀(l:List Nat) (k:Nat),(∀i∈l,i∈g)→mJ g h k l=mJ g h' k l:=fun l=>by
  induction l with
  | nil=>intro k _;rfl
  | cons x l ih =>
   intro k hl
   simp only[mJ,hg x (hl x (by simp)),ih (k+1) (fun i hi=>hl i (by simp[hi]))]
 exact key g 0 fun _ h=>h
theorem aCa{x:AVal}(hh:∀i∈dQ x,h i=h' i):Q4 h x=Q4 h' x:=by
 cases x <;> try (simp only[Q4];exact xK hh)
 rename_i cs
 simp only[Q4]
 rw[tJ (xs:=cs) (h:=h) (h':=h') (fun i hi=>hh i (by simpa [dQ]using hi))]
theorem wB:∀ {bs:List Bool} {xs:List AVal} {h h':Nat→Option Obj},(∀i∈bP xs,h i=h' i)→rA h bs xs=rA h' bs xs
 | _,[],_,_,_=>by simp only[rA]
 | [],_::_,_,_,_=>rfl
 | false::bs,x::xs,h,h',hh=>by
  simp only[rA,wB (bs:=bs) (xs:=xs) (h:=h) (h':=h') (fun i hi=>hh i (by simp[bP,hi]))]
 | true::bs,x::xs,h,h',hh=>by
  simp only[rA,aCa (x:=x) (h:=h) (h':=h') (fun i hi=>hh i (by simp[bP,hi]))]
  cases Q4 h' x with
  | none=>rfl
  | some p =>
   obtain⟨y,u⟩:=p
   simp only[wB (bs:=bs) (xs:=xs) (h:=apply u h) (h':=apply u h') (fun i hi=>i8 (hh i (by simp[bP,hi])) u)]
def AllFz(u:lQ):Prop:=∀p∈u,∃A xs,p.2=some (.fz A xs)
theorem AllFz.append{u v:lQ}(hu:AllFz u)(hv:AllFz v):AllFz (u++v):=fun p hp=>(List.mem_append.1 hp).elim (hu p) (hv p)
theorem U5{x y:AVal}{u:lQ}(hd:kX h x=some (y,u)):AllFz u∧∀i∈dQ y,i∈dQ x:=by
 unfold kX at hd
 split at hd
 ·split at hd
  ·cases hd;exact⟨fun p hp=>by simp at hp;subst hp;exact⟨_,_,rfl⟩,fun i hi=>by simp[dQ]at hi⟩
  ·cases hd;exact⟨fun p hp=>by simp at hp,fun i hi=>by simp[dQ]at hi⟩
  ·cases hd;exact⟨fun p hp=>by simp at hp;subst hp;exact⟨_,_,rfl⟩,fun i hi=>by simp[dQ]at hi⟩
  ·cases hd
 ·cases hd;exact⟨fun p hp=>by simp at hp,fun i hi=>hi⟩
theorem aBc:∀ {xs ys:List AVal} {h:Nat→Option Obj} {u:lQ},uQ h xs=some (ys,u)→AllFz u∧∀i∈bP ys,i∈bP xs
 | [],ys,h,u,hd=>by cases hd;exact⟨fun p hp=>by simp at hp,fun i hi=>hi⟩
 | x::xs,ys,h,u,hd=>by
  simp only[uQ]at hd
  split at hd
  ·rename_i y u1 h1
   split at hd
   ·rename_i ys' us h2
    cases hd
    obtain⟨q1,q2⟩:=U5 h1
    obtain⟨r1,r2⟩:=aBc h2
    refine⟨q1.append r1,fun i hi=> ?_⟩
    simp only[bP,List.mem_append]at hi ⊢
    exact hi.imp (q2 i) (r2 i)
   ·cases hd
  ·cases hd
theorem aHh{x y:AVal}{u:lQ}(hd:Q4 h x=some (y,u)):AllFz u∧∀i∈dQ y,i∈dQ x:=by
 unfold Q4 at hd
 split at hd
 ·split at hd
  ·rename_i ds u' h1
   cases hd
   obtain⟨q1,q2⟩:=aBc h1
   exact⟨q1,fun i hi=>by simp only[dQ]at hi ⊢;exact q2 i hi⟩
  ·cases hd
 ·exact U5 hd
theorem X3:∀ {bs:List Bool} {xs ys:List AVal} {h:Nat→Option Obj} {u:lQ},rA h bs xs=some (ys,u)→AllFz u∧∀i∈bP ys,i∈bP xs
 | _,[],ys,h,u,hd=>by simp only[rA]at hd;cases hd;exact⟨fun p hp=>by simp at hp,fun i hi=>hi⟩
 | [],_::_,ys,h,u,hd=>by simp only[rA]at hd;cases hd;exact⟨fun p hp=>by simp at hp,fun i hi=>hi⟩
 | false::bs,x::xs,ys,h,u,hd=>by
  simp only[rA]at hd
  split at hd
  ·rename_i ys' u' h1
   cases hd
   obtain⟨q1,q2⟩:=X3 h1
   refine⟨q1,fun i hi=> ?_⟩
   simp only[bP,List.mem_append]at hi ⊢
   exact hi.imp (fun h=>h) (q2 i)
  ·cases hd
 | true::bs,x::xs,ys,h,u,hd=>by
  simp only[rA]at hd
  split at hd
  ·rename_i y u1 h1
   split at hd
   ·rename_i ys' us h2
    cases hd
    obtain⟨q1,q2⟩:=aHh h1
    obtain⟨r1,r2⟩:=X3 h2
    refine⟨q1.append r1,fun i hi=> ?_⟩
    simp only[bP,List.mem_append]at hi ⊢
    exact hi.imp (q2 i) (r2 i)
   ·cases hd
  ·cases hd
theorem X7{u:lQ}(hu:AllFz u){i:Nat}{cs:List AVal}:∀ {h:Nat→Option Obj},apply u h i=some (.box cs)→h i=some (.box cs):=by
 induction u with
 | nil=>intro h hb;exact hb
 | cons p u ih =>
  intro h hb
  obtain⟨j,o⟩:=p
  have h1:=ih (fun q hq=>hu q (by simp[hq])) hb
  by_cases e:i=j
  ·subst e
   rw[aV]at h1
   obtain⟨A,xs,h2⟩:=hu (i,o) (by simp)
   simp only at h2
   rw[h1]at h2
   cases h2
  ·rw[bL _ _ e]at h1;exact h1
theorem aGg{xs:List AVal}(hh:∀i∈G9 h xs,h i=h' i):Clo h h' (bP xs):=fun i hi =>
 ⟨hh i (List.mem_append_left _ hi),fun cs hc j hj=>hh j (List.mem_append_right _ (List.mem_flatMap.2 ⟨i,hi,by rw[hc];exact hj⟩))⟩
theorem L6{tb:Tab}{new:Nat}{t:TypeId}{x:AVal}{lo hi:Option (Option Int)}(hh:∀i∈dQ x,h i=h' i):sQ tb new t x lo hi h=sQ tb new t x lo hi h':=by
 unfold sQ
 split
 ·split
  ·split <;> first
    | rfl
    | (rename_i id;rw[hh id (by simp[dQ])])
  ·rfl
 ·rfl
theorem Q0{new:Nat}{ti:TI}{x:AVal}(hx:∀i∈dQ x,h i=h' i)(ho:∀i∈dQ x,∀e e2 A xss k j,h i=some (.mat e e2 A xss (some (k,j)))→h j=h' j):pF new ti x h=pF new ti x h':=by
 unfold pF
 cases x <;> try rfl
 rename_i id i sz off
 simp only
 have e1:=hx id (by simp[dQ])
 have e2:=ho id (by simp[dQ])
 rw[←e1]
 cases hm:h id with
 | none=>rfl
 | some ob =>
  cases ob with
  | mat e e2' A xss hole =>
   cases hole with
   | none=>rfl
   | some p =>
    obtain⟨k,j⟩:=p
    simp only[e2 _ _ _ _ _ _ hm]
  | _=>rfl
theorem G7{ti:TI}{x:AVal}(hx:∀i∈dQ x,h i=h' i):qI ti x h=qI ti x h':=by
 unfold qI
 split
 ·rename_i id b n i k _
  have hid:=hx id (by simp[dQ])
  rw[hid]
 ·rfl
theorem D3{ti:TI}{x y:AVal}(hx:∀i∈dQ x,h i=h' i):nY ti x y h=nY ti x y h':=by
 unfold nY
 split
 ·rename_i id b n i _ k v
  have hid:=hx id (by simp[dQ])
  rw[hid]
 ·rfl
theorem C3{tb:Tab}{t:TypeId}{x i:AVal}(hx:∀i∈dQ x,h i=h' i):n0 tb t x i h=n0 tb t x i h':=by
 unfold n0
 cases tb.find t with
 | none=>rfl
 | some ti =>
  simp only
  split
  ·split
   ·split
    ·split
     ·rename_i id j sz off _ _ _
      rw[hx id (by simp[dQ])]
     ·rfl
     ·rfl
    ·split
     ·split
      ·rename_i id j sz off _ _ _
       rw[hx id (by simp[dQ])]
      ·rfl
     ·rfl
   ·rfl
  ·rfl
theorem wC{tb:Tab}{t:TypeId}{x i:AVal}(hx:∀i∈dQ x,h i=h' i):lD tb t x i h=lD tb t x i h':=by
 unfold lD
 cases nB tb t with
 | none=>rfl
 | some q =>
  simp only
  split
  ·rw[aA6 hx]
  ·rfl
theorem D5{P:Program}{tb:Tab}{t:TypeId}{x k:AVal}{ok:Bool}(hx:∀i∈dQ x,h i=h' i):qL P tb t x k ok h=qL P tb t x k ok h':=by
 unfold qL
 split
 ·split
  ·rename_i id
   rw[hx id (by simp[dQ])]
  ·rfl
 ·rfl
theorem yG{P:Program}{tb:Tab}{t:TypeId}{g:List Nat}{x k:AVal}{ok:Bool}(hx:∀i∈dQ x,h i=h' i):oS P tb t g x k ok h=oS P tb t g x k ok h':=by
 unfold oS
 split
 ·split
  ·rename_i id
   rw[hx id (by simp[dQ])]
  ·rfl
 ·rfl
theorem oN{P:Program}{tb:Tab}{t:TypeId}{x k y:AVal}(hx:∀i∈dQ x,h i=h' i)(hy:∀i∈dQ y,h i=h' i):gV P tb t x k y h=gV P tb t x k y h':=by
 unfold gV
 split
 ·split
  ·rename_i id
   rw[hx id (by simp[dQ])]
   split
   ·split
    ·split
     ·rw[y4 hy]
     ·rfl
    ·rfl
   ·rfl
  ·rfl
 ·rfl
theorem nD{P:Program}{tb:Tab}{t:TypeId}{x k y:AVal}(hx:∀i∈dQ x,h i=h' i):f9 P tb t x k y h=f9 P tb t x k y h':=by
 unfold f9
 split
 ·split
  ·rename_i id
   rw[hx id (by simp[dQ])]
  ·rfl
 ·rfl
theorem aAe{id i:Nat}{e e2:TypeId}{A:Ty}{xss:List (List A.den)}{hole:Option (Nat×Nat)}{y:AVal}(hy:∀i∈dQ y,h i=h' i)(ho:∀k j,hole=some (k,j)→h j=h' j):yS id i e e2 A xss hole y h=yS id i e e2 A xss hole y h':=by
 unfold yS
 cases y <;> try rfl
 rename_i r
 simp only
 rw[←hy r (by simp[dQ])]
 cases h r with
 | none=>rfl
 | some ob =>
  cases ob with
  | arr e3 B zs =>
   cases hole with
   | none=>rfl
   | some p =>
    obtain⟨k,j⟩:=p
    simp only[ho k j rfl]
  | _=>rfl
theorem E7{tb:Tab}{t:TypeId}{x y:AVal}(hx:∀i∈dQ x,h i=h' i)(hy:∀i∈dQ y,h i=h' i)(ho:∀i∈dQ x,∀e e2 A xss k j,h i=some (.mat e e2 A xss (some (k,j)))→h j=h' j):sX tb t x y h=sX tb t x y h':=by
 unfold sX
 cases tb.find t with
 | none=>rfl
 | some ti =>
  simp only
  split
  ·cases x <;> try rfl
   case ada=>exact D3 hx
   rename_i id i sz off
   simp only
   have hid:=hx id (by simp[dQ])
   have hop:=ho id (by simp[dQ])
   rw[←hid]
   cases hm:h id with
   | none=>rfl
   | some ob =>
    cases ob with
    | arr e A xs=>simp only[aBx (A:=A) (xs:=xs) (i:=i) (off:=off) hy]
    | fz _ _=>rfl
    | box _=>rfl
    | mpo _ _ _=>rfl
    | mpl _ _=>rfl
    | mat e e2 A xss hole=>simp only[aAe (id:=id) (i:=i) (e:=e) (e2:=e2) (A:=A) (xss:=xss) (hole:=hole) hy (fun k j eh=>hop e e2 A xss k j (by rw[hm,eh]))]
  ·rfl
theorem D4{tb:Tab}{new:Nat}{t:TypeId}{x y:AVal}(hx:∀i∈dQ x,h i=h' i)(hy:∀i∈dQ y,h i=h' i):pY tb new t x y h=pY tb new t x y h':=by
 unfold pY
 cases nB tb t with
 | none=>rfl
 | some p =>
  obtain⟨e,te,A⟩:=p
  simp only[u5 (A:=A) hy]
  cases kY h' A y with
  | none=>rfl
  | some ys =>
   simp only
   cases x <;> try rfl
   rename_i id
   simp only
   rw[hx id (by simp[dQ])]
theorem Q3{tb:Tab}{t:TypeId}{x y:AVal}(hx:∀i∈dQ x,h i=h' i)(hy:∀i∈dQ y,h i=h' i):wW tb t x y h=wW tb t x y h':=by
 unfold wW
 cases nB tb t with
 | none=>rfl
 | some p =>
  obtain⟨e,te,A⟩:=p
  simp only[u5 (A:=A) hy]
  cases kY h' A y with
  | none=>rfl
  | some ys =>
   simp only
   cases x <;> try rfl
   rename_i id
   simp only
   rw[hx id (by simp[dQ])]
end
def iL(s:Nat→AVal)(op:Op):List AVal:=op.operands.toList.map (ev s)
theorem j8{s:Nat→AVal}{op:Op}{x:Operand}(hx:x∈op.operands.toList):∀i∈dQ (ev s x),i∈bP (iL s op):=fun _ hi =>
 eY.2 ⟨ev s x,List.mem_map.2 ⟨x,hx,rfl⟩,hi⟩
def M5(h:Nat→Option Obj)(xs:List AVal):List Nat :=
 bP xs++(bP xs).flatMap fun i=>match h i with
  | some (.mat _ _ _ _ (some (_,j)))=>[j]
  | _=>[]
theorem I2{h:Nat→Option Obj}{xs:List AVal}{i:Nat}{e e2:TypeId}{A:Ty}{xss:List (List A.den)}{k j:Nat}(hi:i∈bP xs)(hm:h i=some (.mat e e2 A xss (some (k,j)))):j∈M5 h xs :=
 List.mem_append_right _ (List.mem_flatMap.2 ⟨i,hi,by rw[hm];exact .head _⟩)
def oR(h:Nat→Option Obj)(op:Op)(xs:List AVal):List Nat :=
 match op with
 | .call _=>G9 h xs
 | .load _ _=>M5 h xs
 | .store _ _ _=>M5 h xs
 | .move _=>[]
 | .assign _=>[]
 | .nilCheck _=>[]
 | .fieldAddr _ _ _=>[]
 | _=>bP xs
theorem S3{P:Program}{tb:Tab}{new:Nat}{asm:Option Bool}{orc:Option Orc}{op:Op}{s s':Nat→AVal}{h h':Nat→Option Obj}
  (hs:∀x∈op.operands.toList,ev s x=ev s' x) (hh:∀i∈oR h op (iL s op),h i=h' i):rO P tb new asm orc op s h=rO P tb new asm orc op s' h':=by
 by_cases hmv:(∃x,op = .move x)∨(∃x,op = .assign x)∨(∃x,op = .nilCheck x)∨∃t x f,op = .fieldAddr t x f
 ·rcases hmv with⟨x,rfl⟩ | ⟨x,rfl⟩ | ⟨x,rfl⟩ | ⟨t,x,f,rfl⟩ <;> simp only[rO,hs x (by simp[Op.operands])]
 have hid:∀i∈bP (iL s op),h i=h' i:=fun i hi=>by
  refine hh i ?_
  unfold oR
  split
  ·exact List.mem_append_left _ hi
  ·exact List.mem_append_left _ hi
  ·exact List.mem_append_left _ hi
  ·rename_i x;exact absurd (.inl ⟨x,rfl⟩) hmv
  ·rename_i x;exact absurd (.inr (.inl ⟨x,rfl⟩)) hmv
  ·rename_i x;exact absurd (.inr (.inr (.inl ⟨x,rfl⟩))) hmv
  ·rename_i t x f;exact absurd (.inr (.inr (.inr ⟨t,x,f,rfl⟩))) hmv
  ·exact hi
 have key:∀x∈op.operands.toList,∀i∈dQ (ev s x),h i=h' i:=fun x hx i hi=>hid i (j8 hx i hi)
 cases op with
 | move x=>simp only[rO,hs x (by simp[Op.operands])]
 | assign x=>simp only[rO,hs x (by simp[Op.operands])]
 | pick c x y =>
  have e:∀b:Bool,ev s (if b=true then x else y)=ev s' (if b=true then x else y):=fun b=>by
   cases b
   ·exact hs y (by simp[Op.operands])
   ·exact hs x (by simp[Op.operands])
  simp only[rO,Z8,hs c (by simp[Op.operands]),e,hs x (by simp[Op.operands]),hs y (by simp[Op.operands])]
 | alloc t=>rfl
 | box t x=>simp only[rO,hs x (by simp[Op.operands])]
 | build t ps =>
  simp only[rO]
  have e:ps.toList.map (fun p=>ev s p.2)=ps.toList.map (fun p=>ev s' p.2):=List.map_congr_left (fun p hp=>hs p.2 (by simp only[Op.operands,List.mem_map];exact⟨p,hp,rfl⟩))
  rw[e]
 | buildSlice t len ps =>
  simp only[rO]
  have e:ps.toList.map (fun p=>ev s p.2)=ps.toList.map (fun p=>ev s' p.2):=List.map_congr_left (fun p hp=>hs p.2 (by simp only[Op.operands,List.mem_map];exact⟨p,hp,rfl⟩))
  rw[←e]
  unfold pP
  cases nB tb t with
  | none=>rfl
  | some q =>
   obtain⟨e,te,A⟩:=q
   simp only
   split
   ·rw[P3 (A:=A) (fun i hi=>by
     obtain⟨y,hy,hi⟩:=eY.1 hi
     obtain⟨p,hp,rfl⟩:=List.mem_map.1 hy
     exact key p.2 (by simp only[Op.operands,List.mem_map];exact⟨p,hp,rfl⟩) i hi)]
   ·rfl
 | load t x =>
  simp only[rO,←hs x (by simp[Op.operands])]
  have hx:=key x (by simp[Op.operands])
  have e2:∀ti,pF new ti (ev s x) h=pF new ti (ev s x) h':=fun ti=>Q0 hx (fun i hi e e2 A xss k j hm=>hh j (I2 (j8 (by simp[Op.operands]) i hi) hm))
  unfold aAg
  simp only[P4 hx,G7 hx,e2]
 | store t x y =>
  simp only[rO,←hs x (by simp[Op.operands]),←hs y (by simp[Op.operands])]
  exact E7 (key x (by simp[Op.operands])) (key y (by simp[Op.operands])) (fun i hi e e2 A xss k j hm=>hh j (I2 (j8 (by simp[Op.operands]) i hi) hm))
 | binOp o t x y t'=>simp only[rO,hs x (by simp[Op.operands]),hs y (by simp[Op.operands])]
 | unOp o t x=>simp only[rO,hs x (by simp[Op.operands])]
 | nilCheck x=>simp only[rO,hs x (by simp[Op.operands])]
 | convert st dt x =>
  simp only[rO,←hs x (by simp[Op.operands])]
  unfold Z5
  cases tb.find st with
  | none=>rfl
  | some si =>
   cases tb.find dt with
   | none=>rfl
   | some di =>
    simp only
    cases aFH tb di.k (ev s x)with
    | some r=>rfl
    | none=>simp only[aB5 (s:=si.k) (d:=di.k) (key x (by simp[Op.operands]))]
 | slice t x lo hi mx =>
  cases mx with
  | some mo =>
   cases hi with
   | none=>rfl
   | some hio =>
    have e1:xX s lo=xX s' lo:=by
     cases lo with
     | none=>rfl
     | some y=>simp only[xX,hs y (by simp[Op.operands])]
    simp only[rO,←hs x (by simp[Op.operands]),←hs hio (by simp[Op.operands]),←hs mo (by simp[Op.operands]),←e1]
    have hx:=key x (by simp[Op.operands])
    unfold yM
    split
    ·split
     ·rfl
     ·rename_i id ex
      rw[hx id (by rw[ex];simp[dQ])]
     ·rfl
    ·rfl
  | none =>
   have e1:xX s lo=xX s' lo:=by
    cases lo with
    | none=>rfl
    | some y=>simp only[xX,hs y (by simp[Op.operands])]
   have e2:xX s hi=xX s' hi:=by
    cases hi with
    | none=>rfl
    | some y=>simp only[xX,hs y (by simp[Op.operands])]
   simp only[rO,←hs x (by simp[Op.operands]),←e1,←e2]
   exact L6 (key x (by simp[Op.operands]))
 | fieldAddr t x f=>simp only[rO,hs x (by simp[Op.operands])]
 | indexAddr t x i =>
  simp only[rO,←hs x (by simp[Op.operands]),←hs i (by simp[Op.operands])]
  simp only[C3 (key x (by simp[Op.operands])),wC (key x (by simp[Op.operands]))]
 | index t x i=>simp only[rO,hs x (by simp[Op.operands]),hs i (by simp[Op.operands])]
 | extract x i=>simp only[rO,hs x (by simp[Op.operands])]
 | typeAssert x xt t ok=>simp only[rO,hs x (by simp[Op.operands])]
 | makeFunc f fs cs =>
  simp only[rO]
  rw[List.map_congr_left (f:=ev s) (g:=ev s') (fun p hp=>hs p (by simp only[Op.operands,Array.toList_append,List.mem_append];exact .inr hp))]
 | makeSlice t l c=>simp only[rO,hs l (by simp[Op.operands]),hs c (by simp[Op.operands])]
 | call c =>
  obtain⟨callee,args,tys⟩:=c
  have hargs:∀x∈args.toList,x∈(Op.call { callee,args,argTypes:=tys }).operands.toList:=fun x hx=>by
   simp only[Op.operands,Call.operands,Array.toList_append,List.mem_append];exact .inr hx
  have e:args.toList.map (ev s)=args.toList.map (ev s'):=List.map_congr_left (fun p hp=>hs p (hargs p hp))
  have hk:∀y∈args.toList.map (ev s),∀i∈dQ y,h i=h' i:=fun y hy i hi=>by
   obtain⟨p,hp,rfl⟩:=List.mem_map.1 hy
   exact key p (hargs p hp) i hi
  have hc:=aGg (h':=h') (xs:=iL s (Op.call { callee,args,argTypes:=tys })) hh
  simp only[rO,t6]
  cases callee with
  | builtin b =>
   simp only[←e]
   unfold vK
   split
   ·rename_i y t ey et
    split
    ·unfold yU
     split
     ·split
      ·rename_i id _ _
       rw[hk (.mp id) (by rw[ey];simp) id (by simp[dQ])]
      ·rfl
     ·rfl
    ·unfold aBV
     rw[aBI (hk y (by rw[ey];simp))]
   ·rfl
   ·rfl
   ·rename_i y z t t' ey et
    split
    ·exact D4 (hk y (by rw[ey];simp)) (hk z (by rw[ey];simp))
    ·rfl
   ·rename_i y z t t' ey et
    exact Q3 (hk y (by rw[ey];simp)) (hk z (by rw[ey];simp))
   ·rfl
  | value f =>
   have hf:f∈(Op.call { callee:= .value f,args,argTypes:=tys }).operands.toList:=by simp[Op.operands,Call.operands]
   simp only[←e,←hs f hf]
   generalize hxs:lG tb (aJC orc) tys.toList (args.toList.map (ev s))=xs
   have hxi:∀i∈bP xs,i∈bP (args.toList.map (ev s)):=fun i hi=>by rw[←hxs,vR]at hi;exact hi
   unfold D9
   split
   ·rename_i fid caps q ef
    have hin:∀i∈bP (aBe (ev s f)::xs),i∈bP (iL s (Op.call { callee:= .value f,args,argTypes:=tys })):=fun i hi=>by
     simp only[bP,List.mem_append]at hi
     rcases hi with hi | hi
     ·exact j8 hf i (aAw i hi)
     ·obtain⟨y,hy,hi'⟩:=eY.1 (hxi i hi)
      obtain⟨p,hp,rfl⟩:=List.mem_map.1 hy
      exact j8 (hargs p hp) i hi'
    rw[wB (bs:=q.fl) (h:=h) (h':=h') (fun i hi=>by
     obtain⟨y,hy,hi'⟩:=eY.1 (hxi i hi)
     exact hk y hy i hi')]
    cases hfz:rA h' q.fl xs with
    | none=>rfl
    | some p =>
     obtain⟨ys,u⟩:=p
     obtain⟨z1,z2⟩:=X3 hfz
     have hclo:Clo (apply u h) (apply u h') (bP (ys++caps)):=fun i hi=>by
      have hi2:i∈bP (iL s (Op.call { callee:= .value f,args,argTypes:=tys })):=by
       obtain⟨y,hy,hi'⟩:=eY.1 hi
       rcases List.mem_append.1 hy with hy | hy
       ·obtain⟨y2,hy2,hi2⟩:=eY.1 (hxi i (z2 i (eY.2 ⟨y,hy,hi'⟩)))
        obtain⟨p,hp,rfl⟩:=List.mem_map.1 hy2
        exact j8 (hargs p hp) i hi2
       ·refine j8 hf i (aAw i ?_)
        rw[ef]
        simp only[dQ]
        exact eY.2 ⟨y,hy,hi'⟩
      obtain⟨c1,c2⟩:=hc i hi2
      exact⟨i8 c1 u,fun cs hcs j hj=>i8 (c2 cs (X7 z1 hcs) j hj) u⟩
     simp only
     split
     ·have hfoot:G9 h (aBe (ev s f)::xs)=G9 h' (aBe (ev s f)::xs):=by
       unfold G9
       congr 1
       refine P1 fun i hi=> ?_
       rw[(hc i (hin i hi)).1]
      rw[hfoot]
      split
      ·rename_i hg
       have hgi:∀i∈q.g,h i=h' i:=fun i hi=>by
        have:=List.all_eq_true.1 hg i hi
        rw[←hfoot]at this
        simp only[List.contains_eq_mem,decide_eq_true_eq]at this
        unfold G9 at this
        rcases List.mem_append.1 this with h1 | h1
        ·exact(hc i (hin i h1)).1
        ·obtain⟨j,hj,hj'⟩:=List.mem_flatMap.1 h1
         split at hj'
         ·rename_i cs hcs
          exact(hc j (hin j hj)).2 cs hcs i hj'
         ·cases hj'
       rw[aBo (g:=q.g) (h:=apply u h) (h':=apply u h') (fun i hi=>i8 (hgi i hi) u),
        A7 (g:=q.g) (h:=less q.g (apply u h)) (h':=less q.g (apply u h')) (fun i hi=>⟨E9 (hclo i hi).1,fun cs hcs j hj=>E9 ((hclo i hi).2 cs (xG hcs).1 j hj)⟩)]
      ·rfl
     ·rw[zK (h:=apply u h) (h':=apply u h') hclo]
   ·rfl
  | invoke r m=>rfl
 | makeMap t r=>cases r <;> rfl
 | lookup t x k ok =>
  simp only[rO,←hs x (by simp[Op.operands]),←hs k (by simp[Op.operands])]
  rw[D5 (key x (by simp[Op.operands])),yG (key x (by simp[Op.operands]))]
 | mapUpdate t x k y =>
  simp only[rO,←hs x (by simp[Op.operands]),←hs k (by simp[Op.operands]),←hs y (by simp[Op.operands])]
  rw[oN (key x (by simp[Op.operands])) (key y (by simp[Op.operands])),nD (key x (by simp[Op.operands]))]
 | insert t x k y =>
  simp only[rO,←hs x (by simp[Op.operands]),←hs k (by simp[Op.operands]),←hs y (by simp[Op.operands])]
  rw[oN (key x (by simp[Op.operands])) (key y (by simp[Op.operands])),nD (key x (by simp[Op.operands]))]
 | _=>rfl
end Go.Tv
