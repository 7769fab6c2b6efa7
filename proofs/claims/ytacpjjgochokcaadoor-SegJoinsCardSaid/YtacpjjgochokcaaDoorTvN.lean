/- What an operation's outcome hangs on. -/
import Derived.Test.YtacpjjgochokcaaDoorTvM
namespace Go.Tv
open Go Go.RowKit
theorem i7{h h':Nat→Option Obj}{i:Nat}(e:h i=h' i):∀(u:mB),apply u h i=apply u h' i:=fun u=>by
 induction u generalizing h h' with
 | nil=>exact e
 | cons p u ih =>
  obtain⟨j,o⟩:=p
  simp only[apply]
  refine ih ?_
  by_cases hj:i=j
  ·subst hj;rw[aV,aV]
  ·rw[bM _ _ hj,bM _ _ hj];exact e
section
variable{h h':Nat→Option Obj}
theorem xE{x:AVal}(hh:∀i∈dP x,h i=h' i):lL h x=lL h' x:=by
 cases x <;> try rfl
 rename_i id
 simp only[lL,hh id (by simp[dP])]
theorem tO:∀ {xs:List AVal} {h h':Nat→Option Obj},(∀i∈bN xs,h i=h' i)→u9 h xs=u9 h' xs
 | [],_,_,_=>rfl
 | x::xs,h,h',hh=>by
  simp only[u9,xE (x:=x) (fun i hi=>hh i (by simp[bN,hi]))]
  cases hd:lL h' x with
  | none=>rfl
  | some p =>
   obtain⟨y,u⟩:=p
   simp only[tO (xs:=xs) (h:=apply u h) (h':=apply u h') (fun i hi=>i7 (hh i (by simp[bN,hi])) u)]
theorem z9{x:AVal}:bN (cellsOf x)=dP x:=by
 cases x <;> simp[cellsOf,bN,dP]
theorem aB2{T:Ty}{x:AVal}(hh:∀i∈dP x,h i=h' i):aD7 T h x=aD7 T h' x:=by
 unfold aD7
 rw[tO (xs:=cellsOf x) (by rw[z9];exact hh)]
theorem yI{T:Ty}{x:AVal}(hh:∀i∈dP x,h i=h' i):toT T h x=toT T h' x:=by
 unfold toT
 split
 ·rename_i id i sz off
  rw[hh id (by simp[dP])]
 ·exact aB2 hh
theorem J1{A:Ty}:∀ {xs:List AVal} {h h':Nat→Option Obj},(∀i∈bN xs,h i=h' i)→aAR A h xs=aAR A h' xs
 | [],_,_,_=>rfl
 | x::xs,h,h',hh=>by
  simp only[aAR,yI (x:=x) (T:=A) (fun i hi=>hh i (by simp[bN,hi]))]
  cases hd:toT A h' x with
  | none=>rfl
  | some p =>
   obtain⟨y,u⟩:=p
   simp only[J1 (xs:=xs) (h:=apply u h) (h':=apply u h') (fun i hi=>i7 (hh i (by simp[bN,hi])) u)]
theorem Q2{x:AVal}(hh:∀i∈dP x,h i=h' i):o8 h x=o8 h' x:=by
 unfold o8
 split <;> first
  | rfl
  | (rename_i id;rw[hh id (by simp[dP])])
  | (rename_i id i sz off;rw[hh id (by simp[dP])])
theorem aBh{x:AVal}{i:Int}(hh:∀i∈dP x,h i=h' i):S8 h x i=S8 h' x i:=by
 unfold S8
 split <;> first
  | rfl
  | (rename_i id;rw[hh id (by simp[dP])])
  | (rename_i id i sz off;rw[hh id (by simp[dP])])
theorem aA1{x:AVal}(hh:∀i∈dP x,h i=h' i):lenOf h x=lenOf h' x:=by
 unfold lenOf
 split <;> first
  | rfl
  | (rename_i id;rw[hh id (by simp[dP])])
  | (rename_i id i sz off;rw[hh id (by simp[dP])])
theorem aCn{s d:TK}{x:AVal}(hh:∀i∈dP x,h i=h' i):conv s d h x=conv s d h' x:=by
 unfold conv
 split <;> first
  | rfl
  | (rename_i id;rw[hh id (by simp[dP])])
  | (rename_i id i sz off;rw[hh id (by simp[dP])])
theorem uS{A:Ty}{x:AVal}(hh:∀i∈dP x,h i=h' i):lN h A x=lN h' A x:=by
 unfold lN
 split <;> first
  | rfl
  | (rename_i id;rw[hh id (by simp[dP])])
  | (rename_i id i sz off;rw[hh id (by simp[dP])])
theorem M3(β:Bool):∀(T:Ty) (x:T.den),bN (kV β T x)=[]
 | .unit,_=>rfl
 | .prod a b,x=>by
  have h1:=M3 β a x.1
  have h2:=M3 β b x.2
  apply List.eq_nil_iff_forall_not_mem.2
  intro i hi
  simp only[kV,e9,List.mem_append]at hi
  obtain⟨y,hy,hi⟩:=hi
  rcases hy with hy | hy
  ·have:i∈bN (kV β a x.1):=e9.2 ⟨y,hy,hi⟩
   rw[h1]at this;cases this
  ·have:i∈bN (kV β b x.2):=e9.2 ⟨y,hy,hi⟩
   rw[h2]at this;cases this
 | .int _,_=>rfl
 | .bool,_=>rfl
 | .str,_=>rfl
 | .flt,_=>rfl
 | .slice _,_=>rfl
 | .ptr _,_=>rfl
 | .tree _ _,_=>rfl
theorem aIB{cs new:List AVal}{p i:Nat}(hi:i∈bN (wr cs p new)):i∈bN cs∨i∈bN new:=by
 obtain⟨y,hy,hi⟩:=e9.1 hi
 simp only[wr,List.mem_append]at hy
 rcases hy with(hy | hy) | hy
 ·exact .inl (e9.2 ⟨y,List.mem_of_mem_take hy,hi⟩)
 ·exact .inr (e9.2 ⟨y,hy,hi⟩)
 ·exact .inl (e9.2 ⟨y,List.mem_of_mem_drop hy,hi⟩)
theorem aBL{A:Ty}{xs:List A.den}{i off:Nat}{y:AVal}(hh:∀i∈dP y,h i=h' i):aAy A h xs i off y=aAy A h' xs i off y:=by
 unfold aAy
 refine yI fun j hj=> ?_
 simp only[dP]at hj
 rcases aIB hj with h1 | h1
 ·rw[M3]at h1;cases h1
 ·rw[z9]at h1;exact hh j h1
theorem zY{x:AVal}(hh:∀i∈dP x,h i=h' i):H8 h x=H8 h' x:=by
 cases x <;> try rfl
 rename_i id
 simp only[H8,hh id (by simp[dP])]
theorem rS:∀ {xs:List AVal},(∀i∈bN xs,h i=h' i)→sS h xs=sS h' xs
 | [],_=>rfl
 | x::xs,hh=>by
  simp only[sS,zY (x:=x) (fun i hi=>hh i (by simp[bN,hi])),rS (xs:=xs) (fun i hi=>hh i (by simp[bN,hi]))]
def Clo(h h':Nat→Option Obj)(I:List Nat):Prop:=∀i∈I,h i=h' i∧∀cs,h i=some (.box cs)→∀j∈bN cs,h j=h' j
theorem B7{x:AVal}(hh:Clo h h' (dP x)):xZ h x=xZ h' x:=by
 have h0:∀i∈dP x,h i=h' i:=fun i hi=>(hh i hi).1
 cases x <;> try rfl
 ·simp only[xZ,zY h0]
 ·rename_i id i sz off
  simp only[xZ]
  have h1:=hh id (by simp[dP])
  rw[←h1.1]
  cases he:h id with
  | none=>rfl
  | some ob =>
   cases ob with
   | box cs=>simp only[rS (xs:=cs) (h:=h) (h':=h') (h1.2 cs he)]
   | arr _ _ _=>rfl
   | fz _ _=>rfl
   | mpo _ _ _=>rfl
   | mpl _ _=>rfl
   | mat _ _ _ _ _=>rfl
 ·rename_i cs
  simp only[xZ]
  rw[rS (xs:=cs) (h:=h) (h':=h') (fun i hi=>h0 i (by simpa [dP]using hi))]
theorem wQ:∀ {xs:List AVal},Clo h h' (bN xs)→wD h xs=wD h' xs
 | [],_=>rfl
 | x::xs,hh=>by
  simp only[wD,B7 (x:=x) (fun i hi=>hh i (by simp[bN,hi])),wQ (xs:=xs) (fun i hi=>hh i (by simp[bN,hi]))]
theorem J0{x:AVal}(hh:Clo h h' (dP x)):aBJ h x=aBJ h' x:=by
 cases x <;> try (simp only[aBJ];exact B7 hh)
 rename_i f cs
 simp only[aBJ]
 rw[wQ (xs:=cs) (h:=h) (h':=h') (fun i hi=>hh i (by simpa [dP]using hi))]
theorem z5:∀ {xs:List AVal},Clo h h' (bN xs)→zQ h xs=zQ h' xs
 | [],_=>rfl
 | x::xs,hh=>by
  simp only[zQ,J0 (x:=x) (fun i hi=>hh i (by simp[bN,hi])),z5 (xs:=xs) (fun i hi=>hh i (by simp[bN,hi]))]
theorem J4{g:List Nat}{i:Nat}(e:h i=h' i):less g h i=less g h' i:=by
 unfold less
 split
 ·rfl
 ·exact e
theorem K9{α β:Type}{l:List α}{f f':α→List β}(e:∀x∈l,f x=f' x):l.flatMap f=l.flatMap f':=by
 induction l with
 | nil=>rfl
 | cons x l ih=>simp only[List.flatMap_cons,e x (by simp),ih (fun y hy=>e y (by simp[hy]))]
theorem zW{g:List Nat}:∀ {xs:List AVal},Clo h h' (bN xs)→x6 g h xs=x6 g h' xs
 | [],_=>rfl
 | x::xs,hh=>by
  have e:V3 g h x=V3 g h' x:=by
   unfold V3
   rw[J0 (x:=x) (fun i hi=>hh i (by simp[bN,hi]))]
  simp only[x6,e,zW (xs:=xs) (fun i hi=>hh i (by simp[bN,hi]))]
theorem aAT{g:List Nat}{h h':Nat→Option Obj}(hg:∀i∈g,h i=h' i):mP g h 0 g=mP g h' 0 g:=by
 have key:∀(l:List Nat) (k:Nat),(∀i∈l,i∈g)→mP g h k l=mP g h' k l:=fun l=>by
  induction l with
  | nil=>intro k _;rfl
  | cons x l ih =>
   intro k hl
   simp only[mP,hg x (hl x (by simp)),ih (k+1) (fun i hi=>hl i (by simp[hi]))]
 exact key g 0 fun _ h=>h
theorem aCk{x:AVal}(hh:∀i∈dP x,h i=h' i):R1 h x=R1 h' x:=by
 cases x <;> try (simp only[R1];exact xE hh)
 rename_i cs
 simp only[R1]
 rw[tO (xs:=cs) (h:=h) (h':=h') (fun i hi=>hh i (by simpa [dP]using hi))]
theorem vS:∀ {bs:List Bool} {xs:List AVal} {h h':Nat→Option Obj},(∀i∈bN xs,h i=h' i)→rT h bs xs=rT h' bs xs
 | _,[],_,_,_=>by simp only[rT]
 | [],_::_,_,_,_=>rfl
 | false::bs,x::xs,h,h',hh=>by
  simp only[rT,vS (bs:=bs) (xs:=xs) (h:=h) (h':=h') (fun i hi=>hh i (by simp[bN,hi]))]
 | true::bs,x::xs,h,h',hh=>by
  simp only[rT,aCk (x:=x) (h:=h) (h':=h') (fun i hi=>hh i (by simp[bN,hi]))]
  cases R1 h' x with
  | none=>rfl
  | some p =>
   obtain⟨y,u⟩:=p
   simp only[vS (bs:=bs) (xs:=xs) (h:=apply u h) (h':=apply u h') (fun i hi=>i7 (hh i (by simp[bN,hi])) u)]
def AllFz(u:mB):Prop:=∀p∈u,∃A xs,p.2=some (.fz A xs)
theorem AllFz.append{u v:mB}(hu:AllFz u)(hv:AllFz v):AllFz (u++v):=fun p hp=>(List.mem_append.1 hp).elim (hu p) (hv p)
theorem U4{x y:AVal}{u:mB}(hd:lL h x=some (y,u)):AllFz u∧∀i∈dP y,i∈dP x:=by
 unfold lL at hd
 split at hd
 ·split at hd
  ·cases hd;exact⟨fun p hp=>by simp at hp;subst hp;exact⟨_,_,rfl⟩,fun i hi=>by simp[dP]at hi⟩
  ·cases hd;exact⟨fun p hp=>by simp at hp,fun i hi=>by simp[dP]at hi⟩
  ·cases hd;exact⟨fun p hp=>by simp at hp;subst hp;exact⟨_,_,rfl⟩,fun i hi=>by simp[dP]at hi⟩
  ·cases hd
 ·cases hd;exact⟨fun p hp=>by simp at hp,fun i hi=>hi⟩
theorem aAA:∀ {xs ys:List AVal} {h:Nat→Option Obj} {u:mB},u9 h xs=some (ys,u)→AllFz u∧∀i∈bN ys,i∈bN xs
 | [],ys,h,u,hd=>by cases hd;exact⟨fun p hp=>by simp at hp,fun i hi=>hi⟩
 | x::xs,ys,h,u,hd=>by
  simp only[u9]at hd
  split at hd
  ·rename_i y u1 h1
   split at hd
   ·rename_i ys' us h2
    cases hd
    obtain⟨q1,q2⟩:=U4 h1
    obtain⟨r1,r2⟩:=aAA h2
    refine⟨q1.append r1,fun i hi=> ?_⟩
    simp only[bN,List.mem_append]at hi ⊢
    exact hi.imp (q2 i) (r2 i)
   ·cases hd
  ·cases hd
theorem aHa{x y:AVal}{u:mB}(hd:R1 h x=some (y,u)):AllFz u∧∀i∈dP y,i∈dP x:=by
 unfold R1 at hd
 split at hd
 ·split at hd
  ·rename_i ds u' h1
   cases hd
   obtain⟨q1,q2⟩:=aAA h1
   exact⟨q1,fun i hi=>by simp only[dP]at hi ⊢;exact q2 i hi⟩
  ·cases hd
 ·exact U4 hd
theorem Z3:∀ {bs:List Bool} {xs ys:List AVal} {h:Nat→Option Obj} {u:mB},rT h bs xs=some (ys,u)→AllFz u∧∀i∈bN ys,i∈bN xs
 | _,[],ys,h,u,hd=>by simp only[rT]at hd;cases hd;exact⟨fun p hp=>by simp at hp,fun i hi=>hi⟩
 | [],_::_,ys,h,u,hd=>by simp only[rT]at hd;cases hd;exact⟨fun p hp=>by simp at hp,fun i hi=>hi⟩
 | false::bs,x::xs,ys,h,u,hd=>by
  simp only[rT]at hd
  split at hd
  ·rename_i ys' u' h1
   cases hd
   obtain⟨q1,q2⟩:=Z3 h1
   refine⟨q1,fun i hi=> ?_⟩
   simp only[bN,List.mem_append]at hi ⊢
   exact hi.imp (fun h=>h) (q2 i)
  ·cases hd
 | true::bs,x::xs,ys,h,u,hd=>by
  simp only[rT]at hd
  split at hd
  ·rename_i y u1 h1
   split at hd
   ·rename_i ys' us h2
    cases hd
    obtain⟨q1,q2⟩:=aHa h1
    obtain⟨r1,r2⟩:=Z3 h2
    refine⟨q1.append r1,fun i hi=> ?_⟩
    simp only[bN,List.mem_append]at hi ⊢
    exact hi.imp (q2 i) (r2 i)
   ·cases hd
  ·cases hd
theorem Z8{u:mB}(hu:AllFz u){i:Nat}{cs:List AVal}:∀ {h:Nat→Option Obj},apply u h i=some (.box cs)→h i=some (.box cs):=by
 induction u with
 | nil=>intro h hb;exact hb
 | cons p u ih =>
  intro h hb
  obtain⟨j,o⟩:=p
  have h1:=ih (fun q hq=>hu q (by simp[hq])) hb
  by_cases e:i=j
  ·subst e
   rw[aV]at h1
   obtain⟨A,xs,h2⟩:=hu (i,o) (by simp)
   simp only at h2
   rw[h1]at h2
   cases h2
  ·rw[bM _ _ e]at h1;exact h1
theorem aEL{xs:List AVal}(hh:∀i∈K7 h xs,h i=h' i):Clo h h' (bN xs):=fun i hi =>
 ⟨hh i (List.mem_append_left _ hi),fun cs hc j hj=>hh j (List.mem_append_right _ (List.mem_flatMap.2 ⟨i,hi,by rw[hc];exact hj⟩))⟩
theorem K3{tb:Tab}{new:Nat}{t:TypeId}{x:AVal}{lo hi:Option (Option Int)}(hh:∀i∈dP x,h i=h' i):sJ tb new t x lo hi h=sJ tb new t x lo hi h':=by
 unfold sJ
 split
 ·split
  ·split <;> first
    | rfl
    | (rename_i id;rw[hh id (by simp[dP])])
  ·rfl
 ·rfl
theorem Q8{new:Nat}{ti:TI}{x:AVal}(hx:∀i∈dP x,h i=h' i)(ho:∀i∈dP x,∀e e2 A xss k j,h i=some (.mat e e2 A xss (some (k,j)))→h j=h' j):pG new ti x h=pG new ti x h':=by
 unfold pG
 cases x <;> try rfl
 rename_i id i sz off
 simp only
 have e1:=hx id (by simp[dP])
 have e2:=ho id (by simp[dP])
 rw[←e1]
 cases hm:h id with
 | none=>rfl
 | some ob =>
  cases ob with
  | mat e e2' A xss hole =>
   cases hole with
   | none=>rfl
   | some p =>
    obtain⟨k,j⟩:=p
    simp only[e2 _ _ _ _ _ _ hm]
  | _=>rfl
theorem L9{ti:TI}{x:AVal}(hx:∀i∈dP x,h i=h' i):qG ti x h=qG ti x h':=by
 unfold qG
 split
 ·rename_i id b n i k _
  have hid:=hx id (by simp[dP])
  rw[hid]
 ·rfl
theorem D1{ti:TI}{x y:AVal}(hx:∀i∈dP x,h i=h' i):n8 ti x y h=n8 ti x y h':=by
 unfold n8
 split
 ·rename_i id b n i _ k v
  have hid:=hx id (by simp[dP])
  rw[hid]
 ·rfl
theorem C6{tb:Tab}{t:TypeId}{x i:AVal}(hx:∀i∈dP x,h i=h' i):oB tb t x i h=oB tb t x i h':=by
 unfold oB
 cases tb.find t with
 | none=>rfl
 | some ti =>
  simp only
  split
  ·split
   ·split
    ·split
     ·rename_i id j sz off _ _ _
      rw[hx id (by simp[dP])]
     ·rfl
     ·rfl
    ·split
     ·split
      ·rename_i id j sz off _ _ _
       rw[hx id (by simp[dP])]
      ·rfl
     ·rfl
   ·rfl
  ·rfl
theorem wB{tb:Tab}{t:TypeId}{x i:AVal}(hx:∀i∈dP x,h i=h' i):lA tb t x i h=lA tb t x i h':=by
 unfold lA
 cases nG tb t with
 | none=>rfl
 | some q =>
  simp only
  split
  ·rw[aBh hx]
  ·rfl
theorem D4{P:Program}{tb:Tab}{t:TypeId}{x k:AVal}{ok:Bool}(hx:∀i∈dP x,h i=h' i):qE P tb t x k ok h=qE P tb t x k ok h':=by
 unfold qE
 split
 ·split
  ·rename_i id
   rw[hx id (by simp[dP])]
  ·rfl
 ·rfl
theorem yR{P:Program}{tb:Tab}{t:TypeId}{g:List Nat}{x k:AVal}{ok:Bool}(hx:∀i∈dP x,h i=h' i):oI P tb t g x k ok h=oI P tb t g x k ok h':=by
 unfold oI
 split
 ·split
  ·rename_i id
   rw[hx id (by simp[dP])]
  ·rfl
 ·rfl
theorem oR{P:Program}{tb:Tab}{t:TypeId}{x k y:AVal}(hx:∀i∈dP x,h i=h' i)(hy:∀i∈dP y,h i=h' i):g9 P tb t x k y h=g9 P tb t x k y h':=by
 unfold g9
 split
 ·split
  ·rename_i id
   rw[hx id (by simp[dP])]
   split
   ·split
    ·split
     ·rw[yI hy]
     ·rfl
    ·rfl
   ·rfl
  ·rfl
 ·rfl
theorem nD{P:Program}{tb:Tab}{t:TypeId}{x k y:AVal}(hx:∀i∈dP x,h i=h' i):gD P tb t x k y h=gD P tb t x k y h':=by
 unfold gD
 split
 ·split
  ·rename_i id
   rw[hx id (by simp[dP])]
  ·rfl
 ·rfl
theorem aAc{id i:Nat}{e e2:TypeId}{A:Ty}{xss:List (List A.den)}{hole:Option (Nat×Nat)}{y:AVal}(hy:∀i∈dP y,h i=h' i)(ho:∀k j,hole=some (k,j)→h j=h' j):yP id i e e2 A xss hole y h=yP id i e e2 A xss hole y h':=by
 unfold yP
 cases y <;> try rfl
 rename_i r
 simp only
 rw[←hy r (by simp[dP])]
 cases h r with
 | none=>rfl
 | some ob =>
  cases ob with
  | arr e3 B zs =>
   cases hole with
   | none=>rfl
   | some p =>
    obtain⟨k,j⟩:=p
    simp only[ho k j rfl]
  | _=>rfl
theorem M7{tb:Tab}{t:TypeId}{x y:AVal}(hx:∀i∈dP x,h i=h' i)(hy:∀i∈dP y,h i=h' i)(ho:∀i∈dP x,∀e e2 A xss k j,h i=some (.mat e e2 A xss (some (k,j)))→h j=h' j):sE tb t x y h=sE tb t x y h':=by
 unfold sE
 cases tb.find t with
 | none=>rfl
 | some ti =>
  simp only
  split
  ·cases x <;> try rfl
   case ada=>exact D1 hx
   rename_i id i sz off
   simp only
   have hid:=hx id (by simp[dP])
   have hop:=ho id (by simp[dP])
   rw[←hid]
   cases hm:h id with
   | none=>rfl
   | some ob =>
    cases ob with
    | arr e A xs=>simp only[aBL (A:=A) (xs:=xs) (i:=i) (off:=off) hy]
    | fz _ _=>rfl
    | box _=>rfl
    | mpo _ _ _=>rfl
    | mpl _ _=>rfl
    | mat e e2 A xss hole=>simp only[aAc (id:=id) (i:=i) (e:=e) (e2:=e2) (A:=A) (xss:=xss) (hole:=hole) hy (fun k j eh=>hop e e2 A xss k j (by rw[hm,eh]))]
  ·rfl
theorem C9{tb:Tab}{new:Nat}{t:TypeId}{x y:AVal}(hx:∀i∈dP x,h i=h' i)(hy:∀i∈dP y,h i=h' i):qH tb new t x y h=qH tb new t x y h':=by
 unfold qH
 cases nG tb t with
 | none=>rfl
 | some p =>
  obtain⟨e,te,A⟩:=p
  simp only[uS (A:=A) hy]
  cases lN h' A y with
  | none=>rfl
  | some ys =>
   simp only
   cases x <;> try rfl
   rename_i id
   simp only
   rw[hx id (by simp[dP])]
theorem Q6{tb:Tab}{t:TypeId}{x y:AVal}(hx:∀i∈dP x,h i=h' i)(hy:∀i∈dP y,h i=h' i):xA tb t x y h=xA tb t x y h':=by
 unfold xA
 cases nG tb t with
 | none=>rfl
 | some p =>
  obtain⟨e,te,A⟩:=p
  simp only[uS (A:=A) hy]
  cases lN h' A y with
  | none=>rfl
  | some ys =>
   simp only
   cases x <;> try rfl
   rename_i id
   simp only
   rw[hx id (by simp[dP])]
end
def iR(s:Nat→AVal)(op:Op):List AVal:=op.operands.toList.map (ev s)
theorem j9{s:Nat→AVal}{op:Op}{x:Operand}(hx:x∈op.operands.toList):∀i∈dP (ev s x),i∈bN (iR s op):=fun _ hi =>
 e9.2 ⟨ev s x,List.mem_map.2 ⟨x,hx,rfl⟩,hi⟩
def I8(h:Nat→Option Obj)(xs:List AVal):List Nat :=
 bN xs++(bN xs).flatMap fun i=>match h i with
  | some (.mat _ _ _ _ (some (_,j)))=>[j]
  | _=>[]
theorem M0{h:Nat→Option Obj}{xs:List AVal}{i:Nat}{e e2:TypeId}{A:Ty}{xss:List (List A.den)}{k j:Nat}(hi:i∈bN xs)(hm:h i=some (.mat e e2 A xss (some (k,j)))):j∈I8 h xs :=
 List.mem_append_right _ (List.mem_flatMap.2 ⟨i,hi,by rw[hm];exact .head _⟩)
def oQ(h:Nat→Option Obj)(op:Op)(xs:List AVal):List Nat :=
 match op with
 | .call _=>K7 h xs
 | .load _ _=>I8 h xs
 | .store _ _ _=>I8 h xs
 | .move _=>[]
 | .assign _=>[]
 | .nilCheck _=>[]
 | .fieldAddr _ _ _=>[]
 | _=>bN xs
theorem T1{P:Program}{tb:Tab}{new:Nat}{asm:Option Bool}{orc:Option Orc}{op:Op}{s s':Nat→AVal}{h h':Nat→Option Obj}
  (hs:∀x∈op.operands.toList,ev s x=ev s' x) (hh:∀i∈oQ h op (iR s op),h i=h' i):rV P tb new asm orc op s h=rV P tb new asm orc op s' h':=by
 by_cases hmv:(∃x,op = .move x)∨(∃x,op = .assign x)∨(∃x,op = .nilCheck x)∨∃t x f,op = .fieldAddr t x f
 ·rcases hmv with⟨x,rfl⟩ | ⟨x,rfl⟩ | ⟨x,rfl⟩ | ⟨t,x,f,rfl⟩ <;> simp only[rV,hs x (by simp[Op.operands])]
 have hid:∀i∈bN (iR s op),h i=h' i:=fun i hi=>by
  refine hh i ?_
  unfold oQ
  split
  ·exact List.mem_append_left _ hi
  ·exact List.mem_append_left _ hi
  ·exact List.mem_append_left _ hi
  ·rename_i x;exact absurd (.inl ⟨x,rfl⟩) hmv
  ·rename_i x;exact absurd (.inr (.inl ⟨x,rfl⟩)) hmv
  ·rename_i x;exact absurd (.inr (.inr (.inl ⟨x,rfl⟩))) hmv
  ·rename_i t x f;exact absurd (.inr (.inr (.inr ⟨t,x,f,rfl⟩))) hmv
  ·exact hi
 have key:∀x∈op.operands.toList,∀i∈dP (ev s x),h i=h' i:=fun x hx i hi=>hid i (j9 hx i hi)
 cases op with
 | move x=>simp only[rV,hs x (by simp[Op.operands])]
 | assign x=>simp only[rV,hs x (by simp[Op.operands])]
 | pick c x y =>
  have e:∀b:Bool,ev s (if b=true then x else y)=ev s' (if b=true then x else y):=fun b=>by
   cases b
   ·exact hs y (by simp[Op.operands])
   ·exact hs x (by simp[Op.operands])
  simp only[rV,Z6,hs c (by simp[Op.operands]),e,hs x (by simp[Op.operands]),hs y (by simp[Op.operands])]
 | alloc t=>rfl
 | box t x=>simp only[rV,hs x (by simp[Op.operands])]
 | build t ps =>
  simp only[rV]
  have e:ps.toList.map (fun p=>ev s p.2)=ps.toList.map (fun p=>ev s' p.2):=List.map_congr_left (fun p hp=>hs p.2 (by simp only[Op.operands,List.mem_map];exact⟨p,hp,rfl⟩))
  rw[e]
 | buildSlice t len ps =>
  simp only[rV]
  have e:ps.toList.map (fun p=>ev s p.2)=ps.toList.map (fun p=>ev s' p.2):=List.map_congr_left (fun p hp=>hs p.2 (by simp only[Op.operands,List.mem_map];exact⟨p,hp,rfl⟩))
  rw[←e]
  unfold pR
  cases nG tb t with
  | none=>rfl
  | some q =>
   obtain⟨e,te,A⟩:=q
   simp only
   split
   ·rw[J1 (A:=A) (fun i hi=>by
     obtain⟨y,hy,hi⟩:=e9.1 hi
     obtain⟨p,hp,rfl⟩:=List.mem_map.1 hy
     exact key p.2 (by simp only[Op.operands,List.mem_map];exact⟨p,hp,rfl⟩) i hi)]
   ·rfl
 | load t x =>
  simp only[rV,←hs x (by simp[Op.operands])]
  have hx:=key x (by simp[Op.operands])
  have e2:∀ti,pG new ti (ev s x) h=pG new ti (ev s x) h':=fun ti=>Q8 hx (fun i hi e e2 A xss k j hm=>hh j (M0 (j9 (by simp[Op.operands]) i hi) hm))
  unfold Z9
  simp only[Q2 hx,L9 hx,e2]
 | store t x y =>
  simp only[rV,←hs x (by simp[Op.operands]),←hs y (by simp[Op.operands])]
  exact M7 (key x (by simp[Op.operands])) (key y (by simp[Op.operands])) (fun i hi e e2 A xss k j hm=>hh j (M0 (j9 (by simp[Op.operands]) i hi) hm))
 | binOp o t x y t'=>simp only[rV,hs x (by simp[Op.operands]),hs y (by simp[Op.operands])]
 | unOp o t x=>simp only[rV,hs x (by simp[Op.operands])]
 | nilCheck x=>simp only[rV,hs x (by simp[Op.operands])]
 | convert st dt x =>
  simp only[rV,←hs x (by simp[Op.operands])]
  unfold aAj
  cases tb.find st with
  | none=>rfl
  | some si =>
   cases tb.find dt with
   | none=>rfl
   | some di =>
    simp only
    cases aE4 tb di.k (ev s x)with
    | some r=>rfl
    | none=>simp only[aCn (s:=si.k) (d:=di.k) (key x (by simp[Op.operands]))]
 | slice t x lo hi mx =>
  cases mx with
  | some mo =>
   cases hi with
   | none=>rfl
   | some hio =>
    have e1:xO s lo=xO s' lo:=by
     cases lo with
     | none=>rfl
     | some y=>simp only[xO,hs y (by simp[Op.operands])]
    simp only[rV,←hs x (by simp[Op.operands]),←hs hio (by simp[Op.operands]),←hs mo (by simp[Op.operands]),←e1]
    have hx:=key x (by simp[Op.operands])
    unfold zI
    split
    ·split
     ·rfl
     ·rename_i id ex
      rw[hx id (by rw[ex];simp[dP])]
     ·rfl
    ·rfl
  | none =>
   have e1:xO s lo=xO s' lo:=by
    cases lo with
    | none=>rfl
    | some y=>simp only[xO,hs y (by simp[Op.operands])]
   have e2:xO s hi=xO s' hi:=by
    cases hi with
    | none=>rfl
    | some y=>simp only[xO,hs y (by simp[Op.operands])]
   simp only[rV,←hs x (by simp[Op.operands]),←e1,←e2]
   exact K3 (key x (by simp[Op.operands]))
 | fieldAddr t x f=>simp only[rV,hs x (by simp[Op.operands])]
 | indexAddr t x i =>
  simp only[rV,←hs x (by simp[Op.operands]),←hs i (by simp[Op.operands])]
  simp only[C6 (key x (by simp[Op.operands])),wB (key x (by simp[Op.operands]))]
 | index t x i=>simp only[rV,hs x (by simp[Op.operands]),hs i (by simp[Op.operands])]
 | extract x i=>simp only[rV,hs x (by simp[Op.operands])]
 | typeAssert x xt t ok=>simp only[rV,hs x (by simp[Op.operands])]
 | makeFunc f fs cs =>
  simp only[rV]
  rw[List.map_congr_left (f:=ev s) (g:=ev s') (fun p hp=>hs p (by simp only[Op.operands,Array.toList_append,List.mem_append];exact .inr hp))]
 | makeSlice t l c=>simp only[rV,hs l (by simp[Op.operands]),hs c (by simp[Op.operands])]
 | call c =>
  obtain⟨callee,args,tys⟩:=c
  have hargs:∀x∈args.toList,x∈(Op.call { callee,args,argTypes:=tys }).operands.toList:=fun x hx=>by
   simp only[Op.operands,Call.operands,Array.toList_append,List.mem_append];exact .inr hx
  have e:args.toList.map (ev s)=args.toList.map (ev s'):=List.map_congr_left (fun p hp=>hs p (hargs p hp))
  have hk:∀y∈args.toList.map (ev s),∀i∈dP y,h i=h' i:=fun y hy i hi=>by
   obtain⟨p,hp,rfl⟩:=List.mem_map.1 hy
   exact key p (hargs p hp) i hi
  have hc:=aEL (h':=h') (xs:=iR s (Op.call { callee,args,argTypes:=tys })) hh
  simp only[rV,uH]
  cases callee with
  | builtin b =>
   simp only[←e]
   unfold vG
   split
   ·rename_i y t ey et
    split
    ·unfold y5
     split
     ·split
      ·rename_i id _ _
       rw[hk (.mp id) (by rw[ey];simp) id (by simp[dP])]
      ·rfl
     ·rfl
    ·unfold aBS
     rw[aA1 (hk y (by rw[ey];simp))]
   ·rfl
   ·rfl
   ·rename_i y z t t' ey et
    split
    ·exact C9 (hk y (by rw[ey];simp)) (hk z (by rw[ey];simp))
    ·rfl
   ·rename_i y z t t' ey et
    exact Q6 (hk y (by rw[ey];simp)) (hk z (by rw[ey];simp))
   ·rfl
  | value f =>
   have hf:f∈(Op.call { callee:= .value f,args,argTypes:=tys }).operands.toList:=by simp[Op.operands,Call.operands]
   simp only[←e,←hs f hf]
   generalize hxs:kZ tb (aJW orc) tys.toList (args.toList.map (ev s))=xs
   have hxi:∀i∈bN xs,i∈bN (args.toList.map (ev s)):=fun i hi=>by rw[←hxs,wJ]at hi;exact hi
   unfold E1
   split
   ·rename_i fid caps q ef
    have hin:∀i∈bN (aAU (ev s f)::xs),i∈bN (iR s (Op.call { callee:= .value f,args,argTypes:=tys })):=fun i hi=>by
     simp only[bN,List.mem_append]at hi
     rcases hi with hi | hi
     ·exact j9 hf i (aBz i hi)
     ·obtain⟨y,hy,hi'⟩:=e9.1 (hxi i hi)
      obtain⟨p,hp,rfl⟩:=List.mem_map.1 hy
      exact j9 (hargs p hp) i hi'
    rw[vS (bs:=q.fl) (h:=h) (h':=h') (fun i hi=>by
     obtain⟨y,hy,hi'⟩:=e9.1 (hxi i hi)
     exact hk y hy i hi')]
    cases hfz:rT h' q.fl xs with
    | none=>rfl
    | some p =>
     obtain⟨ys,u⟩:=p
     obtain⟨z1,z2⟩:=Z3 hfz
     have hclo:Clo (apply u h) (apply u h') (bN (ys++caps)):=fun i hi=>by
      have hi2:i∈bN (iR s (Op.call { callee:= .value f,args,argTypes:=tys })):=by
       obtain⟨y,hy,hi'⟩:=e9.1 hi
       rcases List.mem_append.1 hy with hy | hy
       ·obtain⟨y2,hy2,hi2⟩:=e9.1 (hxi i (z2 i (e9.2 ⟨y,hy,hi'⟩)))
        obtain⟨p,hp,rfl⟩:=List.mem_map.1 hy2
        exact j9 (hargs p hp) i hi2
       ·refine j9 hf i (aBz i ?_)
        rw[ef]
        simp only[dP]
        exact e9.2 ⟨y,hy,hi'⟩
      obtain⟨c1,c2⟩:=hc i hi2
      exact⟨i7 c1 u,fun cs hcs j hj=>i7 (c2 cs (Z8 z1 hcs) j hj) u⟩
     simp only
     split
     ·have hfoot:K7 h (aAU (ev s f)::xs)=K7 h' (aAU (ev s f)::xs):=by
       unfold K7
       congr 1
       refine K9 fun i hi=> ?_
       rw[(hc i (hin i hi)).1]
      rw[hfoot]
      split
      ·rename_i hg
       have hgi:∀i∈q.g,h i=h' i:=fun i hi=>by
        have:=List.all_eq_true.1 hg i hi
        rw[←hfoot]at this
        simp only[List.contains_eq_mem,decide_eq_true_eq]at this
        unfold K7 at this
        rcases List.mem_append.1 this with h1 | h1
        ·exact(hc i (hin i h1)).1
        ·obtain⟨j,hj,hj'⟩:=List.mem_flatMap.1 h1
         split at hj'
         ·rename_i cs hcs
          exact(hc j (hin j hj)).2 cs hcs i hj'
         ·cases hj'
       rw[aAT (g:=q.g) (h:=apply u h) (h':=apply u h') (fun i hi=>i7 (hgi i hi) u),
        zW (g:=q.g) (h:=less q.g (apply u h)) (h':=less q.g (apply u h')) (fun i hi=>⟨J4 (hclo i hi).1,fun cs hcs j hj=>J4 ((hclo i hi).2 cs (w8 hcs).1 j hj)⟩)]
      ·rfl
     ·rw[z5 (h:=apply u h) (h':=apply u h') hclo]
   ·rfl
  | invoke r m=>rfl
 | makeMap t r=>cases r <;> rfl
 | lookup t x k ok =>
  simp only[rV,←hs x (by simp[Op.operands]),←hs k (by simp[Op.operands])]
  rw[D4 (key x (by simp[Op.operands])),yR (key x (by simp[Op.operands]))]
 | mapUpdate t x k y =>
  simp only[rV,←hs x (by simp[Op.operands]),←hs k (by simp[Op.operands]),←hs y (by simp[Op.operands])]
  rw[oR (key x (by simp[Op.operands])) (key y (by simp[Op.operands])),nD (key x (by simp[Op.operands]))]
 | insert t x k y =>
  simp only[rV,←hs x (by simp[Op.operands]),←hs k (by simp[Op.operands]),←hs y (by simp[Op.operands])]
  rw[oR (key x (by simp[Op.operands])) (key y (by simp[Op.operands])),nD (key x (by simp[Op.operands]))]
 | _=>rfl
end Go.Tv
