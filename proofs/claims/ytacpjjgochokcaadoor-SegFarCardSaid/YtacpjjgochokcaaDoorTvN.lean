/- What an operation's outcome hangs on. -/
import Derived.Test.YtacpjjgochokcaaDoorTvM
namespace Go.Tv
open Go Go.RowKit
theorem fR{h h':Nat→Option Obj}{i:Nat}(e:h i=h' i):∀(u:iH),apply u h i=apply u h' i:=fun u=>by
 induction u generalizing h h' with
 | nil=>exact e
 | cons p u ih =>
  obtain⟨j,o⟩:=p
  simp only[apply]
  refine ih ?_
  by_cases hj:i=j
  ·subst hj;rw[aL,aL]
  ·rw[bA _ _ hj,bA _ _ hj];exact e
section
variable{h h':Nat→Option Obj}
theorem qZ{x:AVal}(hh:∀i∈cC x,h i=h' i):hZ h x=hZ h' x:=by
 cases x <;> try rfl
 rename_i id
 simp only[hZ,hh id (by simp[cC])]
theorem nR:∀ {xs:List AVal} {h h':Nat→Option Obj},(∀i∈bC xs,h i=h' i)→oV h xs=oV h' xs
 | [],_,_,_=>rfl
 | x::xs,h,h',hh=>by
  simp only[oV,qZ (x:=x) (fun i hi=>hh i (by simp[bC,hi]))]
  cases hd:hZ h' x with
  | none=>rfl
  | some p =>
   obtain⟨y,u⟩:=p
   simp only[nR (xs:=xs) (h:=apply u h) (h':=apply u h') (fun i hi=>fR (hh i (by simp[bC,hi])) u)]
theorem sV{x:AVal}:bC (cellsOf x)=cC x:=by
 cases x <;> simp[cellsOf,bC,cC]
theorem K6{T:Ty}{x:AVal}(hh:∀i∈cC x,h i=h' i):P7 T h x=P7 T h' x:=by
 unfold P7
 rw[nR (xs:=cellsOf x) (by rw[sV];exact hh)]
theorem rL{T:Ty}{x:AVal}(hh:∀i∈cC x,h i=h' i):T7 T h x=T7 T h' x:=by
 unfold T7
 split
 ·rename_i id i sz off
  rw[hh id (by simp[cC])]
 ·exact K6 hh
theorem vA{A:Ty}:∀ {xs:List AVal} {h h':Nat→Option Obj},(∀i∈bC xs,h i=h' i)→C2 A h xs=C2 A h' xs
 | [],_,_,_=>rfl
 | x::xs,h,h',hh=>by
  simp only[C2,rL (x:=x) (T:=A) (fun i hi=>hh i (by simp[bC,hi]))]
  cases hd:T7 A h' x with
  | none=>rfl
  | some p =>
   obtain⟨y,u⟩:=p
   simp only[vA (xs:=xs) (h:=apply u h) (h':=apply u h') (fun i hi=>fR (hh i (by simp[bC,hi])) u)]
theorem xH{x:AVal}(hh:∀i∈cC x,h i=h' i):kQ h x=kQ h' x:=by
 unfold kQ
 split <;> first
  | rfl
  | (rename_i id;rw[hh id (by simp[cC])])
  | (rename_i id i sz off;rw[hh id (by simp[cC])])
theorem F3{x:AVal}{i:Int}(hh:∀i∈cC x,h i=h' i):xZ h x i=xZ h' x i:=by
 unfold xZ
 split <;> first
  | rfl
  | (rename_i id;rw[hh id (by simp[cC])])
  | (rename_i id i sz off;rw[hh id (by simp[cC])])
theorem B8{x:AVal}(hh:∀i∈cC x,h i=h' i):lenOf h x=lenOf h' x:=by
 unfold lenOf
 split <;> first
  | rfl
  | (rename_i id;rw[hh id (by simp[cC])])
  | (rename_i id i sz off;rw[hh id (by simp[cC])])
theorem J3{s d:TK}{x:AVal}(hh:∀i∈cC x,h i=h' i):conv s d h x=conv s d h' x:=by
 unfold conv
 split <;> first
  | rfl
  | (rename_i id;rw[hh id (by simp[cC])])
  | (rename_i id i sz off;rw[hh id (by simp[cC])])
theorem oI{A:Ty}{x:AVal}(hh:∀i∈cC x,h i=h' i):hJ h A x=hJ h' A x:=by
 unfold hJ
 split <;> first
  | rfl
  | (rename_i id;rw[hh id (by simp[cC])])
  | (rename_i id i sz off;rw[hh id (by simp[cC])])
theorem wK(β:Bool):∀(T:Ty) (x:T.den),bC (gV β T x)=[]
 | .unit,_=>rfl
 | .prod a b,x=>by
  have h1:=wK β a x.1
  have h2:=wK β b x.2
  apply List.eq_nil_iff_forall_not_mem.2
  intro i hi
  simp only[gV,dC,List.mem_append]at hi
  obtain⟨y,hy,hi⟩:=hi
  rcases hy with hy | hy
  ·have:i∈bC (gV β a x.1):=dC.2 ⟨y,hy,hi⟩
   rw[h1]at this;cases this
  ·have:i∈bC (gV β b x.2):=dC.2 ⟨y,hy,hi⟩
   rw[h2]at this;cases this
 | .int _,_=>rfl
 | .bool,_=>rfl
 | .str,_=>rfl
 | .flt,_=>rfl
 | .slice _,_=>rfl
 | .ptr _,_=>rfl
 | .tree _ _,_=>rfl
theorem aB8{cs new:List AVal}{p i:Nat}(hi:i∈bC (wr cs p new)):i∈bC cs∨i∈bC new:=by
 obtain⟨y,hy,hi⟩:=dC.1 hi
 simp only[wr,List.mem_append]at hy
 rcases hy with(hy | hy) | hy
 ·exact .inl (dC.2 ⟨y,List.mem_of_mem_take hy,hi⟩)
 ·exact .inr (dC.2 ⟨y,hy,hi⟩)
 ·exact .inl (dC.2 ⟨y,List.mem_of_mem_drop hy,hi⟩)
theorem E8{A:Ty}{xs:List A.den}{i off:Nat}{y:AVal}(hh:∀i∈cC y,h i=h' i):C8 A h xs i off y=C8 A h' xs i off y:=by
 unfold C8
 refine rL fun j hj=> ?_
 simp only[cC]at hj
 rcases aB8 hj with h1 | h1
 ·rw[wK]at h1;cases h1
 ·rw[sV]at h1;exact hh j h1
theorem sT{x:AVal}(hh:∀i∈cC x,h i=h' i):uL h x=uL h' x:=by
 cases x <;> try rfl
 rename_i id
 simp only[uL,hh id (by simp[cC])]
theorem l9:∀ {xs:List AVal},(∀i∈bC xs,h i=h' i)→nD h xs=nD h' xs
 | [],_=>rfl
 | x::xs,hh=>by
  simp only[nD,sT (x:=x) (fun i hi=>hh i (by simp[bC,hi])),l9 (xs:=xs) (fun i hi=>hh i (by simp[bC,hi]))]
def Clo(h h':Nat→Option Obj)(I:List Nat):Prop:=∀i∈I,h i=h' i∧∀cs,h i=some (.box cs)→∀j∈bC cs,h j=h' j
theorem tO{x:AVal}(hh:Clo h h' (cC x)):p9 h x=p9 h' x:=by
 have h0:∀i∈cC x,h i=h' i:=fun i hi=>(hh i hi).1
 cases x <;> try rfl
 ·simp only[p9,sT h0]
 ·rename_i id i sz off
  simp only[p9]
  have h1:=hh id (by simp[cC])
  rw[←h1.1]
  cases he:h id with
  | none=>rfl
  | some ob =>
   cases ob with
   | box cs=>simp only[l9 (xs:=cs) (h:=h) (h':=h') (h1.2 cs he)]
   | arr _ _ _=>rfl
   | fz _ _=>rfl
   | mpo _ _ _=>rfl
   | mpl _ _=>rfl
   | mat _ _ _ _ _=>rfl
 ·rename_i cs
  simp only[p9]
  rw[l9 (xs:=cs) (h:=h) (h':=h') (fun i hi=>h0 i (by simpa [cC]using hi))]
theorem qO:∀ {xs:List AVal},Clo h h' (bC xs)→pI h xs=pI h' xs
 | [],_=>rfl
 | x::xs,hh=>by
  simp only[pI,tO (x:=x) (fun i hi=>hh i (by simp[bC,hi])),qO (xs:=xs) (fun i hi=>hh i (by simp[bC,hi]))]
theorem wJ{x:AVal}(hh:Clo h h' (cC x)):F8 h x=F8 h' x:=by
 cases x <;> try (simp only[F8];exact tO hh)
 rename_i f cs
 simp only[F8]
 rw[qO (xs:=cs) (h:=h) (h':=h') (fun i hi=>hh i (by simpa [cC]using hi))]
theorem tM:∀ {xs:List AVal},Clo h h' (bC xs)→sU h xs=sU h' xs
 | [],_=>rfl
 | x::xs,hh=>by
  simp only[sU,wJ (x:=x) (fun i hi=>hh i (by simp[bC,hi])),tM (xs:=xs) (fun i hi=>hh i (by simp[bC,hi]))]
theorem wZ{g:List Nat}{i:Nat}(e:h i=h' i):less g h i=less g h' i:=by
 unfold less
 split
 ·rfl
 ·exact e
theorem vQ{α β:Type}{l:List α}{f f':α→List β}(e:∀x∈l,f x=f' x):l.flatMap f=l.flatMap f':=by
 induction l with
 | nil=>rfl
 | cons x l ih=>simp only[List.flatMap_cons,e x (by simp),ih (fun y hy=>e y (by simp[hy]))]
theorem tA{g:List Nat}:∀ {xs:List AVal},Clo h h' (bC xs)→qN g h xs=qN g h' xs
 | [],_=>rfl
 | x::xs,hh=>by
  have e:x6 g h x=x6 g h' x:=by
   unfold x6
   rw[wJ (x:=x) (fun i hi=>hh i (by simp[bC,hi]))]
  simp only[qN,e,tA (xs:=xs) (fun i hi=>hh i (by simp[bC,hi]))]
theorem z0{g:List Nat}{h h':Nat→Option Obj}(hg:∀i∈g,h i=h' i):iM g h 0 g=iM g h' 0 g:=by
 have key:∀(l:List Nat) (k:Nat),(∀i∈l,i∈g)→iM g h k l=iM g h' k l:=fun l=>by
  induction l with
  | nil=>intro k _;rfl
  | cons x l ih =>
   intro k hl
   simp only[iM,hg x (hl x (by simp)),ih (k+1) (fun i hi=>hl i (by simp[hi]))]
 exact key g 0 fun _ h=>h
theorem J8{x:AVal}(hh:∀i∈cC x,h i=h' i):xG h x=xG h' x:=by
 cases x <;> try (simp only[xG];exact qZ hh)
 rename_i cs
 simp only[xG]
 rw[nR (xs:=cs) (h:=h) (h':=h') (fun i hi=>hh i (by simpa [cC]using hi))]
theorem pT:∀ {bs:List Bool} {xs:List AVal} {h h':Nat→Option Obj},(∀i∈bC xs,h i=h' i)→lU h bs xs=lU h' bs xs
 | _,[],_,_,_=>by simp only[lU]
 | [],_::_,_,_,_=>rfl
 | false::bs,x::xs,h,h',hh=>by
  simp only[lU,pT (bs:=bs) (xs:=xs) (h:=h) (h':=h') (fun i hi=>hh i (by simp[bC,hi]))]
 | true::bs,x::xs,h,h',hh=>by
  simp only[lU,J8 (x:=x) (h:=h) (h':=h') (fun i hi=>hh i (by simp[bC,hi]))]
  cases xG h' x with
  | none=>rfl
  | some p =>
   obtain⟨y,u⟩:=p
   simp only[pT (bs:=bs) (xs:=xs) (h:=apply u h) (h':=apply u h') (fun i hi=>fR (hh i (by simp[bC,hi])) u)]
def AllFz(u:iH):Prop:=∀p∈u,∃A xs,p.2=some (.fz A xs)
theorem AllFz.append{u v:iH}(hu:AllFz u)(hv:AllFz v):AllFz (u++v):=fun p hp=>(List.mem_append.1 hp).elim (hu p) (hv p)
theorem yH{x y:AVal}{u:iH}(hd:hZ h x=some (y,u)):AllFz u∧∀i∈cC y,i∈cC x:=by
 unfold hZ at hd
 split at hd
 ·split at hd
  ·cases hd;exact⟨fun p hp=>by simp at hp;subst hp;exact⟨_,_,rfl⟩,fun i hi=>by simp[cC]at hi⟩
  ·cases hd;exact⟨fun p hp=>by simp at hp,fun i hi=>by simp[cC]at hi⟩
  ·cases hd;exact⟨fun p hp=>by simp at hp;subst hp;exact⟨_,_,rfl⟩,fun i hi=>by simp[cC]at hi⟩
  ·cases hd
 ·cases hd;exact⟨fun p hp=>by simp at hp,fun i hi=>hi⟩
theorem E2:∀ {xs ys:List AVal} {h:Nat→Option Obj} {u:iH},oV h xs=some (ys,u)→AllFz u∧∀i∈bC ys,i∈bC xs
 | [],ys,h,u,hd=>by cases hd;exact⟨fun p hp=>by simp at hp,fun i hi=>hi⟩
 | x::xs,ys,h,u,hd=>by
  simp only[oV]at hd
  split at hd
  ·rename_i y u1 h1
   split at hd
   ·rename_i ys' us h2
    cases hd
    obtain⟨q1,q2⟩:=yH h1
    obtain⟨r1,r2⟩:=E2 h2
    refine⟨q1.append r1,fun i hi=> ?_⟩
    simp only[bC,List.mem_append]at hi ⊢
    exact hi.imp (q2 i) (r2 i)
   ·cases hd
  ·cases hd
theorem aBe{x y:AVal}{u:iH}(hd:xG h x=some (y,u)):AllFz u∧∀i∈cC y,i∈cC x:=by
 unfold xG at hd
 split at hd
 ·split at hd
  ·rename_i ds u' h1
   cases hd
   obtain⟨q1,q2⟩:=E2 h1
   exact⟨q1,fun i hi=>by simp only[cC]at hi ⊢;exact q2 i hi⟩
  ·cases hd
 ·exact yH hd
theorem yX:∀ {bs:List Bool} {xs ys:List AVal} {h:Nat→Option Obj} {u:iH},lU h bs xs=some (ys,u)→AllFz u∧∀i∈bC ys,i∈bC xs
 | _,[],ys,h,u,hd=>by simp only[lU]at hd;cases hd;exact⟨fun p hp=>by simp at hp,fun i hi=>hi⟩
 | [],_::_,ys,h,u,hd=>by simp only[lU]at hd;cases hd;exact⟨fun p hp=>by simp at hp,fun i hi=>hi⟩
 | false::bs,x::xs,ys,h,u,hd=>by
  simp only[lU]at hd
  split at hd
  ·rename_i ys' u' h1
   cases hd
   obtain⟨q1,q2⟩:=yX h1
   refine⟨q1,fun i hi=> ?_⟩
   simp only[bC,List.mem_append]at hi ⊢
   exact hi.imp (fun h=>h) (q2 i)
  ·cases hd
 | true::bs,x::xs,ys,h,u,hd=>by
  simp only[lU]at hd
  split at hd
  ·rename_i y u1 h1
   split at hd
   ·rename_i ys' us h2
    cases hd
    obtain⟨q1,q2⟩:=aBe h1
    obtain⟨r1,r2⟩:=yX h2
    refine⟨q1.append r1,fun i hi=> ?_⟩
    simp only[bC,List.mem_append]at hi ⊢
    exact hi.imp (q2 i) (r2 i)
   ·cases hd
  ·cases hd
theorem y9{u:iH}(hu:AllFz u){i:Nat}{cs:List AVal}:∀ {h:Nat→Option Obj},apply u h i=some (.box cs)→h i=some (.box cs):=by
 induction u with
 | nil=>intro h hb;exact hb
 | cons p u ih =>
  intro h hb
  obtain⟨j,o⟩:=p
  have h1:=ih (fun q hq=>hu q (by simp[hq])) hb
  by_cases e:i=j
  ·subst e
   rw[aL]at h1
   obtain⟨A,xs,h2⟩:=hu (i,o) (by simp)
   simp only at h2
   rw[h1]at h2
   cases h2
  ·rw[bA _ _ e]at h1;exact h1
theorem W3{xs:List AVal}(hh:∀i∈vN h xs,h i=h' i):Clo h h' (bC xs):=fun i hi =>
 ⟨hh i (List.mem_append_left _ hi),fun cs hc j hj=>hh j (List.mem_append_right _ (List.mem_flatMap.2 ⟨i,hi,by rw[hc];exact hj⟩))⟩
theorem vU{tb:Tab}{new:Nat}{t:TypeId}{x:AVal}{lo hi:Option (Option Int)}(hh:∀i∈cC x,h i=h' i):mP tb new t x lo hi h=mP tb new t x lo hi h':=by
 unfold mP
 split
 ·split
  ·split <;> first
    | rfl
    | (rename_i id;rw[hh id (by simp[cC])])
  ·rfl
 ·rfl
theorem xO{new:Nat}{ti:TI}{x:AVal}(hx:∀i∈cC x,h i=h' i)(ho:∀i∈cC x,∀e e2 A xss k j,h i=some (.mat e e2 A xss (some (k,j)))→h j=h' j):kP new ti x h=kP new ti x h':=by
 unfold kP
 cases x <;> try rfl
 rename_i id i sz off
 simp only
 have e1:=hx id (by simp[cC])
 have e2:=ho id (by simp[cC])
 rw[←e1]
 cases hm:h id with
 | none=>rfl
 | some ob =>
  cases ob with
  | mat e e2' A xss hole =>
   cases hole with
   | none=>rfl
   | some p =>
    obtain⟨k,j⟩:=p
    simp only[e2 _ _ _ _ _ _ hm]
  | _=>rfl
theorem uJ{ti:TI}{x:AVal}(hx:∀i∈cC x,h i=h' i):lJ ti x h=lJ ti x h':=by
 unfold lJ
 split
 ·rename_i id b n i k _
  have hid:=hx id (by simp[cC])
  rw[hid]
 ·rfl
theorem t5{ti:TI}{x y:AVal}(hx:∀i∈cC x,h i=h' i):jM ti x y h=jM ti x y h':=by
 unfold jM
 split
 ·rename_i id b n i _ k v
  have hid:=hx id (by simp[cC])
  rw[hid]
 ·rfl
theorem tW{tb:Tab}{t:TypeId}{x i:AVal}(hx:∀i∈cC x,h i=h' i):jP tb t x i h=jP tb t x i h':=by
 unfold jP
 cases tb.find t with
 | none=>rfl
 | some ti =>
  simp only
  split
  ·split
   ·split
    ·split
     ·rename_i id j sz off _ _ _
      rw[hx id (by simp[cC])]
     ·rfl
     ·rfl
    ·split
     ·split
      ·rename_i id j sz off _ _ _
       rw[hx id (by simp[cC])]
      ·rfl
     ·rfl
   ·rfl
  ·rfl
theorem pU{tb:Tab}{t:TypeId}{x i:AVal}(hx:∀i∈cC x,h i=h' i):g6 tb t x i h=g6 tb t x i h':=by
 unfold g6
 cases i6 tb t with
 | none=>rfl
 | some q =>
  simp only
  split
  ·rw[F3 hx]
  ·rfl
theorem tZ{P:Program}{tb:Tab}{t:TypeId}{x k:AVal}{ok:Bool}(hx:∀i∈cC x,h i=h' i):lG P tb t x k ok h=lG P tb t x k ok h':=by
 unfold lG
 split
 ·split
  ·rename_i id
   rw[hx id (by simp[cC])]
  ·rfl
 ·rfl
theorem rO{P:Program}{tb:Tab}{t:TypeId}{g:List Nat}{x k:AVal}{ok:Bool}(hx:∀i∈cC x,h i=h' i):jS P tb t g x k ok h=jS P tb t g x k ok h':=by
 unfold jS
 split
 ·split
  ·rename_i id
   rw[hx id (by simp[cC])]
  ·rfl
 ·rfl
theorem j8{P:Program}{tb:Tab}{t:TypeId}{x k y:AVal}(hx:∀i∈cC x,h i=h' i)(hy:∀i∈cC y,h i=h' i):eT P tb t x k y h=eT P tb t x k y h':=by
 unfold eT
 split
 ·split
  ·rename_i id
   rw[hx id (by simp[cC])]
   split
   ·split
    ·split
     ·rw[rL hy]
     ·rfl
    ·rfl
   ·rfl
  ·rfl
 ·rfl
theorem iY{P:Program}{tb:Tab}{t:TypeId}{x k y:AVal}(hx:∀i∈cC x,h i=h' i):dX P tb t x k y h=dX P tb t x k y h':=by
 unfold dX
 split
 ·split
  ·rename_i id
   rw[hx id (by simp[cC])]
  ·rfl
 ·rfl
theorem zD{id i:Nat}{e e2:TypeId}{A:Ty}{xss:List (List A.den)}{hole:Option (Nat×Nat)}{y:AVal}(hy:∀i∈cC y,h i=h' i)(ho:∀k j,hole=some (k,j)→h j=h' j):rS id i e e2 A xss hole y h=rS id i e e2 A xss hole y h':=by
 unfold rS
 cases y <;> try rfl
 rename_i r
 simp only
 rw[←hy r (by simp[cC])]
 cases h r with
 | none=>rfl
 | some ob =>
  cases ob with
  | arr e3 B zs =>
   cases hole with
   | none=>rfl
   | some p =>
    obtain⟨k,j⟩:=p
    simp only[ho k j rfl]
  | _=>rfl
theorem vX{tb:Tab}{t:TypeId}{x y:AVal}(hx:∀i∈cC x,h i=h' i)(hy:∀i∈cC y,h i=h' i)(ho:∀i∈cC x,∀e e2 A xss k j,h i=some (.mat e e2 A xss (some (k,j)))→h j=h' j):nP tb t x y h=nP tb t x y h':=by
 unfold nP
 cases tb.find t with
 | none=>rfl
 | some ti =>
  simp only
  split
  ·cases x <;> try rfl
   case ada=>exact t5 hx
   rename_i id i sz off
   simp only
   have hid:=hx id (by simp[cC])
   have hop:=ho id (by simp[cC])
   rw[←hid]
   cases hm:h id with
   | none=>rfl
   | some ob =>
    cases ob with
    | arr e A xs=>simp only[E8 (A:=A) (xs:=xs) (i:=i) (off:=off) hy]
    | fz _ _=>rfl
    | box _=>rfl
    | mpo _ _ _=>rfl
    | mpl _ _=>rfl
    | mat e e2 A xss hole=>simp only[zD (id:=id) (i:=i) (e:=e) (e2:=e2) (A:=A) (xss:=xss) (hole:=hole) hy (fun k j eh=>hop e e2 A xss k j (by rw[hm,eh]))]
  ·rfl
theorem tV{tb:Tab}{new:Nat}{t:TypeId}{x y:AVal}(hx:∀i∈cC x,h i=h' i)(hy:∀i∈cC y,h i=h' i):lN tb new t x y h=lN tb new t x y h':=by
 unfold lN
 cases i6 tb t with
 | none=>rfl
 | some p =>
  obtain⟨e,te,A⟩:=p
  simp only[oI (A:=A) hy]
  cases hJ h' A y with
  | none=>rfl
  | some ys =>
   simp only
   cases x <;> try rfl
   rename_i id
   simp only
   rw[hx id (by simp[cC])]
theorem xF{tb:Tab}{t:TypeId}{x y:AVal}(hx:∀i∈cC x,h i=h' i)(hy:∀i∈cC y,h i=h' i):q9 tb t x y h=q9 tb t x y h':=by
 unfold q9
 cases i6 tb t with
 | none=>rfl
 | some p =>
  obtain⟨e,te,A⟩:=p
  simp only[oI (A:=A) hy]
  cases hJ h' A y with
  | none=>rfl
  | some ys =>
   simp only
   cases x <;> try rfl
   rename_i id
   simp only
   rw[hx id (by simp[cC])]
end
def fH(s:Nat→AVal)(op:Op):List AVal:=op.operands.toList.map (ev s)
theorem gL{s:Nat→AVal}{op:Op}{x:Operand}(hx:x∈op.operands.toList):∀i∈cC (ev s x),i∈bC (fH s op):=fun _ hi =>
 dC.2 ⟨ev s x,List.mem_map.2 ⟨x,hx,rfl⟩,hi⟩
def w7(h:Nat→Option Obj)(xs:List AVal):List Nat :=
 bC xs++(bC xs).flatMap fun i=>match h i with
  | some (.mat _ _ _ _ (some (_,j)))=>[j]
  | _=>[]
theorem wI{h:Nat→Option Obj}{xs:List AVal}{i:Nat}{e e2:TypeId}{A:Ty}{xss:List (List A.den)}{k j:Nat}(hi:i∈bC xs)(hm:h i=some (.mat e e2 A xss (some (k,j)))):j∈w7 h xs :=
 List.mem_append_right _ (List.mem_flatMap.2 ⟨i,hi,by rw[hm];exact .head _⟩)
def j7(h:Nat→Option Obj)(op:Op)(xs:List AVal):List Nat :=
 match op with
 | .call _=>vN h xs
 | .load _ _=>w7 h xs
 | .store _ _ _=>w7 h xs
 | .move _=>[]
 | .assign _=>[]
 | .nilCheck _=>[]
 | .fieldAddr _ _ _=>[]
 | _=>bC xs
theorem xQ{P:Program}{tb:Tab}{new:Nat}{asm:Option Bool}{orc:Option Orc}{op:Op}{s s':Nat→AVal}{h h':Nat→Option Obj}
  (hs:∀x∈op.operands.toList,ev s x=ev s' x) (hh:∀i∈j7 h op (fH s op),h i=h' i):mF P tb new asm orc op s h=mF P tb new asm orc op s' h':=by
 by_cases hmv:(∃x,op = .move x)∨(∃x,op = .assign x)∨(∃x,op = .nilCheck x)∨∃t x f,op = .fieldAddr t x f
 ·rcases hmv with⟨x,rfl⟩ | ⟨x,rfl⟩ | ⟨x,rfl⟩ | ⟨t,x,f,rfl⟩ <;> simp only[mF,hs x (by simp[Op.operands])]
 have hid:∀i∈bC (fH s op),h i=h' i:=fun i hi=>by
  refine hh i ?_
  unfold j7
  split
  ·exact List.mem_append_left _ hi
  ·exact List.mem_append_left _ hi
  ·exact List.mem_append_left _ hi
  ·rename_i x;exact absurd (.inl ⟨x,rfl⟩) hmv
  ·rename_i x;exact absurd (.inr (.inl ⟨x,rfl⟩)) hmv
  ·rename_i x;exact absurd (.inr (.inr (.inl ⟨x,rfl⟩))) hmv
  ·rename_i t x f;exact absurd (.inr (.inr (.inr ⟨t,x,f,rfl⟩))) hmv
  ·exact hi
 have key:∀x∈op.operands.toList,∀i∈cC (ev s x),h i=h' i:=fun x hx i hi=>hid i (gL hx i hi)
 cases op with
 | move x=>simp only[mF,hs x (by simp[Op.operands])]
 | assign x=>simp only[mF,hs x (by simp[Op.operands])]
 | pick c x y =>
  have e:∀b:Bool,ev s (if b=true then x else y)=ev s' (if b=true then x else y):=fun b=>by
   cases b
   ·exact hs y (by simp[Op.operands])
   ·exact hs x (by simp[Op.operands])
  simp only[mF,yM,hs c (by simp[Op.operands]),e,hs x (by simp[Op.operands]),hs y (by simp[Op.operands])]
 | alloc t=>rfl
 | box t x=>simp only[mF,hs x (by simp[Op.operands])]
 | build t ps =>
  simp only[mF]
  have e:ps.toList.map (fun p=>ev s p.2)=ps.toList.map (fun p=>ev s' p.2):=List.map_congr_left (fun p hp=>hs p.2 (by simp only[Op.operands,List.mem_map];exact⟨p,hp,rfl⟩))
  rw[e]
 | buildSlice t len ps =>
  simp only[mF]
  have e:ps.toList.map (fun p=>ev s p.2)=ps.toList.map (fun p=>ev s' p.2):=List.map_congr_left (fun p hp=>hs p.2 (by simp only[Op.operands,List.mem_map];exact⟨p,hp,rfl⟩))
  rw[←e]
  unfold kV
  cases i6 tb t with
  | none=>rfl
  | some q =>
   obtain⟨e,te,A⟩:=q
   simp only
   split
   ·rw[vA (A:=A) (fun i hi=>by
     obtain⟨y,hy,hi⟩:=dC.1 hi
     obtain⟨p,hp,rfl⟩:=List.mem_map.1 hy
     exact key p.2 (by simp only[Op.operands,List.mem_map];exact⟨p,hp,rfl⟩) i hi)]
   ·rfl
 | load t x =>
  simp only[mF,←hs x (by simp[Op.operands])]
  have hx:=key x (by simp[Op.operands])
  have e2:∀ti,kP new ti (ev s x) h=kP new ti (ev s x) h':=fun ti=>xO hx (fun i hi e e2 A xss k j hm=>hh j (wI (gL (by simp[Op.operands]) i hi) hm))
  unfold zF
  simp only[xH hx,uJ hx,e2]
 | store t x y =>
  simp only[mF,←hs x (by simp[Op.operands]),←hs y (by simp[Op.operands])]
  exact vX (key x (by simp[Op.operands])) (key y (by simp[Op.operands])) (fun i hi e e2 A xss k j hm=>hh j (wI (gL (by simp[Op.operands]) i hi) hm))
 | binOp o t x y t'=>simp only[mF,hs x (by simp[Op.operands]),hs y (by simp[Op.operands])]
 | unOp o t x=>simp only[mF,hs x (by simp[Op.operands])]
 | nilCheck x=>simp only[mF,hs x (by simp[Op.operands])]
 | convert st dt x =>
  simp only[mF,←hs x (by simp[Op.operands])]
  unfold yP
  cases tb.find st with
  | none=>rfl
  | some si =>
   cases tb.find dt with
   | none=>rfl
   | some di =>
    simp only
    cases X8 tb di.k (ev s x)with
    | some r=>rfl
    | none=>simp only[J3 (s:=si.k) (d:=di.k) (key x (by simp[Op.operands]))]
 | slice t x lo hi mx =>
  cases mx with
  | some mo =>
   cases hi with
   | none=>rfl
   | some hio =>
    have e1:qE s lo=qE s' lo:=by
     cases lo with
     | none=>rfl
     | some y=>simp only[qE,hs y (by simp[Op.operands])]
    simp only[mF,←hs x (by simp[Op.operands]),←hs hio (by simp[Op.operands]),←hs mo (by simp[Op.operands]),←e1]
    have hx:=key x (by simp[Op.operands])
    unfold rT
    split
    ·split
     ·rfl
     ·rename_i id ex
      rw[hx id (by rw[ex];simp[cC])]
     ·rfl
    ·rfl
  | none =>
   have e1:qE s lo=qE s' lo:=by
    cases lo with
    | none=>rfl
    | some y=>simp only[qE,hs y (by simp[Op.operands])]
   have e2:qE s hi=qE s' hi:=by
    cases hi with
    | none=>rfl
    | some y=>simp only[qE,hs y (by simp[Op.operands])]
   simp only[mF,←hs x (by simp[Op.operands]),←e1,←e2]
   exact vU (key x (by simp[Op.operands]))
 | fieldAddr t x f=>simp only[mF,hs x (by simp[Op.operands])]
 | indexAddr t x i =>
  simp only[mF,←hs x (by simp[Op.operands]),←hs i (by simp[Op.operands])]
  simp only[tW (key x (by simp[Op.operands])),pU (key x (by simp[Op.operands]))]
 | index t x i=>simp only[mF,hs x (by simp[Op.operands]),hs i (by simp[Op.operands])]
 | extract x i=>simp only[mF,hs x (by simp[Op.operands])]
 | typeAssert x xt t ok=>simp only[mF,hs x (by simp[Op.operands])]
 | makeFunc f fs cs =>
  simp only[mF]
  rw[List.map_congr_left (f:=ev s) (g:=ev s') (fun p hp=>hs p (by simp only[Op.operands,Array.toList_append,List.mem_append];exact .inr hp))]
 | makeSlice t l c=>simp only[mF,hs l (by simp[Op.operands]),hs c (by simp[Op.operands])]
 | call c =>
  obtain⟨callee,args,tys⟩:=c
  have hargs:∀x∈args.toList,x∈(Op.call { callee,args,argTypes:=tys }).operands.toList:=fun x hx=>by
   simp only[Op.operands,Call.operands,Array.toList_append,List.mem_append];exact .inr hx
  have e:args.toList.map (ev s)=args.toList.map (ev s'):=List.map_congr_left (fun p hp=>hs p (hargs p hp))
  have hk:∀y∈args.toList.map (ev s),∀i∈cC y,h i=h' i:=fun y hy i hi=>by
   obtain⟨p,hp,rfl⟩:=List.mem_map.1 hy
   exact key p (hargs p hp) i hi
  have hc:=W3 (h':=h') (xs:=fH s (Op.call { callee,args,argTypes:=tys })) hh
  simp only[mF,n9]
  cases callee with
  | builtin b =>
   simp only[←e]
   unfold o5
   split
   ·rename_i y t ey et
    split
    ·unfold sD
     split
     ·split
      ·rename_i id _ _
       rw[hk (.mp id) (by rw[ey];simp) id (by simp[cC])]
      ·rfl
     ·rfl
    ·unfold J0
     rw[B8 (hk y (by rw[ey];simp))]
   ·rfl
   ·rfl
   ·rename_i y z t t' ey et
    split
    ·exact tV (hk y (by rw[ey];simp)) (hk z (by rw[ey];simp))
    ·rfl
   ·rename_i y z t t' ey et
    exact xF (hk y (by rw[ey];simp)) (hk z (by rw[ey];simp))
   ·rfl
  | value f =>
   have hf:f∈(Op.call { callee:= .value f,args,argTypes:=tys }).operands.toList:=by simp[Op.operands,Call.operands]
   simp only[←e,←hs f hf]
   generalize hxs:g8 tb (aCR orc) tys.toList (args.toList.map (ev s))=xs
   have hxi:∀i∈bC xs,i∈bC (args.toList.map (ev s)):=fun i hi=>by rw[←hxs,pA]at hi;exact hi
   unfold uE
   split
   ·rename_i fid caps q ef
    have hin:∀i∈bC (G0 (ev s f)::xs),i∈bC (fH s (Op.call { callee:= .value f,args,argTypes:=tys })):=fun i hi=>by
     simp only[bC,List.mem_append]at hi
     rcases hi with hi | hi
     ·exact gL hf i (E7 i hi)
     ·obtain⟨y,hy,hi'⟩:=dC.1 (hxi i hi)
      obtain⟨p,hp,rfl⟩:=List.mem_map.1 hy
      exact gL (hargs p hp) i hi'
    rw[pT (bs:=q.fl) (h:=h) (h':=h') (fun i hi=>by
     obtain⟨y,hy,hi'⟩:=dC.1 (hxi i hi)
     exact hk y hy i hi')]
    cases hfz:lU h' q.fl xs with
    | none=>rfl
    | some p =>
     obtain⟨ys,u⟩:=p
     obtain⟨z1,z2⟩:=yX hfz
     have hclo:Clo (apply u h) (apply u h') (bC (ys++caps)):=fun i hi=>by
      have hi2:i∈bC (fH s (Op.call { callee:= .value f,args,argTypes:=tys })):=by
       obtain⟨y,hy,hi'⟩:=dC.1 hi
       rcases List.mem_append.1 hy with hy | hy
       ·obtain⟨y2,hy2,hi2⟩:=dC.1 (hxi i (z2 i (dC.2 ⟨y,hy,hi'⟩)))
        obtain⟨p,hp,rfl⟩:=List.mem_map.1 hy2
        exact gL (hargs p hp) i hi2
       ·refine gL hf i (E7 i ?_)
        rw[ef]
        simp only[cC]
        exact dC.2 ⟨y,hy,hi'⟩
      obtain⟨c1,c2⟩:=hc i hi2
      exact⟨fR c1 u,fun cs hcs j hj=>fR (c2 cs (y9 z1 hcs) j hj) u⟩
     simp only
     split
     ·have hfoot:vN h (G0 (ev s f)::xs)=vN h' (G0 (ev s f)::xs):=by
       unfold vN
       congr 1
       refine vQ fun i hi=> ?_
       rw[(hc i (hin i hi)).1]
      rw[hfoot]
      split
      ·rename_i hg
       have hgi:∀i∈q.g,h i=h' i:=fun i hi=>by
        have:=List.all_eq_true.1 hg i hi
        rw[←hfoot]at this
        simp only[List.contains_eq_mem,decide_eq_true_eq]at this
        unfold vN at this
        rcases List.mem_append.1 this with h1 | h1
        ·exact(hc i (hin i h1)).1
        ·obtain⟨j,hj,hj'⟩:=List.mem_flatMap.1 h1
         split at hj'
         ·rename_i cs hcs
          exact(hc j (hin j hj)).2 cs hcs i hj'
         ·cases hj'
       rw[z0 (g:=q.g) (h:=apply u h) (h':=apply u h') (fun i hi=>fR (hgi i hi) u),
        tA (g:=q.g) (h:=less q.g (apply u h)) (h':=less q.g (apply u h')) (fun i hi=>⟨wZ (hclo i hi).1,fun cs hcs j hj=>wZ ((hclo i hi).2 cs (rE hcs).1 j hj)⟩)]
      ·rfl
     ·rw[tM (h:=apply u h) (h':=apply u h') hclo]
   ·rfl
  | invoke r m=>rfl
 | makeMap t r=>cases r <;> rfl
 | lookup t x k ok =>
  simp only[mF,←hs x (by simp[Op.operands]),←hs k (by simp[Op.operands])]
  rw[tZ (key x (by simp[Op.operands])),rO (key x (by simp[Op.operands]))]
 | mapUpdate t x k y =>
  simp only[mF,←hs x (by simp[Op.operands]),←hs k (by simp[Op.operands]),←hs y (by simp[Op.operands])]
  rw[j8 (key x (by simp[Op.operands])) (key y (by simp[Op.operands])),iY (key x (by simp[Op.operands]))]
 | insert t x k y =>
  simp only[mF,←hs x (by simp[Op.operands]),←hs k (by simp[Op.operands]),←hs y (by simp[Op.operands])]
  rw[j8 (key x (by simp[Op.operands])) (key y (by simp[Op.operands])),iY (key x (by simp[Op.operands]))]
 | _=>rfl
end Go.Tv
