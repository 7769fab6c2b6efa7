/- What an operation's outcome hangs on. -/
import Derived.Test.YtjfjigknkhgkdaaTvM
namespace Go.Tv
open Go Go.RowKit
theorem fX{h h':Nat→Option Obj}{i:Nat}(e:h i=h' i):∀(u:iI),apply u h i=apply u h' i:=fun u=>by
 induction u generalizing h h' with
 | nil=>exact e
 | cons p u ih =>
  obtain⟨j,o⟩:=p
  simp only[apply]
  refine ih ?_
  by_cases hj:i=j
  ·subst hj;rw[aI,aI]
  ·rw[aZ _ _ hj,aZ _ _ hj];exact e
section
variable{h h':Nat→Option Obj}
theorem mR{x:AVal}(hh:∀i∈cO x,h i=h' i):gM h x=gM h' x:=by
 cases x <;> try rfl
 rename_i id
 simp only[gM,hh id (by simp[cO])]
theorem oQ:∀ {xs:List AVal} {h h':Nat→Option Obj},(∀i∈bH xs,h i=h' i)→pN h xs=pN h' xs
 | [],_,_,_=>rfl
 | x::xs,h,h',hh=>by
  simp only[pN,mR (x:=x) (fun i hi=>hh i (by simp[bH,hi]))]
  cases hd:gM h' x with
  | none=>rfl
  | some p =>
   obtain⟨y,u⟩:=p
   simp only[oQ (xs:=xs) (h:=apply u h) (h':=apply u h') (fun i hi=>fX (hh i (by simp[bH,hi])) u)]
theorem tZ{x:AVal}:bH (cellsOf x)=cO x:=by
 cases x <;> simp[cellsOf,bH,cO]
theorem H6{T:Ty}{x:AVal}(hh:∀i∈cO x,h i=h' i):Q7 T h x=Q7 T h' x:=by
 unfold Q7
 rw[oQ (xs:=cellsOf x) (by rw[tZ];exact hh)]
theorem sZ{T:Ty}{x:AVal}(hh:∀i∈cO x,h i=h' i):S2 T h x=S2 T h' x:=by
 unfold S2
 split
 ·rename_i id i sz off
  rw[hh id (by simp[cO])]
 ·exact H6 hh
theorem vC{A:Ty}:∀ {xs:List AVal} {h h':Nat→Option Obj},(∀i∈bH xs,h i=h' i)→G0 A h xs=G0 A h' xs
 | [],_,_,_=>rfl
 | x::xs,h,h',hh=>by
  simp only[G0,sZ (x:=x) (T:=A) (fun i hi=>hh i (by simp[bH,hi]))]
  cases hd:S2 A h' x with
  | none=>rfl
  | some p =>
   obtain⟨y,u⟩:=p
   simp only[vC (xs:=xs) (h:=apply u h) (h':=apply u h') (fun i hi=>fX (hh i (by simp[bH,hi])) u)]
theorem xO{x:AVal}(hh:∀i∈cO x,h i=h' i):kX h x=kX h' x:=by
 unfold kX
 split <;> first
  | rfl
  | (rename_i id;rw[hh id (by simp[cO])])
  | (rename_i id i sz off;rw[hh id (by simp[cO])])
theorem C4{x:AVal}{i:Int}(hh:∀i∈cO x,h i=h' i):yP h x i=yP h' x i:=by
 unfold yP
 split <;> first
  | rfl
  | (rename_i id;rw[hh id (by simp[cO])])
  | (rename_i id i sz off;rw[hh id (by simp[cO])])
theorem A7{x:AVal}(hh:∀i∈cO x,h i=h' i):lenOf h x=lenOf h' x:=by
 unfold lenOf
 split <;> first
  | rfl
  | (rename_i id;rw[hh id (by simp[cO])])
  | (rename_i id i sz off;rw[hh id (by simp[cO])])
theorem H1{s d:TK}{x:AVal}(hh:∀i∈cO x,h i=h' i):conv s d h x=conv s d h' x:=by
 unfold conv
 split <;> first
  | rfl
  | (rename_i id;rw[hh id (by simp[cO])])
  | (rename_i id i sz off;rw[hh id (by simp[cO])])
theorem pE{A:Ty}{x:AVal}(hh:∀i∈cO x,h i=h' i):gE h A x=gE h' A x:=by
 unfold gE
 split <;> first
  | rfl
  | (rename_i id;rw[hh id (by simp[cO])])
  | (rename_i id i sz off;rw[hh id (by simp[cO])])
theorem xA(β:Bool):∀(T:Ty) (x:T.den),bH (g9 β T x)=[]
 | .unit,_=>rfl
 | .prod a b,x=>by
  have h1:=xA β a x.1
  have h2:=xA β b x.2
  apply List.eq_nil_iff_forall_not_mem.2
  intro i hi
  simp only[g9,dJ,List.mem_append]at hi
  obtain⟨y,hy,hi⟩:=hi
  rcases hy with hy | hy
  ·have:i∈bH (g9 β a x.1):=dJ.2 ⟨y,hy,hi⟩
   rw[h1]at this;cases this
  ·have:i∈bH (g9 β b x.2):=dJ.2 ⟨y,hy,hi⟩
   rw[h2]at this;cases this
 | .int _,_=>rfl
 | .bool,_=>rfl
 | .str,_=>rfl
 | .flt,_=>rfl
 | .slice _,_=>rfl
 | .ptr _,_=>rfl
 | .tree _ _,_=>rfl
theorem aBC{cs new:List AVal}{p i:Nat}(hi:i∈bH (wr cs p new)):i∈bH cs∨i∈bH new:=by
 obtain⟨y,hy,hi⟩:=dJ.1 hi
 simp only[wr,List.mem_append]at hy
 rcases hy with(hy | hy) | hy
 ·exact .inl (dJ.2 ⟨y,List.mem_of_mem_take hy,hi⟩)
 ·exact .inr (dJ.2 ⟨y,hy,hi⟩)
 ·exact .inl (dJ.2 ⟨y,List.mem_of_mem_drop hy,hi⟩)
theorem E0{A:Ty}{xs:List A.den}{i off:Nat}{y:AVal}(hh:∀i∈cO y,h i=h' i):D8 A h xs i off y=D8 A h' xs i off y:=by
 unfold D8
 refine sZ fun j hj=> ?_
 simp only[cO]at hj
 rcases aBC hj with h1 | h1
 ·rw[xA]at h1;cases h1
 ·rw[tZ]at h1;exact hh j h1
theorem tQ{x:AVal}(hh:∀i∈cO x,h i=h' i):vG h x=vG h' x:=by
 cases x <;> try rfl
 rename_i id
 simp only[vG,hh id (by simp[cO])]
theorem mP:∀ {xs:List AVal},(∀i∈bH xs,h i=h' i)→oG h xs=oG h' xs
 | [],_=>rfl
 | x::xs,hh=>by
  simp only[oG,tQ (x:=x) (fun i hi=>hh i (by simp[bH,hi])),mP (xs:=xs) (fun i hi=>hh i (by simp[bH,hi]))]
def Clo(h h':Nat→Option Obj)(I:List Nat):Prop:=∀i∈I,h i=h' i∧∀cs,h i=some (.box cs)→∀j∈bH cs,h j=h' j
theorem t5{x:AVal}(hh:Clo h h' (cO x)):rP h x=rP h' x:=by
 have h0:∀i∈cO x,h i=h' i:=fun i hi=>(hh i hi).1
 cases x <;> try rfl
 ·simp only[rP,tQ h0]
 ·rename_i id i sz off
  simp only[rP]
  have h1:=hh id (by simp[cO])
  rw[←h1.1]
  cases he:h id with
  | none=>rfl
  | some ob =>
   cases ob with
   | box cs=>simp only[mP (xs:=cs) (h:=h) (h':=h') (h1.2 cs he)]
   | arr _ _ _=>rfl
   | fz _ _=>rfl
   | mpo _ _ _=>rfl
   | mpl _ _=>rfl
   | bytes _ _=>rfl
   | cutz _ _=>rfl
   | mat _ _ _ _ _=>rfl
 ·rename_i cs
  simp only[rP]
  rw[mP (xs:=cs) (h:=h) (h':=h') (fun i hi=>h0 i (by simpa [cO]using hi))]
theorem qW:∀ {xs:List AVal},Clo h h' (bH xs)→qE h xs=qE h' xs
 | [],_=>rfl
 | x::xs,hh=>by
  simp only[qE,t5 (x:=x) (fun i hi=>hh i (by simp[bH,hi])),qW (xs:=xs) (fun i hi=>hh i (by simp[bH,hi]))]
theorem uW{x:AVal}(hh:Clo h h' (cO x)):E7 h x=E7 h' x:=by
 cases x <;> try (simp only[E7];exact t5 hh)
 rename_i f cs
 simp only[E7]
 rw[qW (xs:=cs) (h:=h) (h':=h') (fun i hi=>hh i (by simpa [cO]using hi))]
theorem tU:∀ {xs:List AVal},Clo h h' (bH xs)→tP h xs=tP h' xs
 | [],_=>rfl
 | x::xs,hh=>by
  simp only[tP,uW (x:=x) (fun i hi=>hh i (by simp[bH,hi])),tU (xs:=xs) (fun i hi=>hh i (by simp[bH,hi]))]
theorem vB{g:List Nat}{i:Nat}(e:h i=h' i):less g h i=less g h' i:=by
 unfold less
 split
 ·rfl
 ·exact e
theorem vL{α β:Type}{l:List α}{f f':α→List β}(e:∀x∈l,f x=f' x):l.flatMap f=l.flatMap f':=by
 induction l with
 | nil=>rfl
 | cons x l ih=>simp only[List.flatMap_cons,e x (by simp),ih (fun y hy=>e y (by simp[hy]))]
theorem tO{g:List Nat}:∀ {xs:List AVal},Clo h h' (bH xs)→rX g h xs=rX g h' xs
 | [],_=>rfl
 | x::xs,hh=>by
  have e:yJ g h x=yJ g h' x:=by
   unfold yJ
   rw[uW (x:=x) (fun i hi=>hh i (by simp[bH,hi]))]
  simp only[rX,e,tO (xs:=xs) (fun i hi=>hh i (by simp[bH,hi]))]
theorem D6{g:List Nat}{h h':Nat→Option Obj}(hg:∀i∈g,h i=h' i):jI g h 0 g=jI g h' 0 g:=by
 have key:∀(l:List Nat) (k:Nat),(∀i∈l,i∈g)→jI g h k l=jI g h' k l:=fun l=>by
  induction l with
  | nil=>intro k _;rfl
  | cons x l ih =>
   intro k hl
   simp only[jI,hg x (hl x (by simp)),ih (k+1) (fun i hi=>hl i (by simp[hi]))]
 exact key g 0 fun _ h=>h
theorem K3{x:AVal}(hh:∀i∈cO x,h i=h' i):xL h x=xL h' x:=by
 cases x <;> try (simp only[xL];exact mR hh)
 rename_i cs
 simp only[xL]
 rw[oQ (xs:=cs) (h:=h) (h':=h') (fun i hi=>hh i (by simpa [cO]using hi))]
theorem qD:∀ {bs:List Bool} {xs:List AVal} {h h':Nat→Option Obj},(∀i∈bH xs,h i=h' i)→mK h bs xs=mK h' bs xs
 | _,[],_,_,_=>by simp only[mK]
 | [],_::_,_,_,_=>rfl
 | false::bs,x::xs,h,h',hh=>by
  simp only[mK,qD (bs:=bs) (xs:=xs) (h:=h) (h':=h') (fun i hi=>hh i (by simp[bH,hi]))]
 | true::bs,x::xs,h,h',hh=>by
  simp only[mK,K3 (x:=x) (h:=h) (h':=h') (fun i hi=>hh i (by simp[bH,hi]))]
  cases xL h' x with
  | none=>rfl
  | some p =>
   obtain⟨y,u⟩:=p
   simp only[qD (bs:=bs) (xs:=xs) (h:=apply u h) (h':=apply u h') (fun i hi=>fX (hh i (by simp[bH,hi])) u)]
def AllFz(u:iI):Prop:=∀p∈u,∃A xs,p.2=some (.fz A xs)
theorem AllFz.append{u v:iI}(hu:AllFz u)(hv:AllFz v):AllFz (u++v):=fun p hp=>(List.mem_append.1 hp).elim (hu p) (hv p)
theorem yF{x y:AVal}{u:iI}(hd:gM h x=some (y,u)):AllFz u∧∀i∈cO y,i∈cO x:=by
 unfold gM at hd
 split at hd
 ·split at hd
  ·cases hd;exact⟨fun p hp=>by simp at hp;subst hp;exact⟨_,_,rfl⟩,fun i hi=>by simp[cO]at hi⟩
  ·cases hd;exact⟨fun p hp=>by simp at hp,fun i hi=>by simp[cO]at hi⟩
  ·cases hd;exact⟨fun p hp=>by simp at hp;subst hp;exact⟨_,_,rfl⟩,fun i hi=>by simp[cO]at hi⟩
  ·cases hd;exact⟨fun p hp=>by simp at hp;subst hp;exact⟨_,_,rfl⟩,fun i hi=>by simp[cO]at hi⟩
  ·cases hd
 ·cases hd;exact⟨fun p hp=>by simp at hp,fun i hi=>hi⟩
theorem B4:∀ {xs ys:List AVal} {h:Nat→Option Obj} {u:iI},pN h xs=some (ys,u)→AllFz u∧∀i∈bH ys,i∈bH xs
 | [],ys,h,u,hd=>by cases hd;exact⟨fun p hp=>by simp at hp,fun i hi=>hi⟩
 | x::xs,ys,h,u,hd=>by
  simp only[pN]at hd
  split at hd
  ·rename_i y u1 h1
   split at hd
   ·rename_i ys' us h2
    cases hd
    obtain⟨q1,q2⟩:=yF h1
    obtain⟨r1,r2⟩:=B4 h2
    refine⟨q1.append r1,fun i hi=> ?_⟩
    simp only[bH,List.mem_append]at hi ⊢
    exact hi.imp (q2 i) (r2 i)
   ·cases hd
  ·cases hd
theorem aAv{x y:AVal}{u:iI}(hd:xL h x=some (y,u)):AllFz u∧∀i∈cO y,i∈cO x:=by
 unfold xL at hd
 split at hd
 ·split at hd
  ·rename_i ds u' h1
   cases hd
   obtain⟨q1,q2⟩:=B4 h1
   exact⟨q1,fun i hi=>by simp only[cO]at hi ⊢;exact q2 i hi⟩
  ·cases hd
 ·exact yF hd
theorem y6:∀ {bs:List Bool} {xs ys:List AVal} {h:Nat→Option Obj} {u:iI},mK h bs xs=some (ys,u)→AllFz u∧∀i∈bH ys,i∈bH xs
 | _,[],ys,h,u,hd=>by simp only[mK]at hd;cases hd;exact⟨fun p hp=>by simp at hp,fun i hi=>hi⟩
 | [],_::_,ys,h,u,hd=>by simp only[mK]at hd;cases hd;exact⟨fun p hp=>by simp at hp,fun i hi=>hi⟩
 | false::bs,x::xs,ys,h,u,hd=>by
  simp only[mK]at hd
  split at hd
  ·rename_i ys' u' h1
   cases hd
   obtain⟨q1,q2⟩:=y6 h1
   refine⟨q1,fun i hi=> ?_⟩
   simp only[bH,List.mem_append]at hi ⊢
   exact hi.imp (fun h=>h) (q2 i)
  ·cases hd
 | true::bs,x::xs,ys,h,u,hd=>by
  simp only[mK]at hd
  split at hd
  ·rename_i y u1 h1
   split at hd
   ·rename_i ys' us h2
    cases hd
    obtain⟨q1,q2⟩:=aAv h1
    obtain⟨r1,r2⟩:=y6 h2
    refine⟨q1.append r1,fun i hi=> ?_⟩
    simp only[bH,List.mem_append]at hi ⊢
    exact hi.imp (q2 i) (r2 i)
   ·cases hd
  ·cases hd
theorem zA{u:iI}(hu:AllFz u){i:Nat}{cs:List AVal}:∀ {h:Nat→Option Obj},apply u h i=some (.box cs)→h i=some (.box cs):=by
 induction u with
 | nil=>intro h hb;exact hb
 | cons p u ih =>
  intro h hb
  obtain⟨j,o⟩:=p
  have h1:=ih (fun q hq=>hu q (by simp[hq])) hb
  by_cases e:i=j
  ·subst e
   rw[aI]at h1
   obtain⟨A,xs,h2⟩:=hu (i,o) (by simp)
   simp only at h2
   rw[h1]at h2
   cases h2
  ·rw[aZ _ _ e]at h1;exact h1
theorem W3{xs:List AVal}(hh:∀i∈vF h xs,h i=h' i):Clo h h' (bH xs):=fun i hi =>
 ⟨hh i (List.mem_append_left _ hi),fun cs hc j hj=>hh j (List.mem_append_right _ (List.mem_flatMap.2 ⟨i,hi,by rw[hc];exact hj⟩))⟩
theorem uT{tb:Tab}{new:Nat}{t:TypeId}{x:AVal}{lo hi:Option (Option Int)}(hh:∀i∈cO x,h i=h' i):nG tb new t x lo hi h=nG tb new t x lo hi h':=by
 unfold nG
 split
 ·split
  ·split <;> first
    | rfl
    | (rename_i id;rw[hh id (by simp[cO])])
  ·rfl
 ·rfl
theorem xH{new:Nat}{ti:TI}{x:AVal}(hx:∀i∈cO x,h i=h' i)(ho:∀i∈cO x,∀e e2 A xss k j,h i=some (.mat e e2 A xss (some (k,j)))→h j=h' j):kM new ti x h=kM new ti x h':=by
 unfold kM
 cases x <;> try rfl
 rename_i id i sz off
 simp only
 have e1:=hx id (by simp[cO])
 have e2:=ho id (by simp[cO])
 rw[←e1]
 cases hm:h id with
 | none=>rfl
 | some ob =>
  cases ob with
  | mat e e2' A xss hole =>
   cases hole with
   | none=>rfl
   | some p =>
    obtain⟨k,j⟩:=p
    simp only[e2 _ _ _ _ _ _ hm]
  | _=>rfl
theorem wF{ti:TI}{x:AVal}(hx:∀i∈cO x,h i=h' i):lL ti x h=lL ti x h':=by
 unfold lL
 split
 ·rename_i id b n i k _
  have hid:=hx id (by simp[cO])
  rw[hid]
 ·rfl
theorem uB{ti:TI}{x y:AVal}(hx:∀i∈cO x,h i=h' i):j6 ti x y h=j6 ti x y h':=by
 unfold j6
 split
 ·rename_i id b n i _ k v
  have hid:=hx id (by simp[cO])
  rw[hid]
 ·rfl
theorem t9{tb:Tab}{t:TypeId}{x i:AVal}(hx:∀i∈cO x,h i=h' i):j4 tb t x i h=j4 tb t x i h':=by
 unfold j4
 cases tb.find t with
 | none=>rfl
 | some ti =>
  simp only
  split
  ·split
   ·split
    ·split
     ·rename_i id j sz off _ _ _
      rw[hx id (by simp[cO])]
     ·rfl
     ·rfl
    ·split
     ·split
      ·rename_i id j sz off _ _ _
       rw[hx id (by simp[cO])]
      ·rfl
     ·rfl
   ·rfl
  ·rfl
theorem pS{tb:Tab}{t:TypeId}{x i:AVal}(hx:∀i∈cO x,h i=h' i):hH tb t x i h=hH tb t x i h':=by
 unfold hH
 cases jE tb t with
 | none=>rfl
 | some q =>
  simp only
  split
  ·rw[C4 hx]
  ·rfl
theorem uA{P:Program}{tb:Tab}{t:TypeId}{x k:AVal}{ok:Bool}(hx:∀i∈cO x,h i=h' i):l3 P tb t x k ok h=l3 P tb t x k ok h':=by
 unfold l3
 split
 ·split
  ·rename_i id
   rw[hx id (by simp[cO])]
  ·rfl
 ·rfl
theorem sW{P:Program}{tb:Tab}{t:TypeId}{g:List Nat}{x k:AVal}{ok:Bool}(hx:∀i∈cO x,h i=h' i):j9 P tb t g x k ok h=j9 P tb t g x k ok h':=by
 unfold j9
 split
 ·split
  ·rename_i id
   rw[hx id (by simp[cO])]
  ·rfl
 ·rfl
theorem kE{P:Program}{tb:Tab}{t:TypeId}{x k y:AVal}(hx:∀i∈cO x,h i=h' i)(hy:∀i∈cO y,h i=h' i):fA P tb t x k y h=fA P tb t x k y h':=by
 unfold fA
 split
 ·split
  ·rename_i id
   rw[hx id (by simp[cO])]
   split
   ·split
    ·split
     ·rw[sZ hy]
     ·rfl
    ·rfl
   ·rfl
  ·rfl
 ·rfl
theorem jQ{P:Program}{tb:Tab}{t:TypeId}{x k y:AVal}(hx:∀i∈cO x,h i=h' i):eJ P tb t x k y h=eJ P tb t x k y h':=by
 unfold eJ
 split
 ·split
  ·rename_i id
   rw[hx id (by simp[cO])]
  ·rfl
 ·rfl
theorem yV{id i:Nat}{e e2:TypeId}{A:Ty}{xss:List (List A.den)}{hole:Option (Nat×Nat)}{y:AVal}(hy:∀i∈cO y,h i=h' i)(ho:∀k j,hole=some (k,j)→h j=h' j):sN id i e e2 A xss hole y h=sN id i e e2 A xss hole y h':=by
 unfold sN
 cases y <;> try rfl
 rename_i r
 simp only
 rw[←hy r (by simp[cO])]
 cases h r with
 | none=>rfl
 | some ob =>
  cases ob with
  | arr e3 B zs =>
   cases hole with
   | none=>rfl
   | some p =>
    obtain⟨k,j⟩:=p
    simp only[ho k j rfl]
  | _=>rfl
theorem wR{tb:Tab}{t:TypeId}{x y:AVal}(hx:∀i∈cO x,h i=h' i)(hy:∀i∈cO y,h i=h' i)(ho:∀i∈cO x,∀e e2 A xss k j,h i=some (.mat e e2 A xss (some (k,j)))→h j=h' j):nH tb t x y h=nH tb t x y h':=by
 unfold nH
 cases tb.find t with
 | none=>rfl
 | some ti =>
  simp only
  split
  ·cases x <;> try rfl
   case ada=>exact uB hx
   rename_i id i sz off
   simp only
   have hid:=hx id (by simp[cO])
   have hop:=ho id (by simp[cO])
   rw[←hid]
   cases hm:h id with
   | none=>rfl
   | some ob =>
    cases ob with
    | arr e A xs=>simp only[E0 (A:=A) (xs:=xs) (i:=i) (off:=off) hy]
    | fz _ _=>rfl
    | box _=>rfl
    | mpo _ _ _=>rfl
    | mpl _ _=>rfl
    | bytes _ _=>rfl
    | cutz _ _=>rfl
    | mat e e2 A xss hole=>simp only[yV (id:=id) (i:=i) (e:=e) (e2:=e2) (A:=A) (xss:=xss) (hole:=hole) hy (fun k j eh=>hop e e2 A xss k j (by rw[hm,eh]))]
  ·rfl
theorem uD{tb:Tab}{new:Nat}{t:TypeId}{x y:AVal}(hx:∀i∈cO x,h i=h' i)(hy:∀i∈cO y,h i=h' i):lU tb new t x y h=lU tb new t x y h':=by
 unfold lU
 cases jE tb t with
 | none=>rfl
 | some p =>
  obtain⟨e,te,A⟩:=p
  simp only[pE (A:=A) hy]
  cases gE h' A y with
  | none=>rfl
  | some ys =>
   simp only
   cases x <;> try rfl
   rename_i id
   simp only
   rw[hx id (by simp[cO])]
theorem xS{tb:Tab}{t:TypeId}{x y:AVal}(hx:∀i∈cO x,h i=h' i)(hy:∀i∈cO y,h i=h' i):rO tb t x y h=rO tb t x y h':=by
 unfold rO
 cases jE tb t with
 | none=>rfl
 | some p =>
  obtain⟨e,te,A⟩:=p
  simp only[pE (A:=A) hy]
  cases gE h' A y with
  | none=>rfl
  | some ys =>
   simp only
   cases x <;> try rfl
   rename_i id
   simp only
   rw[hx id (by simp[cO])]
end
def fM(s:Nat→AVal)(op:Op):List AVal:=op.operands.toList.map (ev s)
theorem gL{s:Nat→AVal}{op:Op}{x:Operand}(hx:x∈op.operands.toList):∀i∈cO (ev s x),i∈bH (fM s op):=fun _ hi =>
 dJ.2 ⟨ev s x,List.mem_map.2 ⟨x,hx,rfl⟩,hi⟩
def wU(h:Nat→Option Obj)(xs:List AVal):List Nat :=
 bH xs++(bH xs).flatMap fun i=>match h i with
  | some (.mat _ _ _ _ (some (_,j)))=>[j]
  | _=>[]
theorem wH{h:Nat→Option Obj}{xs:List AVal}{i:Nat}{e e2:TypeId}{A:Ty}{xss:List (List A.den)}{k j:Nat}(hi:i∈bH xs)(hm:h i=some (.mat e e2 A xss (some (k,j)))):j∈wU h xs :=
 List.mem_append_right _ (List.mem_flatMap.2 ⟨i,hi,by rw[hm];exact .head _⟩)
def kI(h:Nat→Option Obj)(op:Op)(xs:List AVal):List Nat :=
 match op with
 | .call _=>vF h xs
 | .load _ _=>wU h xs
 | .store _ _ _=>wU h xs
 | .move _=>[]
 | .assign _=>[]
 | .nilCheck _=>[]
 | .fieldAddr _ _ _=>[]
 | _=>bH xs
theorem xU{P:Program}{tb:Tab}{new:Nat}{asm:Option Bool}{orc:Option Orc}{op:Op}{s s':Nat→AVal}{h h':Nat→Option Obj}
  (hs:∀x∈op.operands.toList,ev s x=ev s' x) (hh:∀i∈kI h op (fM s op),h i=h' i):mX P tb new asm orc op s h=mX P tb new asm orc op s' h':=by
 by_cases hmv:(∃x,op = .move x)∨(∃x,op = .assign x)∨(∃x,op = .nilCheck x)∨∃t x f,op = .fieldAddr t x f
 ·rcases hmv with⟨x,rfl⟩ | ⟨x,rfl⟩ | ⟨x,rfl⟩ | ⟨t,x,f,rfl⟩ <;> simp only[mX,hs x (by simp[Op.operands])]
 have hid:∀i∈bH (fM s op),h i=h' i:=fun i hi=>by
  refine hh i ?_
  unfold kI
  split
  ·exact List.mem_append_left _ hi
  ·exact List.mem_append_left _ hi
  ·exact List.mem_append_left _ hi
  ·rename_i x;exact absurd (.inl ⟨x,rfl⟩) hmv
  ·rename_i x;exact absurd (.inr (.inl ⟨x,rfl⟩)) hmv
  ·rename_i x;exact absurd (.inr (.inr (.inl ⟨x,rfl⟩))) hmv
  ·rename_i t x f;exact absurd (.inr (.inr (.inr ⟨t,x,f,rfl⟩))) hmv
  ·exact hi
 have key:∀x∈op.operands.toList,∀i∈cO (ev s x),h i=h' i:=fun x hx i hi=>hid i (gL hx i hi)
 cases op with
 | move x=>simp only[mX,hs x (by simp[Op.operands])]
 | assign x=>simp only[mX,hs x (by simp[Op.operands])]
 | pick c x y =>
  have e:∀b:Bool,ev s (if b=true then x else y)=ev s' (if b=true then x else y):=fun b=>by
   cases b
   ·exact hs y (by simp[Op.operands])
   ·exact hs x (by simp[Op.operands])
  simp only[mX,y4,hs c (by simp[Op.operands]),e,hs x (by simp[Op.operands]),hs y (by simp[Op.operands])]
 | alloc t=>rfl
 | box t x=>simp only[mX,hs x (by simp[Op.operands])]
 | build t ps =>
  simp only[mX]
  have e:ps.toList.map (fun p=>ev s p.2)=ps.toList.map (fun p=>ev s' p.2):=List.map_congr_left (fun p hp=>hs p.2 (by simp only[Op.operands,List.mem_map];exact⟨p,hp,rfl⟩))
  rw[e]
 | buildSlice t len ps =>
  simp only[mX]
  have e:ps.toList.map (fun p=>ev s p.2)=ps.toList.map (fun p=>ev s' p.2):=List.map_congr_left (fun p hp=>hs p.2 (by simp only[Op.operands,List.mem_map];exact⟨p,hp,rfl⟩))
  rw[←e]
  unfold lB
  cases jE tb t with
  | none=>rfl
  | some q =>
   obtain⟨e,te,A⟩:=q
   simp only
   split
   ·rw[vC (A:=A) (fun i hi=>by
     obtain⟨y,hy,hi⟩:=dJ.1 hi
     obtain⟨p,hp,rfl⟩:=List.mem_map.1 hy
     exact key p.2 (by simp only[Op.operands,List.mem_map];exact⟨p,hp,rfl⟩) i hi)]
   ·rfl
 | load t x =>
  simp only[mX,←hs x (by simp[Op.operands])]
  have hx:=key x (by simp[Op.operands])
  have e2:∀ti,kM new ti (ev s x) h=kM new ti (ev s x) h':=fun ti=>xH hx (fun i hi e e2 A xss k j hm=>hh j (wH (gL (by simp[Op.operands]) i hi) hm))
  unfold zP
  simp only[xO hx,wF hx,e2]
 | store t x y =>
  simp only[mX,←hs x (by simp[Op.operands]),←hs y (by simp[Op.operands])]
  exact wR (key x (by simp[Op.operands])) (key y (by simp[Op.operands])) (fun i hi e e2 A xss k j hm=>hh j (wH (gL (by simp[Op.operands]) i hi) hm))
 | binOp o t x y t'=>simp only[mX,hs x (by simp[Op.operands]),hs y (by simp[Op.operands])]
 | unOp o t x=>simp only[mX,hs x (by simp[Op.operands])]
 | nilCheck x=>simp only[mX,hs x (by simp[Op.operands])]
 | convert st dt x =>
  simp only[mX,←hs x (by simp[Op.operands])]
  cases orc with
  | some _=>rfl
  | none=> ?_
  simp only
  unfold zH
  cases tb.find st with
  | none=>rfl
  | some si =>
   cases tb.find dt with
   | none=>rfl
   | some di =>
    simp only
    cases X8 tb di.k (ev s x)with
    | some r=>rfl
    | none=>simp only[H1 (s:=si.k) (d:=di.k) (key x (by simp[Op.operands]))]
 | slice t x lo hi mx =>
  cases mx with
  | some mo =>
   cases hi with
   | none=>rfl
   | some hio =>
    have e1:pA s lo=pA s' lo:=by
     cases lo with
     | none=>rfl
     | some y=>simp only[pA,hs y (by simp[Op.operands])]
    simp only[mX,←hs x (by simp[Op.operands]),←hs hio (by simp[Op.operands]),←hs mo (by simp[Op.operands]),←e1]
    have hx:=key x (by simp[Op.operands])
    cases orc with
    | some _ =>
     simp only
     unfold K4
     rw[mR hx]
    | none=> ?_
    simp only
    unfold sT
    split
    ·split
     ·rfl
     ·rename_i id ex
      rw[hx id (by rw[ex];simp[cO])]
     ·rfl
    ·rfl
  | none =>
   have e1:pA s lo=pA s' lo:=by
    cases lo with
    | none=>rfl
    | some y=>simp only[pA,hs y (by simp[Op.operands])]
   have e2:pA s hi=pA s' hi:=by
    cases hi with
    | none=>rfl
    | some y=>simp only[pA,hs y (by simp[Op.operands])]
   simp only[mX,←hs x (by simp[Op.operands]),←e1,←e2]
   exact uT (key x (by simp[Op.operands]))
 | fieldAddr t x f=>simp only[mX,hs x (by simp[Op.operands])]
 | indexAddr t x i =>
  simp only[mX,←hs x (by simp[Op.operands]),←hs i (by simp[Op.operands])]
  simp only[t9 (key x (by simp[Op.operands])),pS (key x (by simp[Op.operands]))]
 | index t x i=>simp only[mX,hs x (by simp[Op.operands]),hs i (by simp[Op.operands])]
 | extract x i=>simp only[mX,hs x (by simp[Op.operands])]
 | typeAssert x xt t ok=>simp only[mX,hs x (by simp[Op.operands])]
 | makeFunc f fs cs =>
  simp only[mX]
  rw[List.map_congr_left (f:=ev s) (g:=ev s') (fun p hp=>hs p (by simp only[Op.operands,Array.toList_append,List.mem_append];exact .inr hp))]
 | makeSlice t l c=>simp only[mX,hs l (by simp[Op.operands]),hs c (by simp[Op.operands])]
 | call c =>
  obtain⟨callee,args,tys⟩:=c
  have hargs:∀x∈args.toList,x∈(Op.call { callee,args,argTypes:=tys }).operands.toList:=fun x hx=>by
   simp only[Op.operands,Call.operands,Array.toList_append,List.mem_append];exact .inr hx
  have e:args.toList.map (ev s)=args.toList.map (ev s'):=List.map_congr_left (fun p hp=>hs p (hargs p hp))
  have hk:∀y∈args.toList.map (ev s),∀i∈cO y,h i=h' i:=fun y hy i hi=>by
   obtain⟨p,hp,rfl⟩:=List.mem_map.1 hy
   exact key p (hargs p hp) i hi
  have hc:=W3 (h':=h') (xs:=fM s (Op.call { callee,args,argTypes:=tys })) hh
  simp only[mX,oY]
  cases callee with
  | builtin b =>
   simp only[←e]
   unfold qL
   split
   ·rename_i y t ey et
    split
    ·unfold sU
     split
     ·split
      ·rename_i id _ _
       rw[hk (.mp id) (by rw[ey];simp) id (by simp[cO])]
      ·rfl
     ·rfl
    ·unfold I1
     rw[A7 (hk y (by rw[ey];simp))]
   ·rfl
   ·rfl
   ·rename_i y z t t' ey et
    split
    ·exact uD (hk y (by rw[ey];simp)) (hk z (by rw[ey];simp))
    ·rfl
   ·rename_i y z t t' ey et
    exact xS (hk y (by rw[ey];simp)) (hk z (by rw[ey];simp))
   ·rfl
  | value f =>
   have hf:f∈(Op.call { callee:= .value f,args,argTypes:=tys }).operands.toList:=by simp[Op.operands,Call.operands]
   simp only[←e,←hs f hf]
   generalize hxs:hZ tb (aBK orc) tys.toList (args.toList.map (ev s))=xs
   have hxi:∀i∈bH xs,i∈bH (args.toList.map (ev s)):=fun i hi=>by rw[←hxs,pY]at hi;exact hi
   unfold uM
   split
   ·rename_i fid caps q ef
    have hin:∀i∈bH (z7 (ev s f)::xs),i∈bH (fM s (Op.call { callee:= .value f,args,argTypes:=tys })):=fun i hi=>by
     simp only[bH,List.mem_append]at hi
     rcases hi with hi | hi
     ·exact gL hf i (B0 i hi)
     ·obtain⟨y,hy,hi'⟩:=dJ.1 (hxi i hi)
      obtain⟨p,hp,rfl⟩:=List.mem_map.1 hy
      exact gL (hargs p hp) i hi'
    rw[qD (bs:=q.fl) (h:=h) (h':=h') (fun i hi=>by
     obtain⟨y,hy,hi'⟩:=dJ.1 (hxi i hi)
     exact hk y hy i hi')]
    cases hfz:mK h' q.fl xs with
    | none=>rfl
    | some p =>
     obtain⟨ys,u⟩:=p
     obtain⟨z1,z2⟩:=y6 hfz
     have hclo:Clo (apply u h) (apply u h') (bH (ys++caps)):=fun i hi=>by
      have hi2:i∈bH (fM s (Op.call { callee:= .value f,args,argTypes:=tys })):=by
       obtain⟨y,hy,hi'⟩:=dJ.1 hi
       rcases List.mem_append.1 hy with hy | hy
       ·obtain⟨y2,hy2,hi2⟩:=dJ.1 (hxi i (z2 i (dJ.2 ⟨y,hy,hi'⟩)))
        obtain⟨p,hp,rfl⟩:=List.mem_map.1 hy2
        exact gL (hargs p hp) i hi2
       ·refine gL hf i (B0 i ?_)
        rw[ef]
        simp only[cO]
        exact dJ.2 ⟨y,hy,hi'⟩
      obtain⟨c1,c2⟩:=hc i hi2
      exact⟨fX c1 u,fun cs hcs j hj=>fX (c2 cs (zA z1 hcs) j hj) u⟩
     simp only
     split
     ·have hfoot:vF h (z7 (ev s f)::xs)=vF h' (z7 (ev s f)::xs):=by
       unfold vF
       congr 1
       refine vL fun i hi=> ?_
       rw[(hc i (hin i hi)).1]
      rw[hfoot]
      split
      ·rename_i hg
       have hgi:∀i∈q.g,h i=h' i:=fun i hi=>by
        have:=List.all_eq_true.1 hg i hi
        rw[←hfoot]at this
        simp only[List.contains_eq_mem,decide_eq_true_eq]at this
        unfold vF at this
        rcases List.mem_append.1 this with h1 | h1
        ·exact(hc i (hin i h1)).1
        ·obtain⟨j,hj,hj'⟩:=List.mem_flatMap.1 h1
         split at hj'
         ·rename_i cs hcs
          exact(hc j (hin j hj)).2 cs hcs i hj'
         ·cases hj'
       rw[D6 (g:=q.g) (h:=apply u h) (h':=apply u h') (fun i hi=>fX (hgi i hi) u),
        tO (g:=q.g) (h:=less q.g (apply u h)) (h':=less q.g (apply u h')) (fun i hi=>⟨vB (hclo i hi).1,fun cs hcs j hj=>vB ((hclo i hi).2 cs (rY hcs).1 j hj)⟩)]
      ·rfl
     ·rw[tU (h:=apply u h) (h':=apply u h') hclo]
   ·rfl
  | invoke r m=>rfl
 | makeMap t r=>cases r <;> rfl
 | lookup t x k ok =>
  simp only[mX,←hs x (by simp[Op.operands]),←hs k (by simp[Op.operands])]
  rw[uA (key x (by simp[Op.operands])),sW (key x (by simp[Op.operands]))]
 | mapUpdate t x k y =>
  simp only[mX,←hs x (by simp[Op.operands]),←hs k (by simp[Op.operands]),←hs y (by simp[Op.operands])]
  rw[kE (key x (by simp[Op.operands])) (key y (by simp[Op.operands])),jQ (key x (by simp[Op.operands]))]
 | insert t x k y =>
  simp only[mX,←hs x (by simp[Op.operands]),←hs k (by simp[Op.operands]),←hs y (by simp[Op.operands])]
  rw[kE (key x (by simp[Op.operands])) (key y (by simp[Op.operands])),jQ (key x (by simp[Op.operands]))]
 | _=>rfl
end Go.Tv
