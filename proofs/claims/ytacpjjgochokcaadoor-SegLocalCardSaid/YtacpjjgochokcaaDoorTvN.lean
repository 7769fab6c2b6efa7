/- What an operation's outcome hangs on. -/
import Derived.Test.YtacpjjgochokcaaDoorTvM
namespace Go.Tv
open Go Go.RowKit
theorem gL{h h':Nat→Option Obj}{i:Nat}(e:h i=h' i):∀(u:j6),apply u h i=apply u h' i:=fun u=>by
 induction u generalizing h h' with
 | nil=>exact e
 | cons p u ih =>
  obtain⟨j,o⟩:=p
  simp only[apply]
  refine ih ?_
  by_cases hj:i=j
  ·subst hj;rw[aM,aM]
  ·rw[bG _ _ hj,bG _ _ hj];exact e
section
variable{h h':Nat→Option Obj}
theorem tO{x:AVal}(hh:∀i∈cQ x,h i=h' i):jK h x=jK h' x:=by
 cases x <;> try rfl
 rename_i id
 simp only[jK,hh id (by simp[cQ])]
theorem qB:∀ {xs:List AVal} {h h':Nat→Option Obj},(∀i∈bH xs,h i=h' i)→q7 h xs=q7 h' xs
 | [],_,_,_=>rfl
 | x::xs,h,h',hh=>by
  simp only[q7,tO (x:=x) (fun i hi=>hh i (by simp[bH,hi]))]
  cases hd:jK h' x with
  | none=>rfl
  | some p =>
   obtain⟨y,u⟩:=p
   simp only[qB (xs:=xs) (h:=apply u h) (h':=apply u h') (fun i hi=>gL (hh i (by simp[bH,hi])) u)]
theorem vA{x:AVal}:bH (cellsOf x)=cQ x:=by
 cases x <;> simp[cellsOf,bH,cQ]
theorem Z6{T:Ty}{x:AVal}(hh:∀i∈cQ x,h i=h' i):aB3 T h x=aB3 T h' x:=by
 unfold aB3
 rw[qB (xs:=cellsOf x) (by rw[vA];exact hh)]
theorem uC{T:Ty}{x:AVal}(hh:∀i∈cQ x,h i=h' i):toT T h x=toT T h' x:=by
 unfold toT
 split
 ·rename_i id i sz off
  rw[hh id (by simp[cQ])]
 ·exact Z6 hh
theorem yJ{A:Ty}:∀ {xs:List AVal} {h h':Nat→Option Obj},(∀i∈bH xs,h i=h' i)→Q3 A h xs=Q3 A h' xs
 | [],_,_,_=>rfl
 | x::xs,h,h',hh=>by
  simp only[Q3,uC (x:=x) (T:=A) (fun i hi=>hh i (by simp[bH,hi]))]
  cases hd:toT A h' x with
  | none=>rfl
  | some p =>
   obtain⟨y,u⟩:=p
   simp only[yJ (xs:=xs) (h:=apply u h) (h':=apply u h') (fun i hi=>gL (hh i (by simp[bH,hi])) u)]
theorem C0{x:AVal}(hh:∀i∈cQ x,h i=h' i):mS h x=mS h' x:=by
 unfold mS
 split <;> first
  | rfl
  | (rename_i id;rw[hh id (by simp[cQ])])
  | (rename_i id i sz off;rw[hh id (by simp[cQ])])
theorem O7{x:AVal}{i:Int}(hh:∀i∈cQ x,h i=h' i):E4 h x i=E4 h' x i:=by
 unfold E4
 split <;> first
  | rfl
  | (rename_i id;rw[hh id (by simp[cQ])])
  | (rename_i id i sz off;rw[hh id (by simp[cQ])])
theorem Q1{x:AVal}(hh:∀i∈cQ x,h i=h' i):lenOf h x=lenOf h' x:=by
 unfold lenOf
 split <;> first
  | rfl
  | (rename_i id;rw[hh id (by simp[cQ])])
  | (rename_i id i sz off;rw[hh id (by simp[cQ])])
theorem Z0{s d:TK}{x:AVal}(hh:∀i∈cQ x,h i=h' i):conv s d h x=conv s d h' x:=by
 unfold conv
 split <;> first
  | rfl
  | (rename_i id;rw[hh id (by simp[cQ])])
  | (rename_i id i sz off;rw[hh id (by simp[cQ])])
theorem rI{A:Ty}{x:AVal}(hh:∀i∈cQ x,h i=h' i):jM h A x=jM h' A x:=by
 unfold jM
 split <;> first
  | rfl
  | (rename_i id;rw[hh id (by simp[cQ])])
  | (rename_i id i sz off;rw[hh id (by simp[cQ])])
theorem xI(β:Bool):∀(T:Ty) (x:T.den),bH (i6 β T x)=[]
 | .unit,_=>rfl
 | .prod a b,x=>by
  have h1:=xI β a x.1
  have h2:=xI β b x.2
  apply List.eq_nil_iff_forall_not_mem.2
  intro i hi
  simp only[i6,dY,List.mem_append]at hi
  obtain⟨y,hy,hi⟩:=hi
  rcases hy with hy | hy
  ·have:i∈bH (i6 β a x.1):=dY.2 ⟨y,hy,hi⟩
   rw[h1]at this;cases this
  ·have:i∈bH (i6 β b x.2):=dY.2 ⟨y,hy,hi⟩
   rw[h2]at this;cases this
 | .int _,_=>rfl
 | .bool,_=>rfl
 | .str,_=>rfl
 | .flt,_=>rfl
 | .slice _,_=>rfl
 | .ptr _,_=>rfl
 | .tree _ _,_=>rfl
theorem aFy{cs new:List AVal}{p i:Nat}(hi:i∈bH (wr cs p new)):i∈bH cs∨i∈bH new:=by
 obtain⟨y,hy,hi⟩:=dY.1 hi
 simp only[wr,List.mem_append]at hy
 rcases hy with(hy | hy) | hy
 ·exact .inl (dY.2 ⟨y,List.mem_of_mem_take hy,hi⟩)
 ·exact .inr (dY.2 ⟨y,hy,hi⟩)
 ·exact .inl (dY.2 ⟨y,List.mem_of_mem_drop hy,hi⟩)
theorem S7{A:Ty}{xs:List A.den}{i off:Nat}{y:AVal}(hh:∀i∈cQ y,h i=h' i):U7 A h xs i off y=U7 A h' xs i off y:=by
 unfold U7
 refine uC fun j hj=> ?_
 simp only[cQ]at hj
 rcases aFy hj with h1 | h1
 ·rw[xI]at h1;cases h1
 ·rw[vA]at h1;exact hh j h1
theorem wB{x:AVal}(hh:∀i∈cQ x,h i=h' i):xZ h x=xZ h' x:=by
 cases x <;> try rfl
 rename_i id
 simp only[xZ,hh id (by simp[cQ])]
theorem nW:∀ {xs:List AVal},(∀i∈bH xs,h i=h' i)→oU h xs=oU h' xs
 | [],_=>rfl
 | x::xs,hh=>by
  simp only[oU,wB (x:=x) (fun i hi=>hh i (by simp[bH,hi])),nW (xs:=xs) (fun i hi=>hh i (by simp[bH,hi]))]
def Clo(h h':Nat→Option Obj)(I:List Nat):Prop:=∀i∈I,h i=h' i∧∀cs,h i=some (.box cs)→∀j∈bH cs,h j=h' j
theorem vL{x:AVal}(hh:Clo h h' (cQ x)):tG h x=tG h' x:=by
 have h0:∀i∈cQ x,h i=h' i:=fun i hi=>(hh i hi).1
 cases x <;> try rfl
 ·simp only[tG,wB h0]
 ·rename_i id i sz off
  simp only[tG]
  have h1:=hh id (by simp[cQ])
  rw[←h1.1]
  cases he:h id with
  | none=>rfl
  | some ob =>
   cases ob with
   | box cs=>simp only[nW (xs:=cs) (h:=h) (h':=h') (h1.2 cs he)]
   | arr _ _ _=>rfl
   | fz _ _=>rfl
   | mpo _ _ _=>rfl
   | mpl _ _=>rfl
   | mat _ _ _ _ _=>rfl
 ·rename_i cs
  simp only[tG]
  rw[nW (xs:=cs) (h:=h) (h':=h') (fun i hi=>h0 i (by simpa [cQ]using hi))]
theorem tZ:∀ {xs:List AVal},Clo h h' (bH xs)→sC h xs=sC h' xs
 | [],_=>rfl
 | x::xs,hh=>by
  simp only[sC,vL (x:=x) (fun i hi=>hh i (by simp[bH,hi])),tZ (xs:=xs) (fun i hi=>hh i (by simp[bH,hi]))]
theorem yZ{x:AVal}(hh:Clo h h' (cQ x)):O6 h x=O6 h' x:=by
 cases x <;> try (simp only[O6];exact vL hh)
 rename_i f cs
 simp only[O6]
 rw[tZ (xs:=cs) (h:=h) (h':=h') (fun i hi=>hh i (by simpa [cQ]using hi))]
theorem vV:∀ {xs:List AVal},Clo h h' (bH xs)→vS h xs=vS h' xs
 | [],_=>rfl
 | x::xs,hh=>by
  simp only[vS,yZ (x:=x) (fun i hi=>hh i (by simp[bH,hi])),vV (xs:=xs) (fun i hi=>hh i (by simp[bH,hi]))]
theorem xV{g:List Nat}{i:Nat}(e:h i=h' i):less g h i=less g h' i:=by
 unfold less
 split
 ·rfl
 ·exact e
theorem zR{α β:Type}{l:List α}{f f':α→List β}(e:∀x∈l,f x=f' x):l.flatMap f=l.flatMap f':=by
 induction l with
 | nil=>rfl
 | cons x l ih=>simp only[List.flatMap_cons,e x (by simp),ih (fun y hy=>e y (by simp[hy]))]
theorem vN{g:List Nat}:∀ {xs:List AVal},Clo h h' (bH xs)→tD g h xs=tD g h' xs
 | [],_=>rfl
 | x::xs,hh=>by
  have e:G0 g h x=G0 g h' x:=by
   unfold G0
   rw[yZ (x:=x) (fun i hi=>hh i (by simp[bH,hi]))]
  simp only[tD,e,vN (xs:=xs) (fun i hi=>hh i (by simp[bH,hi]))]
theorem R9{g:List Nat}{h h':Nat→Option Obj}(hg:∀i∈g,h i=h' i):kG g h 0 g=kG g h' 0 g:=by
 have key:∀(l:List Nat) (k:Nat),(∀i∈l,i∈g)→kG g h k l=kG g h' k l:=fun l=>by
  induction l with
  | nil=>intro k _;rfl
  | cons x l ih =>
   intro k hl
   simp only[kG,hg x (hl x (by simp)),ih (k+1) (fun i hi=>hl i (by simp[hi]))]
 exact key g 0 fun _ h=>h
theorem aAp{x:AVal}(hh:∀i∈cQ x,h i=h' i):C1 h x=C1 h' x:=by
 cases x <;> try (simp only[C1];exact tO hh)
 rename_i cs
 simp only[C1]
 rw[qB (xs:=cs) (h:=h) (h':=h') (fun i hi=>hh i (by simpa [cQ]using hi))]
theorem sE:∀ {bs:List Bool} {xs:List AVal} {h h':Nat→Option Obj},(∀i∈bH xs,h i=h' i)→nS h bs xs=nS h' bs xs
 | _,[],_,_,_=>by simp only[nS]
 | [],_::_,_,_,_=>rfl
 | false::bs,x::xs,h,h',hh=>by
  simp only[nS,sE (bs:=bs) (xs:=xs) (h:=h) (h':=h') (fun i hi=>hh i (by simp[bH,hi]))]
 | true::bs,x::xs,h,h',hh=>by
  simp only[nS,aAp (x:=x) (h:=h) (h':=h') (fun i hi=>hh i (by simp[bH,hi]))]
  cases C1 h' x with
  | none=>rfl
  | some p =>
   obtain⟨y,u⟩:=p
   simp only[sE (bs:=bs) (xs:=xs) (h:=apply u h) (h':=apply u h') (fun i hi=>gL (hh i (by simp[bH,hi])) u)]
def AllFz(u:j6):Prop:=∀p∈u,∃A xs,p.2=some (.fz A xs)
theorem AllFz.append{u v:j6}(hu:AllFz u)(hv:AllFz v):AllFz (u++v):=fun p hp=>(List.mem_append.1 hp).elim (hu p) (hv p)
theorem E1{x y:AVal}{u:j6}(hd:jK h x=some (y,u)):AllFz u∧∀i∈cQ y,i∈cQ x:=by
 unfold jK at hd
 split at hd
 ·split at hd
  ·cases hd;exact⟨fun p hp=>by simp at hp;subst hp;exact⟨_,_,rfl⟩,fun i hi=>by simp[cQ]at hi⟩
  ·cases hd;exact⟨fun p hp=>by simp at hp,fun i hi=>by simp[cQ]at hi⟩
  ·cases hd;exact⟨fun p hp=>by simp at hp;subst hp;exact⟨_,_,rfl⟩,fun i hi=>by simp[cQ]at hi⟩
  ·cases hd
 ·cases hd;exact⟨fun p hp=>by simp at hp,fun i hi=>hi⟩
theorem P1:∀ {xs ys:List AVal} {h:Nat→Option Obj} {u:j6},q7 h xs=some (ys,u)→AllFz u∧∀i∈bH ys,i∈bH xs
 | [],ys,h,u,hd=>by cases hd;exact⟨fun p hp=>by simp at hp,fun i hi=>hi⟩
 | x::xs,ys,h,u,hd=>by
  simp only[q7]at hd
  split at hd
  ·rename_i y u1 h1
   split at hd
   ·rename_i ys' us h2
    cases hd
    obtain⟨q1,q2⟩:=E1 h1
    obtain⟨r1,r2⟩:=P1 h2
    refine⟨q1.append r1,fun i hi=> ?_⟩
    simp only[bH,List.mem_append]at hi ⊢
    exact hi.imp (q2 i) (r2 i)
   ·cases hd
  ·cases hd
theorem aEF{x y:AVal}{u:j6}(hd:C1 h x=some (y,u)):AllFz u∧∀i∈cQ y,i∈cQ x:=by
 unfold C1 at hd
 split at hd
 ·split at hd
  ·rename_i ds u' h1
   cases hd
   obtain⟨q1,q2⟩:=P1 h1
   exact⟨q1,fun i hi=>by simp only[cQ]at hi ⊢;exact q2 i hi⟩
  ·cases hd
 ·exact E1 hd
theorem M6:∀ {bs:List Bool} {xs ys:List AVal} {h:Nat→Option Obj} {u:j6},nS h bs xs=some (ys,u)→AllFz u∧∀i∈bH ys,i∈bH xs
 | _,[],ys,h,u,hd=>by simp only[nS]at hd;cases hd;exact⟨fun p hp=>by simp at hp,fun i hi=>hi⟩
 | [],_::_,ys,h,u,hd=>by simp only[nS]at hd;cases hd;exact⟨fun p hp=>by simp at hp,fun i hi=>hi⟩
 | false::bs,x::xs,ys,h,u,hd=>by
  simp only[nS]at hd
  split at hd
  ·rename_i ys' u' h1
   cases hd
   obtain⟨q1,q2⟩:=M6 h1
   refine⟨q1,fun i hi=> ?_⟩
   simp only[bH,List.mem_append]at hi ⊢
   exact hi.imp (fun h=>h) (q2 i)
  ·cases hd
 | true::bs,x::xs,ys,h,u,hd=>by
  simp only[nS]at hd
  split at hd
  ·rename_i y u1 h1
   split at hd
   ·rename_i ys' us h2
    cases hd
    obtain⟨q1,q2⟩:=aEF h1
    obtain⟨r1,r2⟩:=M6 h2
    refine⟨q1.append r1,fun i hi=> ?_⟩
    simp only[bH,List.mem_append]at hi ⊢
    exact hi.imp (q2 i) (r2 i)
   ·cases hd
  ·cases hd
theorem L0{u:j6}(hu:AllFz u){i:Nat}{cs:List AVal}:∀ {h:Nat→Option Obj},apply u h i=some (.box cs)→h i=some (.box cs):=by
 induction u with
 | nil=>intro h hb;exact hb
 | cons p u ih =>
  intro h hb
  obtain⟨j,o⟩:=p
  have h1:=ih (fun q hq=>hu q (by simp[hq])) hb
  by_cases e:i=j
  ·subst e
   rw[aM]at h1
   obtain⟨A,xs,h2⟩:=hu (i,o) (by simp)
   simp only at h2
   rw[h1]at h2
   cases h2
  ·rw[bG _ _ e]at h1;exact h1
theorem aCP{xs:List AVal}(hh:∀i∈xX h xs,h i=h' i):Clo h h' (bH xs):=fun i hi =>
 ⟨hh i (List.mem_append_left _ hi),fun cs hc j hj=>hh j (List.mem_append_right _ (List.mem_flatMap.2 ⟨i,hi,by rw[hc];exact hj⟩))⟩
theorem yH{tb:Tab}{new:Nat}{t:TypeId}{x:AVal}{lo hi:Option (Option Int)}(hh:∀i∈cQ x,h i=h' i):pU tb new t x lo hi h=pU tb new t x lo hi h':=by
 unfold pU
 split
 ·split
  ·split <;> first
    | rfl
    | (rename_i id;rw[hh id (by simp[cQ])])
  ·rfl
 ·rfl
theorem A7{new:Nat}{ti:TI}{x:AVal}(hx:∀i∈cQ x,h i=h' i)(ho:∀i∈cQ x,∀e e2 A xss k j,h i=some (.mat e e2 A xss (some (k,j)))→h j=h' j):mK new ti x h=mK new ti x h':=by
 unfold mK
 cases x <;> try rfl
 rename_i id i sz off
 simp only
 have e1:=hx id (by simp[cQ])
 have e2:=ho id (by simp[cQ])
 rw[←e1]
 cases hm:h id with
 | none=>rfl
 | some ob =>
  cases ob with
  | mat e e2' A xss hole =>
   cases hole with
   | none=>rfl
   | some p =>
    obtain⟨k,j⟩:=p
    simp only[e2 _ _ _ _ _ _ hm]
  | _=>rfl
theorem zV{ti:TI}{x:AVal}(hx:∀i∈cQ x,h i=h' i):nD ti x h=nD ti x h':=by
 unfold nD
 split
 ·rename_i id b n i k _
  have hid:=hx id (by simp[cQ])
  rw[hid]
 ·rfl
theorem wG{ti:TI}{x y:AVal}(hx:∀i∈cQ x,h i=h' i):lQ ti x y h=lQ ti x y h':=by
 unfold lQ
 split
 ·rename_i id b n i _ k v
  have hid:=hx id (by simp[cQ])
  rw[hid]
 ·rfl
theorem wH{tb:Tab}{t:TypeId}{x i:AVal}(hx:∀i∈cQ x,h i=h' i):lR tb t x i h=lR tb t x i h':=by
 unfold lR
 cases tb.find t with
 | none=>rfl
 | some ti =>
  simp only
  split
  ·split
   ·split
    ·split
     ·rename_i id j sz off _ _ _
      rw[hx id (by simp[cQ])]
     ·rfl
     ·rfl
    ·split
     ·split
      ·rename_i id j sz off _ _ _
       rw[hx id (by simp[cQ])]
      ·rfl
     ·rfl
   ·rfl
  ·rfl
theorem rY{tb:Tab}{t:TypeId}{x i:AVal}(hx:∀i∈cQ x,h i=h' i):jD tb t x i h=jD tb t x i h':=by
 unfold jD
 cases kR tb t with
 | none=>rfl
 | some q =>
  simp only
  split
  ·rw[O7 hx]
  ·rfl
theorem wJ{P:Program}{tb:Tab}{t:TypeId}{x k:AVal}{ok:Bool}(hx:∀i∈cQ x,h i=h' i):nK P tb t x k ok h=nK P tb t x k ok h':=by
 unfold nK
 split
 ·split
  ·rename_i id
   rw[hx id (by simp[cQ])]
  ·rfl
 ·rfl
theorem uU{P:Program}{tb:Tab}{t:TypeId}{g:List Nat}{x k:AVal}{ok:Bool}(hx:∀i∈cQ x,h i=h' i):l0 P tb t g x k ok h=l0 P tb t g x k ok h':=by
 unfold l0
 split
 ·split
  ·rename_i id
   rw[hx id (by simp[cQ])]
  ·rfl
 ·rfl
theorem mB{P:Program}{tb:Tab}{t:TypeId}{x k y:AVal}(hx:∀i∈cQ x,h i=h' i)(hy:∀i∈cQ y,h i=h' i):fO P tb t x k y h=fO P tb t x k y h':=by
 unfold fO
 split
 ·split
  ·rename_i id
   rw[hx id (by simp[cQ])]
   split
   ·split
    ·split
     ·rw[uC hy]
     ·rfl
    ·rfl
   ·rfl
  ·rfl
 ·rfl
theorem kW{P:Program}{tb:Tab}{t:TypeId}{x k y:AVal}(hx:∀i∈cQ x,h i=h' i):eY P tb t x k y h=eY P tb t x k y h':=by
 unfold eY
 split
 ·split
  ·rename_i id
   rw[hx id (by simp[cQ])]
  ·rfl
 ·rfl
theorem K3{id i:Nat}{e e2:TypeId}{A:Ty}{xss:List (List A.den)}{hole:Option (Nat×Nat)}{y:AVal}(hy:∀i∈cQ y,h i=h' i)(ho:∀k j,hole=some (k,j)→h j=h' j):u6 id i e e2 A xss hole y h=u6 id i e e2 A xss hole y h':=by
 unfold u6
 cases y <;> try rfl
 rename_i r
 simp only
 rw[←hy r (by simp[cQ])]
 cases h r with
 | none=>rfl
 | some ob =>
  cases ob with
  | arr e3 B zs =>
   cases hole with
   | none=>rfl
   | some p =>
    obtain⟨k,j⟩:=p
    simp only[ho k j rfl]
  | _=>rfl
theorem xK{tb:Tab}{t:TypeId}{x y:AVal}(hx:∀i∈cQ x,h i=h' i)(hy:∀i∈cQ y,h i=h' i)(ho:∀i∈cQ x,∀e e2 A xss k j,h i=some (.mat e e2 A xss (some (k,j)))→h j=h' j):o5 tb t x y h=o5 tb t x y h':=by
 unfold o5
 cases tb.find t with
 | none=>rfl
 | some ti =>
  simp only
  split
  ·cases x <;> try rfl
   case ada=>exact wG hx
   rename_i id i sz off
   simp only
   have hid:=hx id (by simp[cQ])
   have hop:=ho id (by simp[cQ])
   rw[←hid]
   cases hm:h id with
   | none=>rfl
   | some ob =>
    cases ob with
    | arr e A xs=>simp only[S7 (A:=A) (xs:=xs) (i:=i) (off:=off) hy]
    | fz _ _=>rfl
    | box _=>rfl
    | mpo _ _ _=>rfl
    | mpl _ _=>rfl
    | mat e e2 A xss hole=>simp only[K3 (id:=id) (i:=i) (e:=e) (e2:=e2) (A:=A) (xss:=xss) (hole:=hole) hy (fun k j eh=>hop e e2 A xss k j (by rw[hm,eh]))]
  ·rfl
theorem wK{tb:Tab}{new:Nat}{t:TypeId}{x y:AVal}(hx:∀i∈cQ x,h i=h' i)(hy:∀i∈cQ y,h i=h' i):nG tb new t x y h=nG tb new t x y h':=by
 unfold nG
 cases kR tb t with
 | none=>rfl
 | some p =>
  obtain⟨e,te,A⟩:=p
  simp only[rI (A:=A) hy]
  cases jM h' A y with
  | none=>rfl
  | some ys =>
   simp only
   cases x <;> try rfl
   rename_i id
   simp only
   rw[hx id (by simp[cQ])]
theorem z9{tb:Tab}{t:TypeId}{x y:AVal}(hx:∀i∈cQ x,h i=h' i)(hy:∀i∈cQ y,h i=h' i):sN tb t x y h=sN tb t x y h':=by
 unfold sN
 cases kR tb t with
 | none=>rfl
 | some p =>
  obtain⟨e,te,A⟩:=p
  simp only[rI (A:=A) hy]
  cases jM h' A y with
  | none=>rfl
  | some ys =>
   simp only
   cases x <;> try rfl
   rename_i id
   simp only
   rw[hx id (by simp[cQ])]
end
def gA(s:Nat→AVal)(op:Op):List AVal:=op.operands.toList.map (ev s)
theorem iH{s:Nat→AVal}{op:Op}{x:Operand}(hx:x∈op.operands.toList):∀i∈cQ (ev s x),i∈bH (gA s op):=fun _ hi =>
 dY.2 ⟨ev s x,List.mem_map.2 ⟨x,hx,rfl⟩,hi⟩
def zX(h:Nat→Option Obj)(xs:List AVal):List Nat :=
 bH xs++(bH xs).flatMap fun i=>match h i with
  | some (.mat _ _ _ _ (some (_,j)))=>[j]
  | _=>[]
theorem x8{h:Nat→Option Obj}{xs:List AVal}{i:Nat}{e e2:TypeId}{A:Ty}{xss:List (List A.den)}{k j:Nat}(hi:i∈bH xs)(hm:h i=some (.mat e e2 A xss (some (k,j)))):j∈zX h xs :=
 List.mem_append_right _ (List.mem_flatMap.2 ⟨i,hi,by rw[hm];exact .head _⟩)
def lY(h:Nat→Option Obj)(op:Op)(xs:List AVal):List Nat :=
 match op with
 | .call _=>xX h xs
 | .load _ _=>zX h xs
 | .store _ _ _=>zX h xs
 | .move _=>[]
 | .assign _=>[]
 | .nilCheck _=>[]
 | .fieldAddr _ _ _=>[]
 | _=>bH xs
theorem E6{P:Program}{tb:Tab}{new:Nat}{asm:Option Bool}{orc:Option Orc}{op:Op}{s s':Nat→AVal}{h h':Nat→Option Obj}
  (hs:∀x∈op.operands.toList,ev s x=ev s' x) (hh:∀i∈lY h op (gA s op),h i=h' i):oJ P tb new asm orc op s h=oJ P tb new asm orc op s' h':=by
 by_cases hmv:(∃x,op = .move x)∨(∃x,op = .assign x)∨(∃x,op = .nilCheck x)∨∃t x f,op = .fieldAddr t x f
 ·rcases hmv with⟨x,rfl⟩ | ⟨x,rfl⟩ | ⟨x,rfl⟩ | ⟨t,x,f,rfl⟩ <;> simp only[oJ,hs x (by simp[Op.operands])]
 have hid:∀i∈bH (gA s op),h i=h' i:=fun i hi=>by
  refine hh i ?_
  unfold lY
  split
  ·exact List.mem_append_left _ hi
  ·exact List.mem_append_left _ hi
  ·exact List.mem_append_left _ hi
  ·rename_i x;exact absurd (.inl ⟨x,rfl⟩) hmv
  ·rename_i x;exact absurd (.inr (.inl ⟨x,rfl⟩)) hmv
  ·rename_i x;exact absurd (.inr (.inr (.inl ⟨x,rfl⟩))) hmv
  ·rename_i t x f;exact absurd (.inr (.inr (.inr ⟨t,x,f,rfl⟩))) hmv
  ·exact hi
 have key:∀x∈op.operands.toList,∀i∈cQ (ev s x),h i=h' i:=fun x hx i hi=>hid i (iH hx i hi)
 cases op with
 | move x=>simp only[oJ,hs x (by simp[Op.operands])]
 | assign x=>simp only[oJ,hs x (by simp[Op.operands])]
 | pick c x y =>
  have e:∀b:Bool,ev s (if b=true then x else y)=ev s' (if b=true then x else y):=fun b=>by
   cases b
   ·exact hs y (by simp[Op.operands])
   ·exact hs x (by simp[Op.operands])
  simp only[oJ,K6,hs c (by simp[Op.operands]),e,hs x (by simp[Op.operands]),hs y (by simp[Op.operands])]
 | alloc t=>rfl
 | box t x=>simp only[oJ,hs x (by simp[Op.operands])]
 | build t ps =>
  simp only[oJ]
  have e:ps.toList.map (fun p=>ev s p.2)=ps.toList.map (fun p=>ev s' p.2):=List.map_congr_left (fun p hp=>hs p.2 (by simp only[Op.operands,List.mem_map];exact⟨p,hp,rfl⟩))
  rw[e]
 | buildSlice t len ps =>
  simp only[oJ]
  have e:ps.toList.map (fun p=>ev s p.2)=ps.toList.map (fun p=>ev s' p.2):=List.map_congr_left (fun p hp=>hs p.2 (by simp only[Op.operands,List.mem_map];exact⟨p,hp,rfl⟩))
  rw[←e]
  unfold mZ
  cases kR tb t with
  | none=>rfl
  | some q =>
   obtain⟨e,te,A⟩:=q
   simp only
   split
   ·rw[yJ (A:=A) (fun i hi=>by
     obtain⟨y,hy,hi⟩:=dY.1 hi
     obtain⟨p,hp,rfl⟩:=List.mem_map.1 hy
     exact key p.2 (by simp only[Op.operands,List.mem_map];exact⟨p,hp,rfl⟩) i hi)]
   ·rfl
 | load t x =>
  simp only[oJ,←hs x (by simp[Op.operands])]
  have hx:=key x (by simp[Op.operands])
  have e2:∀ti,mK new ti (ev s x) h=mK new ti (ev s x) h':=fun ti=>A7 hx (fun i hi e e2 A xss k j hm=>hh j (x8 (iH (by simp[Op.operands]) i hi) hm))
  unfold I9
  simp only[C0 hx,zV hx,e2]
 | store t x y =>
  simp only[oJ,←hs x (by simp[Op.operands]),←hs y (by simp[Op.operands])]
  exact xK (key x (by simp[Op.operands])) (key y (by simp[Op.operands])) (fun i hi e e2 A xss k j hm=>hh j (x8 (iH (by simp[Op.operands]) i hi) hm))
 | binOp o t x y t'=>simp only[oJ,hs x (by simp[Op.operands]),hs y (by simp[Op.operands])]
 | unOp o t x=>simp only[oJ,hs x (by simp[Op.operands])]
 | nilCheck x=>simp only[oJ,hs x (by simp[Op.operands])]
 | convert st dt x =>
  simp only[oJ,←hs x (by simp[Op.operands])]
  unfold H7
  cases tb.find st with
  | none=>rfl
  | some si =>
   cases tb.find dt with
   | none=>rfl
   | some di =>
    simp only
    cases aCs tb di.k (ev s x)with
    | some r=>rfl
    | none=>simp only[Z0 (s:=si.k) (d:=di.k) (key x (by simp[Op.operands]))]
 | slice t x lo hi mx =>
  cases mx with
  | some mo =>
   cases hi with
   | none=>rfl
   | some hio =>
    have e1:tR s lo=tR s' lo:=by
     cases lo with
     | none=>rfl
     | some y=>simp only[tR,hs y (by simp[Op.operands])]
    simp only[oJ,←hs x (by simp[Op.operands]),←hs hio (by simp[Op.operands]),←hs mo (by simp[Op.operands]),←e1]
    have hx:=key x (by simp[Op.operands])
    unfold uH
    split
    ·split
     ·rfl
     ·rename_i id ex
      rw[hx id (by rw[ex];simp[cQ])]
     ·rfl
    ·rfl
  | none =>
   have e1:tR s lo=tR s' lo:=by
    cases lo with
    | none=>rfl
    | some y=>simp only[tR,hs y (by simp[Op.operands])]
   have e2:tR s hi=tR s' hi:=by
    cases hi with
    | none=>rfl
    | some y=>simp only[tR,hs y (by simp[Op.operands])]
   simp only[oJ,←hs x (by simp[Op.operands]),←e1,←e2]
   exact yH (key x (by simp[Op.operands]))
 | fieldAddr t x f=>simp only[oJ,hs x (by simp[Op.operands])]
 | indexAddr t x i =>
  simp only[oJ,←hs x (by simp[Op.operands]),←hs i (by simp[Op.operands])]
  simp only[wH (key x (by simp[Op.operands])),rY (key x (by simp[Op.operands]))]
 | index t x i=>simp only[oJ,hs x (by simp[Op.operands]),hs i (by simp[Op.operands])]
 | extract x i=>simp only[oJ,hs x (by simp[Op.operands])]
 | typeAssert x xt t ok=>simp only[oJ,hs x (by simp[Op.operands])]
 | makeFunc f fs cs =>
  simp only[oJ]
  rw[List.map_congr_left (f:=ev s) (g:=ev s') (fun p hp=>hs p (by simp only[Op.operands,Array.toList_append,List.mem_append];exact .inr hp))]
 | makeSlice t l c=>simp only[oJ,hs l (by simp[Op.operands]),hs c (by simp[Op.operands])]
 | call c =>
  obtain⟨callee,args,tys⟩:=c
  have hargs:∀x∈args.toList,x∈(Op.call { callee,args,argTypes:=tys }).operands.toList:=fun x hx=>by
   simp only[Op.operands,Call.operands,Array.toList_append,List.mem_append];exact .inr hx
  have e:args.toList.map (ev s)=args.toList.map (ev s'):=List.map_congr_left (fun p hp=>hs p (hargs p hp))
  have hk:∀y∈args.toList.map (ev s),∀i∈cQ y,h i=h' i:=fun y hy i hi=>by
   obtain⟨p,hp,rfl⟩:=List.mem_map.1 hy
   exact key p (hargs p hp) i hi
  have hc:=aCP (h':=h') (xs:=gA s (Op.call { callee,args,argTypes:=tys })) hh
  simp only[oJ,qQ]
  cases callee with
  | builtin b =>
   simp only[←e]
   unfold rP
   split
   ·rename_i y t ey et
    split
    ·unfold uG
     split
     ·split
      ·rename_i id _ _
       rw[hk (.mp id) (by rw[ey];simp) id (by simp[cQ])]
      ·rfl
     ·rfl
    ·unfold aAt
     rw[Q1 (hk y (by rw[ey];simp))]
   ·rfl
   ·rfl
   ·rename_i y z t t' ey et
    split
    ·exact wK (hk y (by rw[ey];simp)) (hk z (by rw[ey];simp))
    ·rfl
   ·rename_i y z t t' ey et
    exact z9 (hk y (by rw[ey];simp)) (hk z (by rw[ey];simp))
   ·rfl
  | value f =>
   have hf:f∈(Op.call { callee:= .value f,args,argTypes:=tys }).operands.toList:=by simp[Op.operands,Call.operands]
   simp only[←e,←hs f hf]
   generalize hxs:jI tb (aGK orc) tys.toList (args.toList.map (ev s))=xs
   have hxi:∀i∈bH xs,i∈bH (args.toList.map (ev s)):=fun i hi=>by rw[←hxs,sK]at hi;exact hi
   unfold wV
   split
   ·rename_i fid caps q ef
    have hin:∀i∈bH (W1 (ev s f)::xs),i∈bH (gA s (Op.call { callee:= .value f,args,argTypes:=tys })):=fun i hi=>by
     simp only[bH,List.mem_append]at hi
     rcases hi with hi | hi
     ·exact iH hf i (S6 i hi)
     ·obtain⟨y,hy,hi'⟩:=dY.1 (hxi i hi)
      obtain⟨p,hp,rfl⟩:=List.mem_map.1 hy
      exact iH (hargs p hp) i hi'
    rw[sE (bs:=q.fl) (h:=h) (h':=h') (fun i hi=>by
     obtain⟨y,hy,hi'⟩:=dY.1 (hxi i hi)
     exact hk y hy i hi')]
    cases hfz:nS h' q.fl xs with
    | none=>rfl
    | some p =>
     obtain⟨ys,u⟩:=p
     obtain⟨z1,z2⟩:=M6 hfz
     have hclo:Clo (apply u h) (apply u h') (bH (ys++caps)):=fun i hi=>by
      have hi2:i∈bH (gA s (Op.call { callee:= .value f,args,argTypes:=tys })):=by
       obtain⟨y,hy,hi'⟩:=dY.1 hi
       rcases List.mem_append.1 hy with hy | hy
       ·obtain⟨y2,hy2,hi2⟩:=dY.1 (hxi i (z2 i (dY.2 ⟨y,hy,hi'⟩)))
        obtain⟨p,hp,rfl⟩:=List.mem_map.1 hy2
        exact iH (hargs p hp) i hi2
       ·refine iH hf i (S6 i ?_)
        rw[ef]
        simp only[cQ]
        exact dY.2 ⟨y,hy,hi'⟩
      obtain⟨c1,c2⟩:=hc i hi2
      exact⟨gL c1 u,fun cs hcs j hj=>gL (c2 cs (L0 z1 hcs) j hj) u⟩
     simp only
     split
     ·have hfoot:xX h (W1 (ev s f)::xs)=xX h' (W1 (ev s f)::xs):=by
       unfold xX
       congr 1
       refine zR fun i hi=> ?_
       rw[(hc i (hin i hi)).1]
      rw[hfoot]
      split
      ·rename_i hg
       have hgi:∀i∈q.g,h i=h' i:=fun i hi=>by
        have:=List.all_eq_true.1 hg i hi
        rw[←hfoot]at this
        simp only[List.contains_eq_mem,decide_eq_true_eq]at this
        unfold xX at this
        rcases List.mem_append.1 this with h1 | h1
        ·exact(hc i (hin i h1)).1
        ·obtain⟨j,hj,hj'⟩:=List.mem_flatMap.1 h1
         split at hj'
         ·rename_i cs hcs
          exact(hc j (hin j hj)).2 cs hcs i hj'
         ·cases hj'
       rw[R9 (g:=q.g) (h:=apply u h) (h':=apply u h') (fun i hi=>gL (hgi i hi) u),
        vN (g:=q.g) (h:=less q.g (apply u h)) (h':=less q.g (apply u h')) (fun i hi=>⟨xV (hclo i hi).1,fun cs hcs j hj=>xV ((hclo i hi).2 cs (sV hcs).1 j hj)⟩)]
      ·rfl
     ·rw[vV (h:=apply u h) (h':=apply u h') hclo]
   ·rfl
  | invoke r m=>rfl
 | makeMap t r=>cases r <;> rfl
 | lookup t x k ok =>
  simp only[oJ,←hs x (by simp[Op.operands]),←hs k (by simp[Op.operands])]
  rw[wJ (key x (by simp[Op.operands])),uU (key x (by simp[Op.operands]))]
 | mapUpdate t x k y =>
  simp only[oJ,←hs x (by simp[Op.operands]),←hs k (by simp[Op.operands]),←hs y (by simp[Op.operands])]
  rw[mB (key x (by simp[Op.operands])) (key y (by simp[Op.operands])),kW (key x (by simp[Op.operands]))]
 | insert t x k y =>
  simp only[oJ,←hs x (by simp[Op.operands]),←hs k (by simp[Op.operands]),←hs y (by simp[Op.operands])]
  rw[mB (key x (by simp[Op.operands])) (key y (by simp[Op.operands])),kW (key x (by simp[Op.operands]))]
 | _=>rfl
end Go.Tv
