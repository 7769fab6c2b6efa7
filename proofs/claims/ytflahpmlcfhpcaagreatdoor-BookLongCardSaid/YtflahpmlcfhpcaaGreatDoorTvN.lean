/- What an operation's outcome hangs on. -/
import Derived.Test.YtflahpmlcfhpcaaGreatDoorTvM
namespace Go.Tv
open Go Go.RowKit
theorem fP{h h':Nat→Option Obj}{i:Nat}(e:h i=h' i):∀(u:gR),apply u h i=apply u h' i:=fun u=>by
 induction u generalizing h h' with
 | nil=>exact e
 | cons p u ih =>
  obtain⟨j,o⟩:=p
  simp only[apply]
  refine ih ?_
  by_cases hj:i=j
  ·subst hj;rw[aP,aP]
  ·rw[bB _ _ hj,bB _ _ hj];exact e
section
variable{h h':Nat→Option Obj}
theorem nS{x:AVal}(hh:∀i∈b6 x,h i=h' i):eO h x=eO h' x:=by
 cases x <;> try rfl
 rename_i id
 simp only[eO,hh id (by simp[b6])]
theorem oG:∀ {xs:List AVal} {h h':Nat→Option Obj},(∀i∈bH xs,h i=h' i)→rC h xs=rC h' xs
 | [],_,_,_=>rfl
 | x::xs,h,h',hh=>by
  simp only[rC,nS (x:=x) (fun i hi=>hh i (by simp[bH,hi]))]
  cases hd:eO h' x with
  | none=>rfl
  | some p =>
   obtain⟨y,u⟩:=p
   simp only[oG (xs:=xs) (h:=apply u h) (h':=apply u h') (fun i hi=>fP (hh i (by simp[bH,hi])) u)]
theorem K8(xs ys:List AVal):bH (xs++ys)=bH xs++bH ys:=by
 induction xs with
 | nil=>rfl
 | cons x xs ih=>simp only[List.cons_append,bH,ih,List.append_assoc]
theorem E7(k:IntKind)(l:List Int):bH (l.map fun i=>AVal.p false (.int k) i)=[]:=by
 induction l with
 | nil=>rfl
 | cons x xs ih=>simp only[List.map_cons,bH,b6,ih,List.append_nil]
theorem wE{x:AVal}:bH (cellsOf x)=b6 x:=by
 cases x with
 | lag k n xs cs =>
  simp only[cellsOf,b6]
  rw[K8]
  have:=E7 k xs.1
  exact(congrArg (· ++ bH cs) this).trans (List.nil_append _)
 | _=>simp[cellsOf,bH,b6]
theorem Y0{T:Ty}{x:AVal}(hh:∀i∈b6 x,h i=h' i):aAT T h x=aAT T h' x:=by
 unfold aAT
 rw[oG (xs:=cellsOf x) (by rw[wE];exact hh)]
theorem vB{T:Ty}{x:AVal}(hh:∀i∈b6 x,h i=h' i):toT T h x=toT T h' x:=by
 unfold toT
 split
 ·rename_i id i sz off
  rw[hh id (by simp[b6])]
 ·rfl
 ·exact Y0 hh
theorem xR{A:Ty}:∀ {xs:List AVal} {h h':Nat→Option Obj},(∀i∈bH xs,h i=h' i)→P7 A h xs=P7 A h' xs
 | [],_,_,_=>rfl
 | x::xs,h,h',hh=>by
  simp only[P7,vB (x:=x) (T:=A) (fun i hi=>hh i (by simp[bH,hi]))]
  cases hd:toT A h' x with
  | none=>rfl
  | some p =>
   obtain⟨y,u⟩:=p
   simp only[xR (xs:=xs) (h:=apply u h) (h':=apply u h') (fun i hi=>fP (hh i (by simp[bH,hi])) u)]
theorem B8{x:AVal}(hh:∀i∈b6 x,h i=h' i):lC h x=lC h' x:=by
 unfold lC
 split <;> first
  | rfl
  | (rename_i id;rw[hh id (by simp[b6])])
  | (rename_i id i sz off;rw[hh id (by simp[b6])])
theorem O3{x:AVal}{i:Int}(hh:∀i∈b6 x,h i=h' i):C7 h x i=C7 h' x i:=by
 unfold C7
 split <;> first
  | rfl
  | (rename_i id;rw[hh id (by simp[b6])])
  | (rename_i id i sz off;rw[hh id (by simp[b6])])
theorem K6{x:AVal}(hh:∀i∈b6 x,h i=h' i):lenOf h x=lenOf h' x:=by
 unfold lenOf
 split <;> first
  | rfl
  | (rename_i id;rw[hh id (by simp[b6])])
  | (rename_i id i sz off;rw[hh id (by simp[b6])])
theorem V6{s d:TK}{x:AVal}(hh:∀i∈b6 x,h i=h' i):conv s d h x=conv s d h' x:=by
 unfold conv
 split <;> first
  | rfl
  | (rename_i id;rw[hh id (by simp[b6])])
  | (rename_i id i sz off;rw[hh id (by simp[b6])])
theorem lT{A:Ty}{x:AVal}(hh:∀i∈b6 x,h i=h' i):dR h A x=dR h' A x:=by
 unfold dR
 split <;> first
  | rfl
  | (rename_i id;rw[hh id (by simp[b6])])
  | (rename_i id i sz off;rw[hh id (by simp[b6])])
theorem yE(β:Bool):∀(T:Ty) (x:T.den),bH (fB β T x)=[]
 | .unit,_=>rfl
 | .prod a b,x=>by
  have h1:=yE β a x.1
  have h2:=yE β b x.2
  apply List.eq_nil_iff_forall_not_mem.2
  intro i hi
  simp only[fB,cJ,List.mem_append]at hi
  obtain⟨y,hy,hi⟩:=hi
  rcases hy with hy | hy
  ·have:i∈bH (fB β a x.1):=cJ.2 ⟨y,hy,hi⟩
   rw[h1]at this;cases this
  ·have:i∈bH (fB β b x.2):=cJ.2 ⟨y,hy,hi⟩
   rw[h2]at this;cases this
 | .int _,_=>rfl
 | .bool,_=>rfl
 | .str,_=>rfl
 | .flt,_=>rfl
 | .slice _,_=>rfl
 | .ptr _,_=>rfl
 | .tree _ _,_=>rfl
 | .arr k _,x=>E7 k x.1
 | .mapi _ _,_=>rfl
theorem aDy{cs new:List AVal}{p i:Nat}(hi:i∈bH (wr cs p new)):i∈bH cs∨i∈bH new:=by
 obtain⟨y,hy,hi⟩:=cJ.1 hi
 simp only[wr,List.mem_append]at hy
 rcases hy with(hy | hy) | hy
 ·exact .inl (cJ.2 ⟨y,List.mem_of_mem_take hy,hi⟩)
 ·exact .inr (cJ.2 ⟨y,hy,hi⟩)
 ·exact .inl (cJ.2 ⟨y,List.mem_of_mem_drop hy,hi⟩)
theorem T4{A:Ty}{xs:List A.den}{i off:Nat}{y:AVal}(hh:∀i∈b6 y,h i=h' i):T6 A h xs i off y=T6 A h' xs i off y:=by
 unfold T6
 refine vB fun j hj=> ?_
 simp only[b6]at hj
 rcases aDy hj with h1 | h1
 ·rw[yE]at h1;cases h1
 ·rw[wE]at h1;exact hh j h1
theorem vL{x:AVal}(hh:∀i∈b6 x,h i=h' i):zN h x=zN h' x:=by
 cases x <;> try rfl
 rename_i id
 simp only[zN,hh id (by simp[b6])]
theorem nO:∀ {xs:List AVal},(∀i∈bH xs,h i=h' i)→oY h xs=oY h' xs
 | [],_=>rfl
 | x::xs,hh=>by
  simp only[oY,vL (x:=x) (fun i hi=>hh i (by simp[bH,hi])),nO (xs:=xs) (fun i hi=>hh i (by simp[bH,hi]))]
def Clo(h h':Nat→Option Obj)(I:List Nat):Prop:=∀i∈I,h i=h' i∧∀cs,h i=some (.box cs)→∀j∈bH cs,h j=h' j
theorem vW{x:AVal}(hh:Clo h h' (b6 x)):tH h x=tH h' x:=by
 have h0:∀i∈b6 x,h i=h' i:=fun i hi=>(hh i hi).1
 cases x <;> try rfl
 ·simp only[tH,vL h0]
 ·rename_i id i sz off
  simp only[tH]
  have h1:=hh id (by simp[b6])
  rw[←h1.1]
  cases he:h id with
  | none=>rfl
  | some ob =>
   cases ob with
   | box cs=>simp only[nO (xs:=cs) (h:=h) (h':=h') (h1.2 cs he)]
   | arr _ _ _=>rfl
   | fz _ _=>rfl
   | mpo _ _ _=>rfl
   | mpl _ _=>rfl
   | bytes _ _=>rfl
   | cutz _ _=>rfl
   | lmp _ _ _ _=>rfl
   | vrow _ _ _=>rfl
   | mat _ _ _ _ _=>rfl
 ·rename_i cs
  simp only[tH]
  rw[nO (xs:=cs) (h:=h) (h':=h') (fun i hi=>h0 i (by simpa [b6]using hi))]
theorem tS:∀ {xs:List AVal},Clo h h' (bH xs)→sE h xs=sE h' xs
 | [],_=>rfl
 | x::xs,hh=>by
  simp only[sE,vW (x:=x) (fun i hi=>hh i (by simp[bH,hi])),tS (xs:=xs) (fun i hi=>hh i (by simp[bH,hi]))]
theorem yD{x:AVal}(hh:Clo h h' (b6 x)):M3 h x=M3 h' x:=by
 cases x <;> try (simp only[M3];exact vW hh)
 rename_i f cs
 simp only[M3]
 rw[tS (xs:=cs) (h:=h) (h':=h') (fun i hi=>hh i (by simpa [b6]using hi))]
theorem oI:∀ {xs:List AVal},Clo h h' (bH xs)→n6 h xs=n6 h' xs
 | [],_=>rfl
 | x::xs,hh=>by
  simp only[n6,yD (x:=x) (fun i hi=>hh i (by simp[bH,hi])),oI (xs:=xs) (fun i hi=>hh i (by simp[bH,hi]))]
theorem zF{g:List Nat}{i:Nat}(e:h i=h' i):less g h i=less g h' i:=by
 unfold less
 split
 ·rfl
 ·exact e
theorem yG{α β:Type}{l:List α}{f f':α→List β}(e:∀x∈l,f x=f' x):l.flatMap f=l.flatMap f':=by
 induction l with
 | nil=>rfl
 | cons x l ih=>simp only[List.flatMap_cons,e x (by simp),ih (fun y hy=>e y (by simp[hy]))]
theorem vZ{g:List Nat}:∀ {xs:List AVal},Clo h h' (bH xs)→t4 g h xs=t4 g h' xs
 | [],_=>rfl
 | x::xs,hh=>by
  have e:D3 g h x=D3 g h' x:=by
   unfold D3
   rw[yD (x:=x) (fun i hi=>hh i (by simp[bH,hi]))]
  simp only[t4,e,vZ (xs:=xs) (fun i hi=>hh i (by simp[bH,hi]))]
theorem P9{g:List Nat}{h h':Nat→Option Obj}(hg:∀i∈g,h i=h' i):i7 g h 0 g=i7 g h' 0 g:=by
 have key:∀(l:List Nat) (k:Nat),(∀i∈l,i∈g)→i7 g h k l=i7 g h' k l:=fun l=>by
  induction l with
  | nil=>intro k _;rfl
  | cons x l ih =>
   intro k hl
   simp only[i7,hg x (hl x (by simp)),ih (k+1) (fun i hi=>hl i (by simp[hi]))]
 exact key g 0 fun _ h=>h
theorem W7{x:AVal}(hh:∀i∈b6 x,h i=h' i):zS h x=zS h' x:=by
 cases x <;> try (simp only[zS];exact nS hh)
 rename_i cs
 simp only[zS]
 rw[oG (xs:=cs) (h:=h) (h':=h') (fun i hi=>hh i (by simpa [b6]using hi))]
theorem sA:∀ {bs:List Bool} {xs:List AVal} {h h':Nat→Option Obj},(∀i∈bH xs,h i=h' i)→frzL h bs xs=frzL h' bs xs
 | _,[],_,_,_=>by simp only[frzL]
 | [],_::_,_,_,_=>rfl
 | false::bs,x::xs,h,h',hh=>by
  simp only[frzL,sA (bs:=bs) (xs:=xs) (h:=h) (h':=h') (fun i hi=>hh i (by simp[bH,hi]))]
 | true::bs,x::xs,h,h',hh=>by
  simp only[frzL,W7 (x:=x) (h:=h) (h':=h') (fun i hi=>hh i (by simp[bH,hi]))]
  cases zS h' x with
  | none=>rfl
  | some p =>
   obtain⟨y,u⟩:=p
   simp only[sA (bs:=bs) (xs:=xs) (h:=apply u h) (h':=apply u h') (fun i hi=>fP (hh i (by simp[bH,hi])) u)]
def AllFz(u:gR):Prop:=∀p∈u,∃A xs,p.2=some (.fz A xs)
theorem AllFz.append{u v:gR}(hu:AllFz u)(hv:AllFz v):AllFz (u++v):=fun p hp=>(List.mem_append.1 hp).elim (hu p) (hv p)
theorem D4{x y:AVal}{u:gR}(hd:eO h x=some (y,u)):AllFz u∧∀i∈b6 y,i∈b6 x:=by
 unfold eO at hd
 split at hd
 ·split at hd
  ·cases hd;exact⟨fun p hp=>by simp at hp;subst hp;exact⟨_,_,rfl⟩,fun i hi=>by simp[b6]at hi⟩
  ·cases hd;exact⟨fun p hp=>by simp at hp,fun i hi=>by simp[b6]at hi⟩
  ·cases hd;exact⟨fun p hp=>by simp at hp;subst hp;exact⟨_,_,rfl⟩,fun i hi=>by simp[b6]at hi⟩
  ·cases hd;exact⟨fun p hp=>by simp at hp;subst hp;exact⟨_,_,rfl⟩,fun i hi=>by simp[b6]at hi⟩
  ·cases hd
 ·cases hd;exact⟨fun p hp=>by simp at hp,fun i hi=>hi⟩
theorem L1:∀ {xs ys:List AVal} {h:Nat→Option Obj} {u:gR},rC h xs=some (ys,u)→AllFz u∧∀i∈bH ys,i∈bH xs
 | [],ys,h,u,hd=>by cases hd;exact⟨fun p hp=>by simp at hp,fun i hi=>hi⟩
 | x::xs,ys,h,u,hd=>by
  simp only[rC]at hd
  split at hd
  ·rename_i y u1 h1
   split at hd
   ·rename_i ys' us h2
    cases hd
    obtain⟨q1,q2⟩:=D4 h1
    obtain⟨r1,r2⟩:=L1 h2
    refine⟨q1.append r1,fun i hi=> ?_⟩
    simp only[bH,List.mem_append]at hi ⊢
    exact hi.imp (q2 i) (r2 i)
   ·cases hd
  ·cases hd
theorem aCT{x y:AVal}{u:gR}(hd:zS h x=some (y,u)):AllFz u∧∀i∈b6 y,i∈b6 x:=by
 unfold zS at hd
 split at hd
 ·split at hd
  ·rename_i ds u' h1
   cases hd
   obtain⟨q1,q2⟩:=L1 h1
   exact⟨q1,fun i hi=>by simp only[b6]at hi ⊢;exact q2 i hi⟩
  ·cases hd
 ·exact D4 hd
theorem I4:∀ {bs:List Bool} {xs ys:List AVal} {h:Nat→Option Obj} {u:gR},frzL h bs xs=some (ys,u)→AllFz u∧∀i∈bH ys,i∈bH xs
 | _,[],ys,h,u,hd=>by simp only[frzL]at hd;cases hd;exact⟨fun p hp=>by simp at hp,fun i hi=>hi⟩
 | [],_::_,ys,h,u,hd=>by simp only[frzL]at hd;cases hd;exact⟨fun p hp=>by simp at hp,fun i hi=>hi⟩
 | false::bs,x::xs,ys,h,u,hd=>by
  simp only[frzL]at hd
  split at hd
  ·rename_i ys' u' h1
   cases hd
   obtain⟨q1,q2⟩:=I4 h1
   refine⟨q1,fun i hi=> ?_⟩
   simp only[bH,List.mem_append]at hi ⊢
   exact hi.imp (fun h=>h) (q2 i)
  ·cases hd
 | true::bs,x::xs,ys,h,u,hd=>by
  simp only[frzL]at hd
  split at hd
  ·rename_i y u1 h1
   split at hd
   ·rename_i ys' us h2
    cases hd
    obtain⟨q1,q2⟩:=aCT h1
    obtain⟨r1,r2⟩:=I4 h2
    refine⟨q1.append r1,fun i hi=> ?_⟩
    simp only[bH,List.mem_append]at hi ⊢
    exact hi.imp (q2 i) (r2 i)
   ·cases hd
  ·cases hd
theorem I2{u:gR}(hu:AllFz u){i:Nat}{cs:List AVal}:∀ {h:Nat→Option Obj},apply u h i=some (.box cs)→h i=some (.box cs):=by
 induction u with
 | nil=>intro h hb;exact hb
 | cons p u ih =>
  intro h hb
  obtain⟨j,o⟩:=p
  have h1:=ih (fun q hq=>hu q (by simp[hq])) hb
  by_cases e:i=j
  ·subst e
   rw[aP]at h1
   obtain⟨A,xs,h2⟩:=hu (i,o) (by simp)
   simp only at h2
   rw[h1]at h2
   cases h2
  ·rw[bB _ _ e]at h1;exact h1
theorem S7{xs:List AVal}(hh:∀i∈zD h xs,h i=h' i):Clo h h' (bH xs):=fun i hi =>
 ⟨hh i (List.mem_append_left _ hi),fun cs hc j hj=>hh j (List.mem_append_right _ (List.mem_flatMap.2 ⟨i,hi,by rw[hc];exact hj⟩))⟩
theorem xM{tb:Tab}{new:Nat}{t:TypeId}{x:AVal}{lo hi:Option (Option Int)}(hh:∀i∈b6 x,h i=h' i):o6 tb new t x lo hi h=o6 tb new t x lo hi h':=by
 unfold o6
 split
 ·split
  ·split <;> first
    | rfl
    | (rename_i id;rw[hh id (by simp[b6])])
  ·rfl
 ·rfl
theorem z9{new:Nat}{ti:TI}{x:AVal}(hx:∀i∈b6 x,h i=h' i)(ho:∀i∈b6 x,∀e e2 A xss k j,h i=some (.mat e e2 A xss (some (k,j)))→h j=h' j):k5 new ti x h=k5 new ti x h':=by
 unfold k5
 cases x <;> try rfl
 rename_i id i sz off
 simp only
 have e1:=hx id (by simp[b6])
 have e2:=ho id (by simp[b6])
 rw[←e1]
 cases hm:h id with
 | none=>rfl
 | some ob =>
  cases ob with
  | mat e e2' A xss hole =>
   cases hole with
   | none=>rfl
   | some p =>
    obtain⟨k,j⟩:=p
    simp only[e2 _ _ _ _ _ _ hm]
  | _=>rfl
theorem zB{ti:TI}{x:AVal}(hx:∀i∈b6 x,h i=h' i):mA ti x h=mA ti x h':=by
 unfold mA
 split
 ·rename_i id b n i k _
  have hid:=hx id (by simp[b6])
  rw[hid]
 ·rfl
theorem wW{ti:TI}{x y:AVal}(hx:∀i∈b6 x,h i=h' i):kB ti x y h=kB ti x y h':=by
 unfold kB
 split
 ·rename_i id b n i _ k v
  have hid:=hx id (by simp[b6])
  rw[hid]
 ·rfl
theorem wV{tb:Tab}{t:TypeId}{x i:AVal}(hx:∀i∈b6 x,h i=h' i):kA tb t x i h=kA tb t x i h':=by
 unfold kA
 cases tb.find t with
 | none=>rfl
 | some ti =>
  simp only
  split
  ·split
   ·split
    ·split
     ·rename_i id j sz off _ _ _
      rw[hx id (by simp[b6])]
     ·rfl
     ·rfl
    ·split
     ·split
      ·rename_i id j sz off _ _ _
       rw[hx id (by simp[b6])]
      ·rfl
     ·rfl
   ·rfl
  ·rfl
theorem rW{tb:Tab}{t:TypeId}{x i:AVal}(hx:∀i∈b6 x,h i=h' i):g7 tb t x i h=g7 tb t x i h':=by
 unfold g7
 cases gK tb t with
 | none=>rfl
 | some q =>
  simp only
  split
  ·rw[O3 hx]
  ·rfl
theorem wN{P:Program}{tb:Tab}{t:TypeId}{x k:AVal}{ok:Bool}(hx:∀i∈b6 x,h i=h' i):mJ P tb t x k ok h=mJ P tb t x k ok h':=by
 unfold mJ
 split
 ·split
  ·rename_i id
   rw[hx id (by simp[b6])]
  ·rfl
 ·rfl
theorem uM{P:Program}{tb:Tab}{t:TypeId}{g:List Nat}{x k:AVal}{ok:Bool}(hx:∀i∈b6 x,h i=h' i):kM P tb t g x k ok h=kM P tb t g x k ok h':=by
 unfold kM
 split
 ·split
  ·rename_i id
   rw[hx id (by simp[b6])]
  ·rfl
 ·rfl
theorem kI{P:Program}{tb:Tab}{t:TypeId}{x k y:AVal}(hx:∀i∈b6 x,h i=h' i)(hy:∀i∈b6 y,h i=h' i):eP P tb t x k y h=eP P tb t x k y h':=by
 unfold eP
 split
 ·split
  ·rename_i id
   rw[hx id (by simp[b6])]
   split
   ·split
    ·split
     ·rw[vB hy]
     ·rfl
    ·rfl
   ·rfl
  ·rfl
 ·rfl
theorem jQ{P:Program}{tb:Tab}{t:TypeId}{x k y:AVal}(hx:∀i∈b6 x,h i=h' i):dV P tb t x k y h=dV P tb t x k y h':=by
 unfold dV
 split
 ·split
  ·rename_i id
   rw[hx id (by simp[b6])]
  ·rfl
 ·rfl
theorem F4{id i:Nat}{e e2:TypeId}{A:Ty}{xss:List (List A.den)}{hole:Option (Nat×Nat)}{y:AVal}(hy:∀i∈b6 y,h i=h' i)(ho:∀k j,hole=some (k,j)→h j=h' j):uV id i e e2 A xss hole y h=uV id i e e2 A xss hole y h':=by
 unfold uV
 cases y <;> try rfl
 rename_i r
 simp only
 rw[←hy r (by simp[b6])]
 cases h r with
 | none=>rfl
 | some ob =>
  cases ob with
  | arr e3 B zs =>
   cases hole with
   | none=>rfl
   | some p =>
    obtain⟨k,j⟩:=p
    simp only[ho k j rfl]
  | _=>rfl
theorem xF{tb:Tab}{t:TypeId}{x y:AVal}(hx:∀i∈b6 x,h i=h' i)(hy:∀i∈b6 y,h i=h' i)(ho:∀i∈b6 x,∀e e2 A xss k j,h i=some (.mat e e2 A xss (some (k,j)))→h j=h' j):pG tb t x y h=pG tb t x y h':=by
 unfold pG
 cases tb.find t with
 | none=>rfl
 | some ti =>
  simp only
  split
  ·cases x <;> try rfl
   case ada=>exact wW hx
   rename_i id i sz off
   simp only
   have hid:=hx id (by simp[b6])
   have hop:=ho id (by simp[b6])
   rw[←hid]
   cases hm:h id with
   | none=>rfl
   | some ob =>
    cases ob with
    | arr e A xs=>simp only[T4 (A:=A) (xs:=xs) (i:=i) (off:=off) hy]
    | fz _ _=>rfl
    | box _=>rfl
    | mpo _ _ _=>rfl
    | mpl _ _=>rfl
    | bytes _ _=>rfl
    | cutz _ _=>rfl
    | lmp _ _ _ _=>rfl
    | vrow _ _ _=>rfl
    | mat e e2 A xss hole=>simp only[F4 (id:=id) (i:=i) (e:=e) (e2:=e2) (A:=A) (xss:=xss) (hole:=hole) hy (fun k j eh=>hop e e2 A xss k j (by rw[hm,eh]))]
  ·rfl
theorem wO{tb:Tab}{new:Nat}{t:TypeId}{x y:AVal}(hx:∀i∈b6 x,h i=h' i)(hy:∀i∈b6 y,h i=h' i):mL tb new t x y h=mL tb new t x y h':=by
 unfold mL
 cases gK tb t with
 | none=>rfl
 | some p =>
  obtain⟨e,te,A⟩:=p
  simp only[lT (A:=A) hy]
  cases dR h' A y with
  | none=>rfl
  | some ys =>
   simp only
   cases x <;> try rfl
   rename_i id
   simp only
   rw[hx id (by simp[b6])]
theorem A2{tb:Tab}{t:TypeId}{x y:AVal}(hx:∀i∈b6 x,h i=h' i)(hy:∀i∈b6 y,h i=h' i):tV tb t x y h=tV tb t x y h':=by
 unfold tV
 cases gK tb t with
 | none=>rfl
 | some p =>
  obtain⟨e,te,A⟩:=p
  simp only[lT (A:=A) hy]
  cases dR h' A y with
  | none=>rfl
  | some ys =>
   simp only
   cases x <;> try rfl
   rename_i id
   simp only
   rw[hx id (by simp[b6])]
end
def eD(s:Nat→AVal)(op:Op):List AVal:=op.operands.toList.map (ev s)
theorem eQ{s:Nat→AVal}{op:Op}{x:Operand}(hx:x∈op.operands.toList):∀i∈b6 (ev s x),i∈bH (eD s op):=fun _ hi =>
 cJ.2 ⟨ev s x,List.mem_map.2 ⟨x,hx,rfl⟩,hi⟩
def xV(h:Nat→Option Obj)(xs:List AVal):List Nat :=
 bH xs++(bH xs).flatMap fun i=>match h i with
  | some (.mat _ _ _ _ (some (_,j)))=>[j]
  | _=>[]
theorem xH{h:Nat→Option Obj}{xs:List AVal}{i:Nat}{e e2:TypeId}{A:Ty}{xss:List (List A.den)}{k j:Nat}(hi:i∈bH xs)(hm:h i=some (.mat e e2 A xss (some (k,j)))):j∈xV h xs :=
 List.mem_append_right _ (List.mem_flatMap.2 ⟨i,hi,by rw[hm];exact .head _⟩)
def i9(h:Nat→Option Obj)(op:Op)(xs:List AVal):List Nat :=
 match op with
 | .call _=>zD h xs
 | .load _ _=>xV h xs
 | .store _ _ _=>xV h xs
 | .move _=>[]
 | .assign _=>[]
 | .nilCheck _=>[]
 | .fieldAddr _ _ _=>[]
 | _=>bH xs
theorem V0{P:Program}{tb:Tab}{new:Nat}{asm:Option Bool}{orc:Option Orc}{op:Op}{s s':Nat→AVal}{h h':Nat→Option Obj}
  (hs:∀x∈op.operands.toList,ev s x=ev s' x) (hh:∀i∈i9 h op (eD s op),h i=h' i):f6 P tb new asm orc op s h=f6 P tb new asm orc op s' h':=by
 by_cases hmv:(∃x,op = .move x)∨(∃x,op = .assign x)∨(∃x,op = .nilCheck x)∨∃t x f,op = .fieldAddr t x f
 ·rcases hmv with⟨x,rfl⟩ | ⟨x,rfl⟩ | ⟨x,rfl⟩ | ⟨t,x,f,rfl⟩ <;> simp only[f6,hs x (by simp[Op.operands])]
 have hid:∀i∈bH (eD s op),h i=h' i:=fun i hi=>by
  refine hh i ?_
  unfold i9
  split
  ·exact List.mem_append_left _ hi
  ·exact List.mem_append_left _ hi
  ·exact List.mem_append_left _ hi
  ·rename_i x;exact absurd (.inl ⟨x,rfl⟩) hmv
  ·rename_i x;exact absurd (.inr (.inl ⟨x,rfl⟩)) hmv
  ·rename_i x;exact absurd (.inr (.inr (.inl ⟨x,rfl⟩))) hmv
  ·rename_i t x f;exact absurd (.inr (.inr (.inr ⟨t,x,f,rfl⟩))) hmv
  ·exact hi
 have key:∀x∈op.operands.toList,∀i∈b6 (ev s x),h i=h' i:=fun x hx i hi=>hid i (eQ hx i hi)
 cases op with
 | move x=>simp only[f6,hs x (by simp[Op.operands])]
 | assign x=>simp only[f6,hs x (by simp[Op.operands])]
 | pick c x y =>
  have e:∀b:Bool,ev s (if b=true then x else y)=ev s' (if b=true then x else y):=fun b=>by
   cases b
   ·exact hs y (by simp[Op.operands])
   ·exact hs x (by simp[Op.operands])
  simp only[f6,J5,hs c (by simp[Op.operands]),e,hs x (by simp[Op.operands]),hs y (by simp[Op.operands])]
 | alloc t=>rfl
 | box t x=>simp only[f6,hs x (by simp[Op.operands])]
 | build t ps =>
  simp only[f6]
  have e:ps.toList.map (fun p=>ev s p.2)=ps.toList.map (fun p=>ev s' p.2):=List.map_congr_left (fun p hp=>hs p.2 (by simp only[Op.operands,List.mem_map];exact⟨p,hp,rfl⟩))
  rw[e]
 | buildSlice t len ps =>
  simp only[f6]
  have e:ps.toList.map (fun p=>ev s p.2)=ps.toList.map (fun p=>ev s' p.2):=List.map_congr_left (fun p hp=>hs p.2 (by simp only[Op.operands,List.mem_map];exact⟨p,hp,rfl⟩))
  rw[←e]
  unfold lR
  cases gK tb t with
  | none=>rfl
  | some q =>
   obtain⟨e,te,A⟩:=q
   simp only
   split
   ·rw[xR (A:=A) (fun i hi=>by
     obtain⟨y,hy,hi⟩:=cJ.1 hi
     obtain⟨p,hp,rfl⟩:=List.mem_map.1 hy
     exact key p.2 (by simp only[Op.operands,List.mem_map];exact⟨p,hp,rfl⟩) i hi)]
   ·rfl
 | load t x =>
  simp only[f6,←hs x (by simp[Op.operands])]
  have hx:=key x (by simp[Op.operands])
  have e2:∀ti,k5 new ti (ev s x) h=k5 new ti (ev s x) h':=fun ti=>z9 hx (fun i hi e e2 A xss k j hm=>hh j (xH (eQ (by simp[Op.operands]) i hi) hm))
  unfold H6
  simp only[B8 hx,zB hx,e2]
 | store t x y =>
  simp only[f6,←hs x (by simp[Op.operands]),←hs y (by simp[Op.operands])]
  exact xF (key x (by simp[Op.operands])) (key y (by simp[Op.operands])) (fun i hi e e2 A xss k j hm=>hh j (xH (eQ (by simp[Op.operands]) i hi) hm))
 | binOp o t x y t'=>simp only[f6,hs x (by simp[Op.operands]),hs y (by simp[Op.operands])]
 | unOp o t x=>simp only[f6,hs x (by simp[Op.operands])]
 | nilCheck x=>simp only[f6,hs x (by simp[Op.operands])]
 | convert st dt x =>
  simp only[f6,←hs x (by simp[Op.operands])]
  cases orc with
  | some _=>rfl
  | none=> ?_
  simp only
  unfold I9
  cases tb.find st with
  | none=>rfl
  | some si =>
   cases tb.find dt with
   | none=>rfl
   | some di =>
    simp only
    cases aBX tb di.k (ev s x)with
    | some r=>rfl
    | none=>simp only[V6 (s:=si.k) (d:=di.k) (key x (by simp[Op.operands]))]
 | slice t x lo hi mx =>
  cases mx with
  | some mo =>
   cases hi with
   | none=>rfl
   | some hio =>
    have e1:qR s lo=qR s' lo:=by
     cases lo with
     | none=>rfl
     | some y=>simp only[qR,hs y (by simp[Op.operands])]
    simp only[f6,←hs x (by simp[Op.operands]),←hs hio (by simp[Op.operands]),←hs mo (by simp[Op.operands]),←e1]
    have hx:=key x (by simp[Op.operands])
    cases orc with
    | some _ =>
     simp only
     unfold X7
     rw[nS hx]
    | none=> ?_
    simp only
    unfold uU
    split
    ·split
     ·rfl
     ·rename_i id ex
      rw[hx id (by rw[ex];simp[b6])]
     ·rfl
    ·rfl
  | none =>
   have e1:qR s lo=qR s' lo:=by
    cases lo with
    | none=>rfl
    | some y=>simp only[qR,hs y (by simp[Op.operands])]
   have e2:qR s hi=qR s' hi:=by
    cases hi with
    | none=>rfl
    | some y=>simp only[qR,hs y (by simp[Op.operands])]
   simp only[f6,←hs x (by simp[Op.operands]),←e1,←e2]
   exact xM (key x (by simp[Op.operands]))
 | fieldAddr t x f=>simp only[f6,hs x (by simp[Op.operands])]
 | indexAddr t x i =>
  simp only[f6,←hs x (by simp[Op.operands]),←hs i (by simp[Op.operands])]
  simp only[wV (key x (by simp[Op.operands])),rW (key x (by simp[Op.operands]))]
 | index t x i=>simp only[f6,hs x (by simp[Op.operands]),hs i (by simp[Op.operands])]
 | extract x i=>simp only[f6,hs x (by simp[Op.operands])]
 | typeAssert x xt t ok=>simp only[f6,hs x (by simp[Op.operands])]
 | makeFunc f fs cs =>
  simp only[f6]
  rw[List.map_congr_left (f:=ev s) (g:=ev s') (fun p hp=>hs p (by simp only[Op.operands,Array.toList_append,List.mem_append];exact .inr hp))]
 | makeSlice t l c=>simp only[f6,hs l (by simp[Op.operands]),hs c (by simp[Op.operands])]
 | call c =>
  obtain⟨callee,args,tys⟩:=c
  have hargs:∀x∈args.toList,x∈(Op.call { callee,args,argTypes:=tys }).operands.toList:=fun x hx=>by
   simp only[Op.operands,Call.operands,Array.toList_append,List.mem_append];exact .inr hx
  have e:args.toList.map (ev s)=args.toList.map (ev s'):=List.map_congr_left (fun p hp=>hs p (hargs p hp))
  have hk:∀y∈args.toList.map (ev s),∀i∈b6 y,h i=h' i:=fun y hy i hi=>by
   obtain⟨p,hp,rfl⟩:=List.mem_map.1 hy
   exact key p (hargs p hp) i hi
  have hc:=S7 (h':=h') (xs:=eD s (Op.call { callee,args,argTypes:=tys })) hh
  simp only[f6,qO]
  cases callee with
  | builtin b =>
   simp only[←e]
   unfold sU
   split
   ·rename_i y t ey et
    split
    ·unfold vC
     split
     ·split
      ·rename_i id _ _
       rw[hk (.mp id) (by rw[ey];simp) id (by simp[b6])]
      ·rfl
     ·rfl
    ·unfold X5
     rw[K6 (hk y (by rw[ey];simp))]
   ·rfl
   ·rfl
   ·rename_i y z t t' ey et
    split
    ·exact wO (hk y (by rw[ey];simp)) (hk z (by rw[ey];simp))
    ·rfl
   ·rename_i y z t t' ey et
    exact A2 (hk y (by rw[ey];simp)) (hk z (by rw[ey];simp))
   ·rfl
  | value f =>
   have hf:f∈(Op.call { callee:= .value f,args,argTypes:=tys }).operands.toList:=by simp[Op.operands,Call.operands]
   simp only[←e,←hs f hf]
   generalize hxs:f7 tb (aC0 orc) tys.toList (args.toList.map (ev s))=xs
   have hxi:∀i∈bH xs,i∈bH (args.toList.map (ev s)):=fun i hi=>by rw[←hxs,nD]at hi;exact hi
   unfold w6
   split
   ·rename_i fid caps q ef
    have hin:∀i∈bH (S0 (ev s f)::xs),i∈bH (eD s (Op.call { callee:= .value f,args,argTypes:=tys })):=fun i hi=>by
     simp only[bH,List.mem_append]at hi
     rcases hi with hi | hi
     ·exact eQ hf i (Q0 i hi)
     ·obtain⟨y,hy,hi'⟩:=cJ.1 (hxi i hi)
      obtain⟨p,hp,rfl⟩:=List.mem_map.1 hy
      exact eQ (hargs p hp) i hi'
    rw[sA (bs:=q.fl) (h:=h) (h':=h') (fun i hi=>by
     obtain⟨y,hy,hi'⟩:=cJ.1 (hxi i hi)
     exact hk y hy i hi')]
    cases hfz:frzL h' q.fl xs with
    | none=>rfl
    | some p =>
     obtain⟨ys,u⟩:=p
     obtain⟨z1,z2⟩:=I4 hfz
     have hclo:Clo (apply u h) (apply u h') (bH (ys++caps)):=fun i hi=>by
      have hi2:i∈bH (eD s (Op.call { callee:= .value f,args,argTypes:=tys })):=by
       obtain⟨y,hy,hi'⟩:=cJ.1 hi
       rcases List.mem_append.1 hy with hy | hy
       ·obtain⟨y2,hy2,hi2⟩:=cJ.1 (hxi i (z2 i (cJ.2 ⟨y,hy,hi'⟩)))
        obtain⟨p,hp,rfl⟩:=List.mem_map.1 hy2
        exact eQ (hargs p hp) i hi2
       ·refine eQ hf i (Q0 i ?_)
        rw[ef]
        simp only[b6]
        exact cJ.2 ⟨y,hy,hi'⟩
      obtain⟨c1,c2⟩:=hc i hi2
      exact⟨fP c1 u,fun cs hcs j hj=>fP (c2 cs (I2 z1 hcs) j hj) u⟩
     simp only
     split
     ·have hfoot:zD h (S0 (ev s f)::xs)=zD h' (S0 (ev s f)::xs):=by
       unfold zD
       congr 1
       refine yG fun i hi=> ?_
       rw[(hc i (hin i hi)).1]
      rw[hfoot]
      split
      ·rename_i hg
       have hgi:∀i∈q.g,h i=h' i:=fun i hi=>by
        have:=List.all_eq_true.1 hg i hi
        rw[←hfoot]at this
        simp only[List.contains_eq_mem,decide_eq_true_eq]at this
        unfold zD at this
        rcases List.mem_append.1 this with h1 | h1
        ·exact(hc i (hin i h1)).1
        ·obtain⟨j,hj,hj'⟩:=List.mem_flatMap.1 h1
         split at hj'
         ·rename_i cs hcs
          exact(hc j (hin j hj)).2 cs hcs i hj'
         ·cases hj'
       rw[P9 (g:=q.g) (h:=apply u h) (h':=apply u h') (fun i hi=>fP (hgi i hi) u),
        vZ (g:=q.g) (h:=less q.g (apply u h)) (h':=less q.g (apply u h')) (fun i hi=>⟨zF (hclo i hi).1,fun cs hcs j hj=>zF ((hclo i hi).2 cs (tT hcs).1 j hj)⟩)]
      ·rfl
     ·rw[oI (h:=apply u h) (h':=apply u h') hclo]
   ·rfl
  | invoke r m=>rfl
 | makeMap t r=>cases r <;> rfl
 | lookup t x k ok =>
  simp only[f6,←hs x (by simp[Op.operands]),←hs k (by simp[Op.operands])]
  rw[wN (key x (by simp[Op.operands])),uM (key x (by simp[Op.operands]))]
 | mapUpdate t x k y =>
  simp only[f6,←hs x (by simp[Op.operands]),←hs k (by simp[Op.operands]),←hs y (by simp[Op.operands])]
  rw[kI (key x (by simp[Op.operands])) (key y (by simp[Op.operands])),jQ (key x (by simp[Op.operands]))]
 | insert t x k y =>
  simp only[f6,←hs x (by simp[Op.operands]),←hs k (by simp[Op.operands]),←hs y (by simp[Op.operands])]
  rw[kI (key x (by simp[Op.operands])) (key y (by simp[Op.operands])),jQ (key x (by simp[Op.operands]))]
 | _=>rfl
theorem E1{P:Program}{tb:Tab}{new:Nat}{asm:Option Bool}{orc:Option Orc}{op:Op}{s s':Nat→AVal}{h h':Nat→Option Obj}
  (hs:∀x∈op.operands.toList,ev s x=ev s' x) (hh:∀i∈i9 h op (eD s op),h i=h' i):sem P tb new asm orc op s h=sem P tb new asm orc op s' h':=by
 have key:∀x∈op.operands.toList,(¬((∃x,op = .move x)∨(∃x,op = .assign x)∨(∃x,op = .nilCheck x)∨∃t x f,op = .fieldAddr t x f))→∀i∈b6 (ev s x),h i=h' i:=fun x hx hmv i hi=>by
  have hid:=eQ hx i hi
  refine hh i ?_
  unfold i9
  split
  ·exact List.mem_append_left _ hid
  ·exact List.mem_append_left _ hid
  ·exact List.mem_append_left _ hid
  ·rename_i x;exact absurd (.inl ⟨x,rfl⟩) hmv
  ·rename_i x;exact absurd (.inr (.inl ⟨x,rfl⟩)) hmv
  ·rename_i x;exact absurd (.inr (.inr (.inl ⟨x,rfl⟩))) hmv
  ·rename_i t x f;exact absurd (.inr (.inr (.inr ⟨t,x,f,rfl⟩))) hmv
  ·exact hid
 have e1:jY P tb new orc op s h=jY P tb new orc op s' h':=W4 hs key (fun c hc ys hy=>by
  subst hc
  have hcl:=S7 (h':=h') (xs:=eD s (Op.call c)) hh
  refine oI fun i hi=> ?_
  obtain⟨x,hx,hi⟩:=hy i hi
  exact hcl i (eQ hx i hi)) (fun c hc A x hx=>by
  subst hc
  exact lT (fun i hi=>key x hx (by rintro(⟨_,e⟩ | ⟨_,e⟩ | ⟨_,e⟩ | ⟨_,_,_,e⟩) <;> cases e) i hi))
 unfold sem
 rw[e1,V0 hs hh]
end Go.Tv
