import Derived.Test.YtmcemnfjddoejaaGreatDoorTvZam
namespace Go.Proofs.YtmcemnfjddoejaaGreatDoor.T
open Go Go.Tv Go.Proofs
open Go.IntKind (i64 u8)
noncomputable section
theorem bS{α:Type}{l:List α}{i:Nat}(h:i<l.length)(d:α):l.getD i d∈l:=by
 rw[List.getD_eq_getElem?_getD,List.getElem?_eq_getElem h];exact List.getElem_mem h
theorem Gr{α:Type}(l:List α)(x d:α)(i:Nat):(l++[x]).getD i d=if i<l.length then l.getD i d else if i=l.length then x else d:=by
 simp only[List.getD_eq_getElem?_getD];split
 ·rename_i h;rw[List.getElem?_append_left h]
 ·rename_i h;rw[List.getElem?_append_right (by omega)];split
  ·rename_i e;rw[e,Nat.sub_self];rfl
  ·rename_i e;rw[List.getElem?_eq_none (by simp <;> omega)];rfl
theorem qu(l:QK)(k j:Nat)(v:Int)(hk:k<l.length):(l.set k v).getD j 0=if k=j then v else l.getD j 0:=by
 simp only[List.getD_eq_getElem?_getD,List.getElem?_set];by_cases e:k=j
 ·rw[if_pos e,if_pos e,if_pos (by omega)];rfl
 ·rw[if_neg e,if_neg e]
/-! ### f c number -/
def mx(l:QK):Int:=l.foldl max 0
theorem foldl_max(l:QK):∀a:Int,a≤l.foldl max a∧(∀x∈l,x≤l.foldl max a)∧(l.foldl max a=a∨l.foldl max a∈l):=by
 induction l with
 | nil=>exact fun a=>⟨Int.le_refl _,fun _ h=>(by cases h),.inl rfl⟩
 | cons x l c =>
  intro a;obtain⟨u,f,j⟩:=c (max a x);refine⟨by simp only[List.foldl_cons];omega,fun y p=>?_,?_⟩
  ·simp only[List.foldl_cons];rcases List.mem_cons.1 p with e | e
   ·rw[e];omega
   ·exact f y e
  ·simp only[List.foldl_cons];rcases j with e | e
   ·rw[e];rcases Int.le_total a x with q | q
    ·rw[Int.max_eq_right q];exact .inr (.head _)
    ·rw[Int.max_eq_left q];exact .inl rfl
   ·exact .inr (.tail _ e)
theorem Lj{l:QK}{x:Int}(h:x∈l):x≤mx l:=(foldl_max l 0).2.1 x h
theorem Jm(l:QK):0≤mx l:=(foldl_max l 0).1
theorem JA(l:QK):mx l=0∨mx l∈l:=(foldl_max l 0).2.2
theorem AM{l:QK}(hl:l.length≤1000):Ho (jC l) (fun m=>m=mx l):=by
 refine aq (P:=fun m=>m=mx l) (bF (fun(m,i)=>0≤i∧i≤(l.length:Int)∧m=(l.take i.toNat).foldl max 0) (fun(_,i)=>((l.length:Int) - i).toNat) ⟨Int.le_refl _,by omega,rfl⟩ fun(m,i) ⟨c,p,e⟩=>?_) fun m j=>av j
 refine aK (fun hi=>?_) fun hi=>?_
 ·rw[dec_lt]at hi;rw[if_pos ⟨c,hi⟩,bQ c (by omega)];refine av ⟨⟨by omega,by omega,?_⟩,by simp <;> omega⟩;rw[show(i+1).toNat=i.toNat+1 by omega,List.take_add_one,List.getElem?_eq_getElem (by omega),List.foldl_append,←e,List.getD_eq_getElem?_getD,List.getElem?_eq_getElem (by omega)];rfl
 ·rw[dec_lt]at hi;have:i.toNat=l.length:=by omega
  exact av (by rw[e,this,List.take_length];rfl)
/-! ### f -/
def four(x:Int):QK:=[u8.wrap x,u8.wrap (Int.fdiv x (2 ^ (min (8:Int).toNat i64.bits))),u8.wrap (Int.fdiv x (2 ^ (min (16:Int).toNat i64.bits))),u8.wrap (Int.fdiv x (2 ^ (min (24:Int).toNat i64.bits)))]
theorem JS{r:QK}(f:r.length≤1000):Ho (iter (jb r) ([],0)) (fun v=>v=r.flatMap four):=by
 refine bF (fun(v,i)=>0≤i∧i≤(r.length:Int)∧v=(r.take i.toNat).flatMap four∧(v.length:Int)=4*i) (fun(_,i)=>((r.length:Int) - i).toNat) ⟨Int.le_refl _,by omega,rfl,rfl⟩ fun(v,i) ⟨c,j,e,p⟩=>?_
 refine aK (fun hi=>?_) fun hi=>?_
 ·rw[dec_lt]at hi;refine aW ⟨c,hi⟩ (aW (by omega) (aW (by decide) (aW (by decide) (aW (by decide) (aW (by simp only[List.length_cons,List.length_nil];omega) ?_)))));rw[bQ c (by omega)];refine av ⟨⟨by omega,by omega,?_,by simp <;> omega⟩,by simp <;> omega⟩;rw[show(i+1).toNat=i.toNat+1 by omega,List.take_add_one,List.getElem?_eq_getElem (by omega),List.flatMap_append,←e,List.getD_eq_getElem?_getD,List.getElem?_eq_getElem (by omega)];simp[four]
 ·rw[dec_lt]at hi;have:i.toNat=r.length:=by omega
  exact av (show v=r.flatMap four by rw[e,this,List.take_length])
theorem IT{x y:Int}{a b:QK}(q:0≤x∧x<65536)(u:0≤y∧y<65536)(h:bytesOf (four x++a)=bytesOf (four y++b)):x=y:=by
 have p:∀z:Int,0≤z→Int.fdiv z (2 ^ (min (8:Int).toNat i64.bits))=z / 256:=fun z hz=>by rw[show((2:Int) ^ (min (8:Int).toNat i64.bits))=256 by decide,Int.fdiv_eq_ediv_of_nonneg _ (by decide)]
 have c:(bytesOf (four x++a))[0]? = (bytesOf (four y++b))[0]? :=by rw[h]
 have j:(bytesOf (four x++a))[1]? = (bytesOf (four y++b))[1]? :=by rw[h]
 simp only[bytesOf,four,List.map_append,List.map_cons,List.cons_append,List.getElem?_cons_zero,List.getElem?_cons_succ,Option.some.injEq,p x q.1,p y u.1]at c j;rw[IntKind.wrap_u8,IntKind.wrap_u8]at c j;have t:∀z w:Int,0≤z→z<256→0≤w→w<256→UInt8.ofNat z.toNat=UInt8.ofNat w.toNat→z=w:=fun z w v A B C e=>by have:=congrArg UInt8.toNat e;rw[UInt8.toNat_ofNat',UInt8.toNat_ofNat',Nat.mod_eq_of_lt (by omega),Nat.mod_eq_of_lt (by omega)]at this;omega
 have D:=t _ _ (by omega) (by omega) (by omega) (by omega) c;have E:=t _ _ (by omega) (by omega) (by omega) (by omega) j;omega
theorem DH{α:Type}{k:QX}{x:α}:∀ {c:List (QX×α)},aU .str c k=some x→(k,x)∈c
 | [],h=>by cases h
 | q::r,h=>by
  simp only[aU]at h;split at h
  ·rename_i e;have f:q.1=k:=by simpa [cJ]using e
   cases h;rw[←f];exact .head _
  ·exact .tail _ (DH h)
theorem FZ{α:Type}{k:QX}{x:α}:∀ {c:List (QX×α)},aU .str c k=none→(cj .str c k x).length=c.length+1
 | [],_=>rfl
 | q::r,h=>by
  simp only[aU]at h;split at h
  ·cases h
  ·rename_i e;simp only[cj];rw[if_neg e,List.length_cons,FZ h,List.length_cons]
structure Nb(n:Nat)(K:QK):Prop where
 len:K.length=n
 val:∀s,s<n→0≤K.getD s 0∧K.getD s 0<(n:Int)
 fst:∀s,s<n→K.getD s 0=0∨∃j,j<s∧K.getD j 0=K.getD s 0 - 1
abbrev OG:=(List (QX×Int))×QK×QK×Int
def OY(f:Int→QK→Option QK)(v:Int):OG→Option (OG⊕QK):=fun(e,v20,p,c) =>
 (if(decide (c<v))=true then(if 0≤(0:Int)∧0≤(p.length:Int)then((f c (p.take (0:Int).toNat)).bind fun u =>
 ((iter (jb u) (([]:QK),0)).bind fun j=>(((if(!((aU .str e (bytesOf j)).isSome))=true then some (((cj .str e (bytesOf j) (e.length:Int)),(e.length:Int)))
 else some ((e,((aU .str e (bytesOf j)).getD 0))))).bind fun(q,v30)=>(if 0≤c∧c<(v20.length:Int)then(if c.toNat<v20.length then some (Sum.inl (q,(v20.set c.toNat v30),u,(i64.wrap (c+1))))else none)else none))))else none)
 else some (Sum.inr v20))
theorem Ct{n:Nat}(hn:0<n∧n≤300){f:Int→QK→Option QK}{key:Nat→QK}(hf:∀s:Nat,s<n→f (s:Int) []=some (key s))(hk:∀s,s<n→(key s).length≤1000){K:Nat→Int}(h0:∀s,s<n→0≤K s)
  (hP:∀s,s<n→K s=0∨∃j,j<s∧K j=K s - 1) (I:∀j s,j<n→s<n→bytesOf ((key j).flatMap four)=bytesOf ((key s).flatMap four)→K j=K s) :
  Ho (iter (OY f (n:Int)) ([],List.replicate n 0,[],0)) (fun o=>Nb n o∧∀s,s<n→K s≤mx o):=by
 refine bF (fun(m,o,_,i)=>∃s:Nat,i=(s:Int)∧s≤n∧o.length=n∧(∀j,j<s→0≤o.getD j 0∧o.getD j 0<(m.length:Int))∧(s=0∨∃j,j<s∧o.getD j 0=(m.length:Int) - 1)∧m.length≤s ∧
   (∀j,j<s→o.getD j 0=0∨∃q,q<j∧o.getD q 0=o.getD j 0 - 1)∧(∀p∈m,(0≤p.2∧p.2<(m.length:Int))∧∃j,j<s∧p.1=bytesOf ((key j).flatMap four))∧(∀j,j<s→K j<(m.length:Int))∧∀c:Int,0≤c→c<(m.length:Int)→∃j,j<s∧o.getD j 0=c)
  (fun(_,_,_,i)=>((n:Int) - i).toNat) ⟨0,rfl,by omega,by simp,fun _ h=>(by omega),.inl rfl,by simp,fun _ h=>(by omega),fun _ h=>(by cases h),fun _ h=>(by omega),fun c h1 J=>(by simp only[List.length_nil]at J;omega)⟩ fun(m,o,k',i) ⟨s,e,h1,J,X,M,h5,N,Y,D,O⟩=>?_
 subst e;refine aK (fun hi=>?_) fun hi=>?_
 rotate_left
 ·rw[dec_lt]at hi;obtain rfl:s=n:=by omega
  refine av ⟨⟨J,fun j C=>?_,N⟩,fun j C=>?_⟩
  ·have:=X j C;omega
  ·rcases M with M | ⟨q,z,A⟩
   ·omega
   ·have:=D j C;have:=Lj (bS (l:=o) (i:=q) (by omega) 0);omega
 rw[dec_lt]at hi;have V:s<n:=by omega
 refine aW ⟨by decide,by omega⟩ ?_;refine aq (P:=fun r=>r=key s) ⟨_,hf s V,rfl⟩ fun r hr=>?_
 subst hr;refine aq (JS (hk s V)) fun v hv=>?_
 subst hv;have hw:i64.wrap ((s:Int)+1)=((s+1:Nat):Int):=by rw[bQ (by omega) (by omega)];rfl
 have u:∀(v:Int) j,j<s→(o.set s v).getD j 0=o.getD j 0:=fun v j C=>by rw[qu _ _ _ _ (by omega),if_neg (by omega)]
 have B:∀v:Int,(o.set s v).getD s 0=v:=fun v=>by rw[qu _ _ _ _ (by omega),if_pos rfl]
 have a3:(∀j,j<s→K j≠K s)∨K s<(m.length:Int):=by
  by_cases q:∃j,j<s∧K j=K s
  ·obtain⟨j,E,L⟩:=q;exact .inr (by rw[←L];exact D j E)
  ·exact .inl fun j C e=>q ⟨j,C,e⟩
 have a4:K s≤(m.length:Int):=by
  rcases hP s V with e | ⟨j,E,L⟩
  ·omega
  ·have:=D j E;omega
 cases hm:aU .str m (bytesOf ((key s).flatMap four))with
 | none =>
  have hl:=FZ (x:=(m.length:Int)) hm;simp only[Option.isSome_none,Bool.not_false,if_true,Option.bind_some,Int.toNat_natCast];rw[hw];refine aW (by omega) (aW (by omega) (av ⟨⟨s+1,rfl,by omega,by rw[List.length_set];exact J,fun j C=>?_,.inr ⟨s,by omega,?_⟩,Nat.le_trans (Nat.le_of_eq hl) (by omega),fun j C=>?_,fun p Z=>?_,fun j C=>?_,fun c c1 c2=>?_⟩,by simp <;> omega⟩))
  ·by_cases e:j=s
   ·subst e;rw[B,hl];omega
   ·rw[u _ _ (by omega),hl];have:=X j (by omega);omega
  ·rw[B,hl];omega
  ·by_cases e:j=s
   ·subst e;rw[B];by_cases a5:m.length=0
    ·left;omega
    ·right
     obtain⟨q,z,A⟩:=O ((m.length:Int) - 1) (by omega) (by omega);exact⟨q,z,by rw[u _ _ z];exact A⟩
   ·rw[u _ _ (by omega)];rcases N j (by omega)with q | ⟨q,z,A⟩
    ·exact .inl q
    ·exact .inr ⟨q,z,by rw[u _ _ (by omega)];exact A⟩
  ·rw[hl];rcases mem_set Z with e | e
   ·rw[e];exact⟨⟨by simp <;> omega,by simp <;> omega⟩,s,by omega,rfl⟩
   ·obtain⟨z,j,A,q3⟩:=Y p e;exact⟨⟨z.1,by omega⟩,j,by omega,q3⟩
  ·rw[hl];by_cases e:j=s
   ·subst e;omega
   ·have:=D j (by omega);omega
  ·rw[hl]at c2;by_cases e:c=(m.length:Int)
   ·exact⟨s,by omega,by rw[B,e]⟩
   ·obtain⟨q,z,A⟩:=O c c1 (by omega);exact⟨q,by omega,by rw[u _ _ z];exact A⟩
 | some x =>
  obtain⟨⟨x1,x2⟩,j0,E,L⟩:=Y _ (DH hm);simp only at x1 x2 L;have a1:=I j0 s (by omega) V L.symm;have:=D j0 E;simp only[Option.isSome_some,Bool.not_true,Bool.false_eq_true,if_false,Option.bind_some,Option.getD_some,Int.toNat_natCast];rw[hw];obtain⟨jx,a2,a6⟩:=O x x1 x2;refine aW (by omega) (aW (by omega) (av ⟨⟨s+1,rfl,by omega,by rw[List.length_set];exact J,fun j C=>?_,?_,Nat.le_succ_of_le h5,fun j C=>?_,fun p Z=>?_,fun j C=>?_,fun c c1 c2=>?_⟩,by simp <;> omega⟩))
  ·by_cases e:j=s
   ·subst e;rw[B];exact⟨x1,x2⟩
   ·rw[u _ _ (by omega)];exact X j (by omega)
  ·rcases M with M | ⟨q,z,A⟩
   ·omega
   ·exact .inr ⟨q,by omega,by rw[u _ _ z];exact A⟩
  ·by_cases e:j=s
   ·subst e;rw[B];rcases N jx a2 with q | ⟨q,z,A⟩
    ·left;omega
    ·exact .inr ⟨q,by omega,by rw[u _ _ (by omega)];omega⟩
   ·rw[u _ _ (by omega)];rcases N j (by omega)with q | ⟨q,z,A⟩
    ·exact .inl q
    ·exact .inr ⟨q,z,by rw[u _ _ (by omega)];exact A⟩
  ·obtain⟨z,j,A,q3⟩:=Y p Z;exact⟨z,j,by omega,q3⟩
  ·by_cases e:j=s
   ·subst e;rw[←a1];exact D j0 E
   ·exact D j (by omega)
  ·obtain⟨q,z,A⟩:=O c c1 c2;exact⟨q,by omega,by rw[u _ _ z];exact A⟩
theorem WB.row{nx:QZ}{ou:QK}{k m:Nat}(h:WB nx ou k m){s:Nat}(c:s<nx.length):(nx.getD s []).length=k∧∀x∈nx.getD s [],0≤x∧x<(nx.length:Int) :=
 ⟨h.len _ (bS c _),h.val _ (bS c _)⟩
section
variable{nx:QZ}{ou:QK}{k m:Nat}(h:WB nx ou k m)(hn:0<nx.length∧nx.length≤300)(hk:k≤24)
include h hn hk
theorem Je:Ho (mf nx ou) (fun b=>b=true):=by
 refine aq (P:=fun b=>b=false) ?_ fun b hb=>?_
 ·rw[if_neg (by simp only[beq_iff_eq];omega)];exact av (by rw[h.ol];simp)
 subst hb;rw[if_neg (by decide)];refine aq (P:=Lp (fun _=>True) fun _=>False) ?_ ?_
 rotate_left
 ·rintro(_ | r) c
  ·exact av rfl
  ·exact c.elim
 refine bF (fun i=>0≤i∧i≤(nx.length:Int)) (fun i=>((nx.length:Int) - i).toNat) ⟨Int.le_refl _,by omega⟩ fun i ⟨f,x⟩=>?_
 refine aK (fun hi=>?_) fun _=>av trivial
 rw[dec_lt]at hi;obtain⟨e,u⟩:=h.row (s:=i.toNat) (by omega);obtain⟨v,_⟩:=h.row (s:=(0:Int).toNat) (by simp only[Int.toNat_zero];omega);refine aW ⟨f,hi⟩ (aW (by omega) ?_);rw[if_neg (by rw[e,v];simp)];refine aq (P:=Lp (fun _=>True) fun _=>False) ?_ ?_
 rotate_left
 ·rintro(_ | r) c
  ·dsimp only;rw[bQ f (by omega)];exact av ⟨⟨by(try simp only);omega,by(try simp only);omega⟩,by(try simp only);omega⟩
  ·exact c.elim
 refine bF (fun j=>0≤j∧j≤(k:Int)) (fun j=>((k:Int) - j).toNat) ⟨Int.le_refl _,by omega⟩ fun j ⟨p,g2⟩=>?_
 refine aK (fun q=>?_) fun _=>av trivial
 rw[dec_lt,e]at q;obtain⟨z,A⟩:=u _ (bS (i:=j.toNat) (by omega) 0);refine aW ⟨p,by rw[e];exact q⟩ (aq (P:=fun b=>b=false) ?_ fun b hb=>?_)
 ·rw[if_neg (by simp only[decide_eq_true_eq];omega)];exact av (by simp only[decide_eq_false_iff_not];omega)
 ·subst hb;rw[if_neg (by decide),bQ p (by omega)];exact av ⟨⟨by(try simp only);omega,by(try simp only);omega⟩,by(try simp only);omega⟩
omit hk in
theorem Hj:Ho (mr (ou.length:Int) nx ou) (Nb nx.length):=by
 have c:=h.ol;refine aW ⟨by omega,Int.le_refl _,by omega,by omega⟩ ?_;rw[c];refine aq (P:=Nb nx.length) (Fy (Ct (n:=nx.length) hn (f:=fun s k=>iq s nx ou k) (key:=fun s=>[i64.wrap (ou.getD s 0)]) (fun s j=>?_) (fun _ _=>by simp) (K:=fun _=>0) (fun _ _=>Int.le_refl _) (fun _ _=> .inl rfl) fun _ _ _ _ _=>rfl) fun r e=>e.1) fun r e=>av e
 show(if _ then _ else none)=_;rw[if_pos (by omega),if_pos (by simp),Int.toNat_natCast];rfl
theorem Hh{K:QK}(q:Nb nx.length K):Ho (iU (K.length:Int) K nx ou) (fun r=>Nb nx.length r∧mx K≤mx r):=by
 have u:=q.len;refine aW ⟨by omega,Int.le_refl _,by omega,by omega⟩ ?_;rw[u];refine aq (P:=fun r=>Nb nx.length r∧mx K≤mx r) (Fy (Ct (n:=nx.length) hn (f:=fun s k=>ir s K nx ou k) (key:=fun s=>K.getD s 0::(nx.getD s []).map fun t=>K.getD t.toNat 0) (fun s c=>?_) (fun s c=>?_) (K:=fun s=>K.getD s 0) (fun s c=>(q.val s c).1) (fun s c=>q.fst s c) fun j s A c e=>?_) fun r p=>⟨p.1,?_⟩) fun r p=>av p
 ·obtain⟨x,B⟩:=h.row c;obtain⟨r,e,p⟩:Ho (iter (fG (s:Int) K nx) (([]++[K.getD s 0]),0)) (fun r=>r=K.getD s 0::(nx.getD s []).map fun t=>K.getD t.toNat 0):=by
   refine bF (fun(v,i)=>0≤i∧i≤(k:Int)∧v=K.getD s 0::((nx.getD s []).take i.toNat).map fun t=>K.getD t.toNat 0) (fun(_,i)=>((k:Int) - i).toNat) ⟨Int.le_refl _,by omega,rfl⟩ fun(v,i) ⟨z,g2,g3⟩=>?_
   subst g3;unfold fG;simp only[Int.toNat_natCast];refine aK (fun hi=>?_) fun hi=>?_
   ·rw[dec_lt,x]at hi;obtain⟨C,D⟩:=B _ (bS (i:=i.toNat) (by omega) 0);refine aW ⟨z,by rw[x];exact hi⟩ (aW ⟨C,by rw[u];exact D⟩ (aW (by simp only[List.length_cons,List.length_map,List.length_take,List.length_nil];omega) ?_));rw[bQ z (by omega)];refine av ⟨⟨by(try simp only);omega,by(try simp only);omega,?_⟩,by(try simp only);omega⟩;rw[show(i+1).toNat=i.toNat+1 by omega,List.take_add_one,List.getElem?_eq_getElem (by omega),List.map_append,List.getD_eq_getElem?_getD (l:=nx.getD s []),List.getElem?_eq_getElem (by omega)];rfl
   ·rw[dec_lt,x]at hi;have:i.toNat=(nx.getD s []).length:=by omega
    exact av (show _=_ by rw[this,List.take_length])
  show(if _ then _ else none)=_;rw[if_pos (by omega),if_pos (by simp),if_pos (by omega),Int.toNat_natCast,e,p];rfl
 ·obtain⟨x,_⟩:=h.row c;simp only[List.length_cons,List.length_map,x];omega
 ·have v1:=q.val j A;have E:=q.val s c;simp only[List.flatMap_cons]at e;exact IT ⟨v1.1,by omega⟩ ⟨E.1,by omega⟩ e
 ·rcases JA K with e | e
  ·rw[e];exact Jm r
  ·obtain⟨i,hi,I⟩:=List.mem_iff_getElem.1 e;have:=p.2 i (by omega);rw[List.getD_eq_getElem?_getD,List.getElem?_eq_getElem hi,Option.getD_some,I]at this;exact this
theorem HF{K:QK}(c:Nb nx.length K):Ho (iter (mY nx ou) K) (Nb nx.length):=by
 have lt:∀K,Nb nx.length K→mx K<(nx.length:Int):=fun K c=>by
  rcases JA K with e | e
  ·omega
  ·obtain⟨i,hi,q⟩:=List.mem_iff_getElem.1 e;have:=(c.val i (by rw[←c.len];exact hi)).2;rw[List.getD_eq_getElem?_getD,List.getElem?_eq_getElem hi,Option.getD_some,q]at this;exact this
 refine bF (Nb nx.length) (fun K=>((nx.length:Int) - mx K).toNat) c fun K c=>?_
 refine aq (Hh h hn hk c) fun r f=>aq (AM (by rw[f.1.len];omega)) fun a ha=>aq (AM (by rw[c.len];omega)) fun b hb=>aK (fun _=>av c) fun j=>av ⟨f.1,?_⟩
 subst ha hb;have p:mx r≠mx K:=by simpa using j
 have:=f.2;have:=lt _ f.1;have:=lt _ c;omega
theorem Hb{K:QK}(hK:Nb nx.length K):Ho (kS nx ou K) (fun r=>(0<r.1.length∧r.1.length≤300)∧WB r.1 r.2 k m):=by
 have a4:=hK.len;have a5:mx K<(nx.length:Int):=by
  rcases JA K with e | e
  ·omega
  ·obtain⟨i,hi,e2⟩:=List.mem_iff_getElem.1 e;have:=(hK.val i (by rw[←hK.len];exact hi)).2;rw[List.getD_eq_getElem?_getD,List.getElem?_eq_getElem hi,Option.getD_some,e2]at this;exact this
 have E:∀s,s<nx.length→0≤K.getD s 0∧K.getD s 0≤mx K:=fun s hs=>⟨(hK.val s hs).1,Lj (bS (by omega) 0)⟩
 have hp:=Jm K;refine aq (AM (by omega)) fun M hM=>?_
 subst hM;obtain⟨M,hM⟩:∃M:Nat,mx K=(M:Int):=⟨(mx K).toNat,by omega⟩;have hw:i64.wrap (mx K+1)=((M+1:Nat):Int):=by rw[bQ hp (by omega),hM];rfl
 rw[hw];refine aW ⟨by omega,Int.le_refl _,by omega,by omega⟩ (aq (P:=fun v=>v.length=M+1∧∀x∈v,x = -1) ?_ fun v hv=>?_)
 ·refine bF (fun(v,i)=>0≤i∧i≤((M+1:Nat):Int)∧v.length=M+1∧∀j,j<i.toNat→v.getD j 0 = -1) (fun(_,i)=>(((M+1:Nat):Int) - i).toNat) ⟨Int.le_refl _,by omega,by simp,fun j C=>by simp at C⟩ fun(v,i) ⟨V,g2,g3,g4⟩=>?_
  unfold ky;rw[hw];simp only[Int.toNat_natCast,List.length_replicate];refine aK (fun hi=>?_) fun hi=>?_
  ·rw[dec_lt]at hi;refine aW ⟨V,by omega⟩ (aW (by omega) ?_);rw[bQ V (by omega)];refine av ⟨⟨by(try simp only);omega,by(try simp only);omega,by rw[List.length_set];exact g3,fun j C=>?_⟩,by(try simp only);omega⟩;rw[qu _ _ _ _ (by omega)];split
   ·rfl
   ·exact g4 j (by omega)
  ·rw[dec_lt]at hi;refine av ⟨g3,fun x z=>?_⟩;obtain⟨j,C,e⟩:=List.mem_iff_getElem.1 z;have:=g4 j (by omega);rw[List.getD_eq_getElem?_getD,List.getElem?_eq_getElem C,Option.getD_some,e]at this;exact this
 obtain⟨v1,v2⟩:=hv;have X:=E 0 (by omega);have e0:(K.getD ((0:Int).toNat) 0).toNat<v.length:=by rw[v1];simp only[Int.toNat_zero];omega
 have c0:(v.set (K.getD ((0:Int).toNat) 0).toNat 0).countP (fun x=>decide (0≤x))=1:=by
  rw[List.countP_set e0];have:v.countP (fun x=>decide (0≤x))=0:=List.countP_eq_zero.2 fun x z=>by rw[v2 x z];decide
  rw[this,v2 _ (List.getElem_mem e0)];rfl
 refine aW (by omega) (aW ⟨X.1,by rw[v1];have:=X.2;simp only[Int.toNat_zero];omega⟩ (aW e0 (aq (P:=fun r=>(0<r.1.length∧r.1.length≤300)∧WB r.1 r.2 k m) ?_ fun r I=>av I)));have a1:∀s,s<nx.length→0≤ou.getD s 0∧ou.getD s 0<((2 ^ m:Nat):Int):=fun s hs=>h.ob _ (bS (by rw[h.ol];exact hs) 0)
 refine bF (fun(N,O,pl,p,i)=>0≤i∧i≤(p.length:Int)∧0<p.length∧pl.length=M+1∧pl.countP (fun x=>decide (0≤x))=p.length∧(∀x∈pl,x<(p.length:Int))∧(∀x∈p,0≤x∧x<(nx.length:Int)) ∧
   (N.length:Int)=i∧O.length=N.length∧(∀r∈N,r.length=k∧∀x∈r,0≤x∧x<(p.length:Int))∧∀x∈O,0≤x∧x<((2 ^ m:Nat):Int))
  (fun(_,_,_,_,i)=>(((M+1:Nat):Int) - i).toNat) ⟨Int.le_refl _,by decide,by decide,by rw[List.length_set];exact v1,c0,fun x z=>?_,fun x z=>?_,rfl,rfl,fun _ h=>(by cases h),fun _ h=>(by cases h)⟩
  fun(N,O,pl,p,i) ⟨V,g2,g3,g4,g5,g6,g7,g8,g9,D,Y⟩=>?_
 ·rcases List.mem_or_eq_of_mem_set z with q | q
  ·rw[v2 x q];decide
  ·rw[q];decide
 ·rw[List.mem_singleton.1 z];omega
 have a2:p.length≤M+1:=by rw[←g5,←g4];exact List.countP_le_length
 unfold kx;refine aK (fun hi=>?_) fun hi=>?_
 rotate_left
 ·rw[dec_lt]at hi;have e:N.length=p.length:=by omega
  exact av ⟨by rw[e];omega,fun r I=>(D r I).1,fun r I=>by rw[e];exact(D r I).2,g9,Y⟩
 rw[dec_lt]at hi;obtain⟨s0,s1⟩:=g7 _ (bS (i:=i.toNat) (by omega) 0);obtain⟨r1,r2⟩:=h.row (s:=(p.getD i.toNat 0).toNat) (by omega);refine aW ⟨V,hi⟩ (aW (by omega) (aW ⟨s0,s1⟩ (aq (P:=fun(f,c,row)=>p.length≤c.length∧f.length=M+1∧f.countP (fun x=>decide (0≤x))=c.length∧(∀x∈f,x<(c.length:Int))∧(∀x∈c,0≤x∧x<(nx.length:Int))∧c.getD i.toNat 0=p.getD i.toNat 0∧row.length=k∧∀x∈row,0≤x∧x<(c.length:Int)) ?_ ?_)))
 rotate_left
 ·rintro⟨f,c,row⟩ ⟨f1,J,L,Z,f5,f6,f7,f8⟩;obtain⟨b1,b2⟩:=a1 (p.getD i.toNat 0).toNat (by omega);have hb:0≤ou.getD (p.getD i.toNat 0).toNat 0∧ou.getD (p.getD i.toNat 0).toNat 0<((2 ^ m:Nat):Int):=⟨b1,b2⟩;have a6:=h.ol;simp only;rw[f6];refine aW (by simp <;> omega) (aW (by omega) (aW (by omega) (aW (by omega) (aW (by simp <;> omega) ?_))));rw[bQ V (by omega)];refine av ⟨⟨by(try simp only);omega,by(try simp only);omega,by(try simp only);omega,J,L,Z,f5,by simp <;> omega,by simp <;> omega,dZ (fun r I=>⟨(D r I).1,fun x z=>?_⟩) ⟨f7,f8⟩,dZ Y hb⟩,by(try simp only);omega⟩;have:=(D r I).2 x z
  (try simp only);omega
 refine bF (fun(f,c,row,j)=>0≤j∧j≤(k:Int)∧p.length≤c.length∧f.length=M+1∧f.countP (fun x=>decide (0≤x))=c.length∧(∀x∈f,x<(c.length:Int))∧(∀x∈c,0≤x∧x<(nx.length:Int))∧c.getD i.toNat 0=p.getD i.toNat 0∧(row.length:Int)=j∧∀x∈row,0≤x∧x<(c.length:Int))
  (fun(_,_,_,j)=>((k:Int) - j).toNat) ⟨Int.le_refl _,by omega,Nat.le_refl _,g4,g5,g6,g7,rfl,rfl,fun _ h=>(by cases h)⟩ fun(f,c,row,j) ⟨f0,a7,f1,J,L,Z,f5,f6,f7,f8⟩=>?_
 have a3:c.length≤M+1:=by rw[←L,←J];exact List.countP_le_length
 unfold kh;refine aK (fun C=>?_) fun C=>?_
 rotate_left
 ·rw[dec_lt,r1]at C;exact av ⟨f1,J,L,Z,f5,f6,by omega,f8⟩
 rw[dec_lt,r1]at C;obtain⟨t0,t1⟩:=r2 _ (bS (i:=j.toNat) (by omega) 0);generalize ht:(nx.getD (p.getD i.toNat 0).toNat []).getD j.toNat 0=t at t0 t1;obtain⟨q0,q1⟩:=E t.toNat (by omega);generalize a8:K.getD t.toNat 0=kt at q0 q1;refine aW ⟨f0,by rw[r1];exact C⟩ (aW ⟨t0,by omega⟩ (aW ⟨q0,by omega⟩ (aW (by omega) (aq (P:=fun(A,B)=>c.length≤B.length∧A.length=M+1∧A.countP (fun x=>decide (0≤x))=B.length∧(∀x∈A,x<(B.length:Int))∧(∀x∈B,0≤x∧x<(nx.length:Int))∧B.getD i.toNat 0=c.getD i.toNat 0∧0≤A.getD kt.toNat 0) ?_ ?_))))
 ·have u:kt.toNat<f.length:=by omega
  refine aK (fun hc=>?_) fun hc=>av ⟨Nat.le_refl _,J,L,Z,f5,rfl,?_⟩
  ·rw[dec_lt]at hc;refine aW ⟨t0,by omega⟩ (aW ⟨q0,by omega⟩ (aW u (aW (by simp <;> omega) (av ⟨by simp,by rw[List.length_set];exact J,?_,fun x z=>?_,dZ f5 ⟨t0,t1⟩,?_,?_⟩))))
   ·rw[List.countP_set u,L];have e:f[kt.toNat]=f.getD kt.toNat 0:=by rw[List.getD_eq_getElem?_getD,List.getElem?_eq_getElem u];rfl
    rw[e,if_neg (by simp only[decide_eq_true_eq];omega),if_pos (by simp only[decide_eq_true_eq];omega)];simp
   ·simp only[List.length_append,List.length_singleton];rcases List.mem_or_eq_of_mem_set z with q | q
    ·have:=Z x q;omega
    ·rw[q];omega
   ·rw[Gr,if_pos (by omega)]
   ·rw[qu _ _ _ _ u,if_pos rfl];omega
  ·simpa using hc
 ·rintro⟨A,B⟩ ⟨d1,d2,d3,d4,d5,d6,d7⟩;have u:kt.toNat<A.length:=by omega
  refine aW ⟨t0,by omega⟩ (aW ⟨q0,by omega⟩ (aW u (aW (by simp <;> omega) ?_)));rw[bQ f0 (by omega)];refine av ⟨⟨by(try simp only);omega,by(try simp only);omega,by(try simp only);omega,d2,d3,d4,d5,d6.trans f6,by simp <;> omega,dZ (fun x z=>?_) ⟨d7,d4 _ (bS u 0)⟩⟩,by(try simp only);omega⟩;have:=f8 x z;omega
theorem sU:Ho (lX nx ou) (fun r=>(0<r.1.1.length∧r.1.1.length≤300)∧WB r.1.1 r.1.2 k m):=by
 refine aq (Je h hn hk) fun b hb=>?_
 subst hb;rw[if_neg (by decide)];exact aq (Hj h hn) fun K c=>aq (HF h hn hk c) fun K c=>aq (Hb h hn hk c) fun r e=>av e
end
end
end Go.Proofs.YtmcemnfjddoejaaGreatDoor.T
