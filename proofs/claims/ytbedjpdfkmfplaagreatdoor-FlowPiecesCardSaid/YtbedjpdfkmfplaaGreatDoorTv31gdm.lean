import Derived.Test.YtbedjpdfkmfplaaGreatDoorTvZam
namespace Go.Proofs.YtbedjpdfkmfplaaGreatDoor.T
open Go Go.Tv Go.Proofs
open Go.IntKind (i64 u8)
noncomputable section
theorem bU{α:Type}{l:List α}{i:Nat}(h:i<l.length)(d:α):l.getD i d∈l:=by
 rw[List.getD_eq_getElem?_getD,List.getElem?_eq_getElem h];exact List.getElem_mem h
theorem GY{α:Type}(l:List α)(x d:α)(i:Nat):(l++[x]).getD i d=if i<l.length then l.getD i d else if i=l.length then x else d:=by
 simp only[List.getD_eq_getElem?_getD];split
 ·rename_i h;rw[List.getElem?_append_left h]
 ·rename_i h;rw[List.getElem?_append_right (by omega)];split
  ·rename_i e;rw[e,Nat.sub_self];rfl
  ·rename_i e;rw[List.getElem?_eq_none (by simp only[List.length_singleton];omega)];rfl
theorem qu(l:QK)(k j:Nat)(v:Int)(hk:k<l.length):(l.set k v).getD j 0=if k=j then v else l.getD j 0:=by
 simp only[List.getD_eq_getElem?_getD,List.getElem?_set];by_cases e:k=j
 ·rw[if_pos e,if_pos e,if_pos (by omega)];rfl
 ·rw[if_neg e,if_neg e]
/-! ### q f number -/
def mx(l:QK):Int:=l.foldl max 0
theorem foldl_max(l:QK):∀a:Int,a≤l.foldl max a∧(∀x∈l,x≤l.foldl max a)∧(l.foldl max a=a∨l.foldl max a∈l):=by
 induction l with
 | nil=>exact fun a=>⟨Int.le_refl _,fun _ h=>(by cases h),.inl rfl⟩
 | cons x l f =>
  intro a;obtain⟨z,j,u⟩:=f (max a x);refine⟨by simp only[List.foldl_cons];omega,fun y v=>?_,?_⟩
  ·simp only[List.foldl_cons];rcases List.mem_cons.1 v with e | e
   ·rw[e];omega
   ·exact j y e
  ·simp only[List.foldl_cons];rcases u with e | e
   ·rw[e];rcases Int.le_total a x with q | q
    ·rw[Int.max_eq_right q];exact .inr (.head _)
    ·rw[Int.max_eq_left q];exact .inl rfl
   ·exact .inr (.tail _ e)
theorem KW{l:QK}{x:Int}(h:x∈l):x≤mx l:=(foldl_max l 0).2.1 x h
theorem Jr(l:QK):0≤mx l:=(foldl_max l 0).1
theorem Je(l:QK):mx l=0∨mx l∈l:=(foldl_max l 0).2.2
theorem As{l:QK}(hl:l.length≤1000):Ho (jQ l) (fun m=>m=mx l):=by
 refine ao (P:=fun m=>m=mx l) (bG (fun(m,i)=>0≤i∧i≤(l.length:Int)∧m=(l.take i.toNat).foldl max 0) (fun(_,i)=>((l.length:Int) - i).toNat) ⟨Int.le_refl _,by omega,rfl⟩ fun(m,i) ⟨e,u,f⟩=>?_) fun m q=>aq q
 refine aJ (fun hi=>?_) fun hi=>?_
 ·rw[dec_lt]at hi;rw[if_pos ⟨e,hi⟩,bS e (by omega)];refine aq ⟨⟨by omega,by omega,?_⟩,by(try simp only);omega⟩;rw[show(i+1).toNat=i.toNat+1 by omega,List.take_add_one,List.getElem?_eq_getElem (by omega),List.foldl_append,←f,List.getD_eq_getElem?_getD,List.getElem?_eq_getElem (by omega)];rfl
 ·rw[dec_lt]at hi;have:i.toNat=l.length:=by omega
  exact aq (by rw[f,this,List.take_length];rfl)
/-! ### j -/
def four(x:Int):QK:=[u8.wrap x,u8.wrap (Int.fdiv x (2 ^ (min (8:Int).toNat i64.bits))),u8.wrap (Int.fdiv x (2 ^ (min (16:Int).toNat i64.bits))),u8.wrap (Int.fdiv x (2 ^ (min (24:Int).toNat i64.bits)))]
theorem Kx{r:QK}(j:r.length≤1000):Ho (iter (jz r) ([],0)) (fun v=>v=r.flatMap four):=by
 refine bG (fun(v,i)=>0≤i∧i≤(r.length:Int)∧v=(r.take i.toNat).flatMap four∧(v.length:Int)=4*i) (fun(_,i)=>((r.length:Int) - i).toNat) ⟨Int.le_refl _,by omega,rfl,rfl⟩ fun(v,i) ⟨e,q,f,u⟩=>?_
 refine aJ (fun hi=>?_) fun hi=>?_
 ·rw[dec_lt]at hi;refine aW ⟨e,hi⟩ (aW (by omega) (aW (by decide) (aW (by decide) (aW (by decide) (aW (by simp only[List.length_cons,List.length_nil];omega) ?_)))));rw[bS e (by omega)];refine aq ⟨⟨by omega,by omega,?_,by simp only[List.length_append,List.length_cons,List.length_nil];omega⟩,by(try simp only);omega⟩;rw[show(i+1).toNat=i.toNat+1 by omega,List.take_add_one,List.getElem?_eq_getElem (by omega),List.flatMap_append,←f,List.getD_eq_getElem?_getD,List.getElem?_eq_getElem (by omega)];simp[four]
 ·rw[dec_lt]at hi;have:i.toNat=r.length:=by omega
  exact aq (show v=r.flatMap four by rw[f,this,List.take_length])
theorem Iq{x y:Int}{a b:QK}(v:0≤x∧x<65536)(A:0≤y∧y<65536)(h:bytesOf (four x++a)=bytesOf (four y++b)):x=y:=by
 have u:∀z:Int,0≤z→Int.fdiv z (2 ^ (min (8:Int).toNat i64.bits))=z / 256:=fun z hz=>by rw[show((2:Int) ^ (min (8:Int).toNat i64.bits))=256 by decide,Int.fdiv_eq_ediv_of_nonneg _ (by decide)]
 have j:(bytesOf (four x++a))[0]? = (bytesOf (four y++b))[0]? :=by rw[h]
 have q:(bytesOf (four x++a))[1]? = (bytesOf (four y++b))[1]? :=by rw[h]
 simp only[bytesOf,four,List.map_append,List.map_cons,List.cons_append,List.getElem?_cons_zero,List.getElem?_cons_succ,Option.some.injEq,u x v.1,u y A.1]at j q;rw[IntKind.wrap_u8,IntKind.wrap_u8]at j q;have t:∀z w:Int,0≤z→z<256→0≤w→w<256→UInt8.ofNat z.toNat=UInt8.ofNat w.toNat→z=w:=fun z w B C D E e=>by have:=congrArg UInt8.toNat e;rw[UInt8.toNat_ofNat',UInt8.toNat_ofNat',Nat.mod_eq_of_lt (by omega),Nat.mod_eq_of_lt (by omega)]at this;omega
 have I:=t _ _ (by omega) (by omega) (by omega) (by omega) j;have J:=t _ _ (by omega) (by omega) (by omega) (by omega) q;omega
theorem Dm{α:Type}{k:QX}{x:α}:∀ {f:List (QX×α)},aT .str f k=some x→(k,x)∈f
 | [],h=>by cases h
 | q::r,h=>by
  simp only[aT]at h;split at h
  ·rename_i e;have j:q.1=k:=by simpa [eD]using e
   cases h;rw[←j];exact .head _
  ·exact .tail _ (Dm h)
theorem FJ{α:Type}{k:QX}{x:α}:∀ {f:List (QX×α)},aT .str f k=none→(cq .str f k x).length=f.length+1
 | [],_=>rfl
 | q::r,h=>by
  simp only[aT]at h;split at h
  ·cases h
  ·rename_i e;simp only[cq];rw[if_neg e,List.length_cons,FJ h,List.length_cons]
structure Nb(n:Nat)(K:QK):Prop where
 len:K.length=n
 val:∀s,s<n→0≤K.getD s 0∧K.getD s 0<(n:Int)
 fst:∀s,s<n→K.getD s 0=0∨∃j,j<s∧K.getD j 0=K.getD s 0 - 1
abbrev OJ:=(List (QX×Int))×QK×QK×Int
def Pc(f:Int→QK→Option QK)(A:Int):OJ→Option (OJ⊕QK):=fun(j,v20,u,e) =>
 (if(decide (e<A))=true then(if 0≤(0:Int)∧0≤(u.length:Int)then((f e (u.take (0:Int).toNat)).bind fun z =>
 ((iter (jz z) (([]:QK),0)).bind fun q=>(((if(!((aT .str j (bytesOf q)).isSome))=true then some (((cq .str j (bytesOf q) (j.length:Int)),(j.length:Int)))
 else some ((j,((aT .str j (bytesOf q)).getD 0))))).bind fun(v,v30)=>(if 0≤e∧e<(v20.length:Int)then(if e.toNat<v20.length then some (Sum.inl (v,(v20.set e.toNat v30),z,(i64.wrap (e+1))))else none)else none))))else none)
 else some (Sum.inr v20))
theorem Dl{n:Nat}(hn:0<n∧n≤300){f:Int→QK→Option QK}{key:Nat→QK}(hf:∀s:Nat,s<n→f (s:Int) []=some (key s))(hk:∀s,s<n→(key s).length≤1000){K:Nat→Int}(h0:∀s,s<n→0≤K s)
  (hP:∀s,s<n→K s=0∨∃j,j<s∧K j=K s - 1) (I:∀j s,j<n→s<n→bytesOf ((key j).flatMap four)=bytesOf ((key s).flatMap four)→K j=K s) :
  Ho (iter (Pc f (n:Int)) ([],List.replicate n 0,[],0)) (fun o=>Nb n o∧∀s,s<n→K s≤mx o):=by
 refine bG (fun(m,o,_,i)=>∃s:Nat,i=(s:Int)∧s≤n∧o.length=n∧(∀j,j<s→0≤o.getD j 0∧o.getD j 0<(m.length:Int))∧(s=0∨∃j,j<s∧o.getD j 0=(m.length:Int) - 1)∧m.length≤s ∧
   (∀j,j<s→o.getD j 0=0∨∃q,q<j∧o.getD q 0=o.getD j 0 - 1)∧(∀p∈m,(0≤p.2∧p.2<(m.length:Int))∧∃j,j<s∧p.1=bytesOf ((key j).flatMap four))∧(∀j,j<s→K j<(m.length:Int))∧∀c:Int,0≤c→c<(m.length:Int)→∃j,j<s∧o.getD j 0=c)
  (fun(_,_,_,i)=>((n:Int) - i).toNat) ⟨0,rfl,by omega,by simp,fun _ h=>(by omega),.inl rfl,by simp,fun _ h=>(by omega),fun _ h=>(by cases h),fun _ h=>(by omega),fun c h1 J=>(by simp only[List.length_nil]at J;omega)⟩ fun(m,o,k',i) ⟨s,e,h1,J,X,M,h5,N,Y,D,O⟩=>?_
 subst e;refine aJ (fun hi=>?_) fun hi=>?_
 rotate_left
 ·rw[dec_lt]at hi;obtain rfl:s=n:=by omega
  refine aq ⟨⟨J,fun j C=>?_,N⟩,fun j C=>?_⟩
  ·have:=X j C;omega
  ·rcases M with M | ⟨q,z,A⟩
   ·omega
   ·have:=D j C;have:=KW (bU (l:=o) (i:=q) (by omega) 0);omega
 rw[dec_lt]at hi;have V:s<n:=by omega
 refine aW ⟨by decide,by omega⟩ ?_;refine ao (P:=fun r=>r=key s) ⟨_,hf s V,rfl⟩ fun r hr=>?_
 subst hr;refine ao (Kx (hk s V)) fun v hv=>?_
 subst hv;have hw:i64.wrap ((s:Int)+1)=((s+1:Nat):Int):=by rw[bS (by omega) (by omega)];rfl
 have u:∀(v:Int) j,j<s→(o.set s v).getD j 0=o.getD j 0:=fun v j C=>by rw[qu _ _ _ _ (by omega),if_neg (by omega)]
 have B:∀v:Int,(o.set s v).getD s 0=v:=fun v=>by rw[qu _ _ _ _ (by omega),if_pos rfl]
 have a3:(∀j,j<s→K j≠K s)∨K s<(m.length:Int):=by
  by_cases q:∃j,j<s∧K j=K s
  ·obtain⟨j,E,L⟩:=q;exact .inr (by rw[←L];exact D j E)
  ·exact .inl fun j C e=>q ⟨j,C,e⟩
 have a4:K s≤(m.length:Int):=by
  rcases hP s V with e | ⟨j,E,L⟩
  ·omega
  ·have:=D j E;omega
 cases hm:aT .str m (bytesOf ((key s).flatMap four))with
 | none =>
  have hl:=FJ (x:=(m.length:Int)) hm;simp only[Option.isSome_none,Bool.not_false,if_true,Option.bind_some,Int.toNat_natCast];rw[hw];refine aW (by omega) (aW (by omega) (aq ⟨⟨s+1,rfl,by omega,by rw[List.length_set];exact J,fun j C=>?_,.inr ⟨s,by omega,?_⟩,Nat.le_trans (Nat.le_of_eq hl) (by omega),fun j C=>?_,fun p Z=>?_,fun j C=>?_,fun c c1 c2=>?_⟩,by(try simp only);omega⟩))
  ·by_cases e:j=s
   ·subst e;rw[B,hl];omega
   ·rw[u _ _ (by omega),hl];have:=X j (by omega);omega
  ·rw[B,hl];omega
  ·by_cases e:j=s
   ·subst e;rw[B];by_cases a5:m.length=0
    ·left;omega
    ·right
     obtain⟨q,z,A⟩:=O ((m.length:Int) - 1) (by omega) (by omega);exact⟨q,z,by rw[u _ _ z];exact A⟩
   ·rw[u _ _ (by omega)];rcases N j (by omega)with q | ⟨q,z,A⟩
    ·exact .inl q
    ·exact .inr ⟨q,z,by rw[u _ _ (by omega)];exact A⟩
  ·rw[hl];rcases mem_set Z with e | e
   ·rw[e];exact⟨⟨by(try simp only);omega,by(try simp only);omega⟩,s,by omega,rfl⟩
   ·obtain⟨z,j,A,q3⟩:=Y p e;exact⟨⟨z.1,by omega⟩,j,by omega,q3⟩
  ·rw[hl];by_cases e:j=s
   ·subst e;omega
   ·have:=D j (by omega);omega
  ·rw[hl]at c2;by_cases e:c=(m.length:Int)
   ·exact⟨s,by omega,by rw[B,e]⟩
   ·obtain⟨q,z,A⟩:=O c c1 (by omega);exact⟨q,by omega,by rw[u _ _ z];exact A⟩
 | some x =>
  obtain⟨⟨x1,x2⟩,j0,E,L⟩:=Y _ (Dm hm);simp only at x1 x2 L;have a1:=I j0 s (by omega) V L.symm;have:=D j0 E;simp only[Option.isSome_some,Bool.not_true,Bool.false_eq_true,if_false,Option.bind_some,Option.getD_some,Int.toNat_natCast];rw[hw];obtain⟨jx,a2,a6⟩:=O x x1 x2;refine aW (by omega) (aW (by omega) (aq ⟨⟨s+1,rfl,by omega,by rw[List.length_set];exact J,fun j C=>?_,?_,Nat.le_succ_of_le h5,fun j C=>?_,fun p Z=>?_,fun j C=>?_,fun c c1 c2=>?_⟩,by(try simp only);omega⟩))
  ·by_cases e:j=s
   ·subst e;rw[B];exact⟨x1,x2⟩
   ·rw[u _ _ (by omega)];exact X j (by omega)
  ·rcases M with M | ⟨q,z,A⟩
   ·omega
   ·exact .inr ⟨q,by omega,by rw[u _ _ z];exact A⟩
  ·by_cases e:j=s
   ·subst e;rw[B];rcases N jx a2 with q | ⟨q,z,A⟩
    ·left;omega
    ·exact .inr ⟨q,by omega,by rw[u _ _ (by omega)];omega⟩
   ·rw[u _ _ (by omega)];rcases N j (by omega)with q | ⟨q,z,A⟩
    ·exact .inl q
    ·exact .inr ⟨q,z,by rw[u _ _ (by omega)];exact A⟩
  ·obtain⟨z,j,A,q3⟩:=Y p Z;exact⟨z,j,by omega,q3⟩
  ·by_cases e:j=s
   ·subst e;rw[←a1];exact D j0 E
   ·exact D j (by omega)
  ·obtain⟨q,z,A⟩:=O c c1 c2;exact⟨q,by omega,by rw[u _ _ z];exact A⟩
theorem WB.row{nx:QZ}{ou:QK}{k m:Nat}(h:WB nx ou k m){s:Nat}(e:s<nx.length):(nx.getD s []).length=k∧∀x∈nx.getD s [],0≤x∧x<(nx.length:Int) :=
 ⟨h.len _ (bU e _),h.val _ (bU e _)⟩
section
variable{nx:QZ}{ou:QK}{k m:Nat}(h:WB nx ou k m)(hn:0<nx.length∧nx.length≤300)(hk:k≤24)
include h hn hk
theorem Ju:Ho (mB nx ou) (fun b=>b=true):=by
 refine ao (P:=fun b=>b=false) ?_ fun b hb=>?_
 ·rw[if_neg (by simp only[beq_iff_eq];omega)];exact aq (by rw[h.ol];simp)
 subst hb;rw[if_neg (by decide)];refine ao (P:=Lp (fun _=>True) fun _=>False) ?_ ?_
 rotate_left
 ·rintro(_ | r) e
  ·exact aq rfl
  ·exact e.elim
 refine bG (fun i=>0≤i∧i≤(nx.length:Int)) (fun i=>((nx.length:Int) - i).toNat) ⟨Int.le_refl _,by omega⟩ fun i ⟨q,B⟩=>?_
 refine aJ (fun hi=>?_) fun _=>aq trivial
 rw[dec_lt]at hi;obtain⟨f,z⟩:=h.row (s:=i.toNat) (by omega);obtain⟨A,_⟩:=h.row (s:=(0:Int).toNat) (by simp only[Int.toNat_zero];omega);refine aW ⟨q,hi⟩ (aW (by omega) ?_);rw[if_neg (by rw[f,A];simp)];refine ao (P:=Lp (fun _=>True) fun _=>False) ?_ ?_
 rotate_left
 ·rintro(_ | r) e
  ·dsimp only;rw[bS q (by omega)];exact aq ⟨⟨by(try simp only);omega,by(try simp only);omega⟩,by(try simp only);omega⟩
  ·exact e.elim
 refine bG (fun j=>0≤j∧j≤(k:Int)) (fun j=>((k:Int) - j).toNat) ⟨Int.le_refl _,by omega⟩ fun j ⟨u,g2⟩=>?_
 refine aJ (fun v=>?_) fun _=>aq trivial
 rw[dec_lt,f]at v;obtain⟨C,D⟩:=z _ (bU (i:=j.toNat) (by omega) 0);refine aW ⟨u,by rw[f];exact v⟩ (ao (P:=fun b=>b=false) ?_ fun b hb=>?_)
 ·rw[if_neg (by simp only[decide_eq_true_eq];omega)];exact aq (by simp only[decide_eq_false_iff_not];omega)
 ·subst hb;rw[if_neg (by decide),bS u (by omega)];exact aq ⟨⟨by(try simp only);omega,by(try simp only);omega⟩,by(try simp only);omega⟩
omit hk in
theorem GH:Ho (mR (ou.length:Int) nx ou) (Nb nx.length):=by
 have e:=h.ol;refine aW ⟨by omega,Int.le_refl _,by omega,by omega⟩ ?_;rw[e];refine ao (P:=Nb nx.length) (Gb (Dl (n:=nx.length) hn (f:=fun s k=>iM s nx ou k) (key:=fun s=>[i64.wrap (ou.getD s 0)]) (fun s q=>?_) (fun _ _=>by simp) (K:=fun _=>0) (fun _ _=>Int.le_refl _) (fun _ _=> .inl rfl) fun _ _ _ _ _=>rfl) fun r j=>j.1) fun r j=>aq j
 show(if _ then _ else none)=_;rw[if_pos (by omega),if_pos (by simp),Int.toNat_natCast];rfl
theorem Hj{K:QK}(z:Nb nx.length K):Ho (jw (K.length:Int) K nx ou) (fun r=>Nb nx.length r∧mx K≤mx r):=by
 have A:=z.len;refine aW ⟨by omega,Int.le_refl _,by omega,by omega⟩ ?_;rw[A];refine ao (P:=fun r=>Nb nx.length r∧mx K≤mx r) (Gb (Dl (n:=nx.length) hn (f:=fun s k=>iL s K nx ou k) (key:=fun s=>K.getD s 0::(nx.getD s []).map fun t=>K.getD t.toNat 0) (fun s q=>?_) (fun s q=>?_) (K:=fun s=>K.getD s 0) (fun s q=>(z.val s q).1) (fun s q=>z.fst s q) fun j s D q e=>?_) fun r u=>⟨u.1,?_⟩) fun r u=>aq u
 ·obtain⟨B,E⟩:=h.row q;obtain⟨r,e,u⟩:Ho (iter (gr (s:Int) K nx) (([]++[K.getD s 0]),0)) (fun r=>r=K.getD s 0::(nx.getD s []).map fun t=>K.getD t.toNat 0):=by
   refine bG (fun(v,i)=>0≤i∧i≤(k:Int)∧v=K.getD s 0::((nx.getD s []).take i.toNat).map fun t=>K.getD t.toNat 0) (fun(_,i)=>((k:Int) - i).toNat) ⟨Int.le_refl _,by omega,rfl⟩ fun(v,i) ⟨C,g2,g3⟩=>?_
   subst g3;unfold gr;simp only[Int.toNat_natCast];refine aJ (fun hi=>?_) fun hi=>?_
   ·rw[dec_lt,B]at hi;obtain⟨I,J⟩:=E _ (bU (i:=i.toNat) (by omega) 0);refine aW ⟨C,by rw[B];exact hi⟩ (aW ⟨I,by rw[A];exact J⟩ (aW (by simp only[List.length_cons,List.length_map,List.length_take,List.length_nil];omega) ?_));rw[bS C (by omega)];refine aq ⟨⟨by(try simp only);omega,by(try simp only);omega,?_⟩,by(try simp only);omega⟩;rw[show(i+1).toNat=i.toNat+1 by omega,List.take_add_one,List.getElem?_eq_getElem (by omega),List.map_append,List.getD_eq_getElem?_getD (l:=nx.getD s []),List.getElem?_eq_getElem (by omega)];rfl
   ·rw[dec_lt,B]at hi;have:i.toNat=(nx.getD s []).length:=by omega
    exact aq (show _=_ by rw[this,List.take_length])
  show(if _ then _ else none)=_;rw[if_pos (by omega),if_pos (by simp),if_pos (by omega),Int.toNat_natCast,e,u];rfl
 ·obtain⟨B,_⟩:=h.row q;simp only[List.length_cons,List.length_map,B];omega
 ·have v1:=z.val j D;have L:=z.val s q;simp only[List.flatMap_cons]at e;exact Iq ⟨v1.1,by omega⟩ ⟨L.1,by omega⟩ e
 ·rcases Je K with e | e
  ·rw[e];exact Jr r
  ·obtain⟨i,hi,M⟩:=List.mem_iff_getElem.1 e;have:=u.2 i (by omega);rw[List.getD_eq_getElem?_getD,List.getElem?_eq_getElem hi,Option.getD_some,M]at this;exact this
theorem HT{K:QK}(f:Nb nx.length K):Ho (iter (mU nx ou) K) (Nb nx.length):=by
 have lt:∀K,Nb nx.length K→mx K<(nx.length:Int):=fun K f=>by
  rcases Je K with e | e
  ·omega
  ·obtain⟨i,hi,v⟩:=List.mem_iff_getElem.1 e;have:=(f.val i (by rw[←f.len];exact hi)).2;rw[List.getD_eq_getElem?_getD,List.getElem?_eq_getElem hi,Option.getD_some,v]at this;exact this
 refine bG (Nb nx.length) (fun K=>((nx.length:Int) - mx K).toNat) f fun K f=>?_
 refine ao (Hj h hn hk f) fun r j=>ao (As (by rw[j.1.len];omega)) fun a ha=>ao (As (by rw[f.len];omega)) fun b hb=>aJ (fun _=>aq f) fun q=>aq ⟨j.1,?_⟩
 subst ha hb;have u:mx r≠mx K:=by simpa using q
 have:=j.2;have:=lt _ j.1;have:=lt _ f;omega
theorem GJ{K:QK}(hK:Nb nx.length K):Ho (lj nx ou K) (fun r=>(0<r.1.length∧r.1.length≤300)∧WB r.1 r.2 k m):=by
 have a5:=hK.len;have a6:mx K<(nx.length:Int):=by
  rcases Je K with e | e
  ·omega
  ·obtain⟨i,hi,e2⟩:=List.mem_iff_getElem.1 e;have:=(hK.val i (by rw[←hK.len];exact hi)).2;rw[List.getD_eq_getElem?_getD,List.getElem?_eq_getElem hi,Option.getD_some,e2]at this;exact this
 have J:∀s,s<nx.length→0≤K.getD s 0∧K.getD s 0≤mx K:=fun s hs=>⟨(hK.val s hs).1,KW (bU (by omega) 0)⟩
 have hp:=Jr K;refine ao (As (by omega)) fun M hM=>?_
 subst hM;obtain⟨M,hM⟩:∃M:Nat,mx K=(M:Int):=⟨(mx K).toNat,by omega⟩;have hw:i64.wrap (mx K+1)=((M+1:Nat):Int):=by rw[bS hp (by omega),hM];rfl
 rw[hw];refine aW ⟨by omega,Int.le_refl _,by omega,by omega⟩ (ao (P:=fun v=>v.length=M+1∧∀x∈v,x = -1) ?_ fun v hv=>?_)
 ·refine bG (fun(v,i)=>0≤i∧i≤((M+1:Nat):Int)∧v.length=M+1∧∀j,j<i.toNat→v.getD j 0 = -1) (fun(_,i)=>(((M+1:Nat):Int) - i).toNat) ⟨Int.le_refl _,by omega,by simp,fun j E=>by simp at E⟩ fun(v,i) ⟨Y,g2,g3,g4⟩=>?_
  unfold kN;rw[hw];simp only[Int.toNat_natCast,List.length_replicate];refine aJ (fun hi=>?_) fun hi=>?_
  ·rw[dec_lt]at hi;refine aW ⟨Y,by omega⟩ (aW (by omega) ?_);rw[bS Y (by omega)];refine aq ⟨⟨by(try simp only);omega,by(try simp only);omega,by rw[List.length_set];exact g3,fun j E=>?_⟩,by(try simp only);omega⟩;rw[qu _ _ _ _ (by omega)];split
   ·rfl
   ·exact g4 j (by omega)
  ·rw[dec_lt]at hi;refine aq ⟨g3,fun x B=>?_⟩;obtain⟨j,E,e⟩:=List.mem_iff_getElem.1 B;have:=g4 j (by omega);rw[List.getD_eq_getElem?_getD,List.getElem?_eq_getElem E,Option.getD_some,e]at this;exact this
 obtain⟨v1,v2⟩:=hv;have Z:=J 0 (by omega);have e0:(K.getD ((0:Int).toNat) 0).toNat<v.length:=by rw[v1];simp only[Int.toNat_zero];omega
 have c0:(v.set (K.getD ((0:Int).toNat) 0).toNat 0).countP (fun x=>decide (0≤x))=1:=by
  rw[List.countP_set e0];have:v.countP (fun x=>decide (0≤x))=0:=List.countP_eq_zero.2 fun x B=>by rw[v2 x B];decide
  rw[this,v2 _ (List.getElem_mem e0)];rfl
 refine aW (by omega) (aW ⟨Z.1,by rw[v1];have:=Z.2;simp only[Int.toNat_zero];omega⟩ (aW e0 (ao (P:=fun r=>(0<r.1.length∧r.1.length≤300)∧WB r.1 r.2 k m) ?_ fun r L=>aq L)));have a2:∀s,s<nx.length→0≤ou.getD s 0∧ou.getD s 0<((2 ^ m:Nat):Int):=fun s hs=>h.ob _ (bU (by rw[h.ol];exact hs) 0)
 refine bG (fun(N,O,pl,z,i)=>0≤i∧i≤(z.length:Int)∧0<z.length∧pl.length=M+1∧pl.countP (fun x=>decide (0≤x))=z.length∧(∀x∈pl,x<(z.length:Int))∧(∀x∈z,0≤x∧x<(nx.length:Int)) ∧
   (N.length:Int)=i∧O.length=N.length∧(∀r∈N,r.length=k∧∀x∈r,0≤x∧x<(z.length:Int))∧∀x∈O,0≤x∧x<((2 ^ m:Nat):Int))
  (fun(_,_,_,_,i)=>(((M+1:Nat):Int) - i).toNat) ⟨Int.le_refl _,by decide,by decide,by rw[List.length_set];exact v1,c0,fun x B=>?_,fun x B=>?_,rfl,rfl,fun _ h=>(by cases h),fun _ h=>(by cases h)⟩
  fun(N,O,pl,z,i) ⟨Y,g2,g3,g4,g5,g6,g7,g8,g9,I,a1⟩=>?_
 ·rcases List.mem_or_eq_of_mem_set B with q | q
  ·rw[v2 x q];decide
  ·rw[q];decide
 ·rw[List.mem_singleton.1 B];omega
 have a3:z.length≤M+1:=by rw[←g5,←g4];exact List.countP_le_length
 unfold kD;refine aJ (fun hi=>?_) fun hi=>?_
 rotate_left
 ·rw[dec_lt]at hi;have e:N.length=z.length:=by omega
  exact aq ⟨by rw[e];omega,fun r L=>(I r L).1,fun r L=>by rw[e];exact(I r L).2,g9,a1⟩
 rw[dec_lt]at hi;obtain⟨s0,s1⟩:=g7 _ (bU (i:=i.toNat) (by omega) 0);obtain⟨r1,r2⟩:=h.row (s:=(z.getD i.toNat 0).toNat) (by omega);refine aW ⟨Y,hi⟩ (aW (by omega) (aW ⟨s0,s1⟩ (ao (P:=fun(u,f,row)=>z.length≤f.length∧u.length=M+1∧u.countP (fun x=>decide (0≤x))=f.length∧(∀x∈u,x<(f.length:Int))∧(∀x∈f,0≤x∧x<(nx.length:Int))∧f.getD i.toNat 0=z.getD i.toNat 0∧row.length=k∧∀x∈row,0≤x∧x<(f.length:Int)) ?_ ?_)))
 rotate_left
 ·rintro⟨u,f,row⟩ ⟨f1,V,X,f4,f5,f6,f7,f8⟩;obtain⟨b1,b2⟩:=a2 (z.getD i.toNat 0).toNat (by omega);have hb:0≤ou.getD (z.getD i.toNat 0).toNat 0∧ou.getD (z.getD i.toNat 0).toNat 0<((2 ^ m:Nat):Int):=⟨b1,b2⟩;have a7:=h.ol;simp only;rw[f6];refine aW (by simp only[List.length_singleton];omega) (aW (by omega) (aW (by omega) (aW (by omega) (aW (by simp only[List.length_singleton];omega) ?_))));rw[bS Y (by omega)];refine aq ⟨⟨by(try simp only);omega,by(try simp only);omega,by(try simp only);omega,V,X,f4,f5,by simp only[List.length_append,List.length_singleton];omega,by simp only[List.length_append,List.length_singleton];omega,eI (fun r L=>⟨(I r L).1,fun x B=>?_⟩) ⟨f7,f8⟩,eI a1 hb⟩,by(try simp only);omega⟩;have:=(I r L).2 x B
  (try simp only);omega
 refine bG (fun(u,f,row,j)=>0≤j∧j≤(k:Int)∧z.length≤f.length∧u.length=M+1∧u.countP (fun x=>decide (0≤x))=f.length∧(∀x∈u,x<(f.length:Int))∧(∀x∈f,0≤x∧x<(nx.length:Int))∧f.getD i.toNat 0=z.getD i.toNat 0∧(row.length:Int)=j∧∀x∈row,0≤x∧x<(f.length:Int))
  (fun(_,_,_,j)=>((k:Int) - j).toNat) ⟨Int.le_refl _,by omega,Nat.le_refl _,g4,g5,g6,g7,rfl,rfl,fun _ h=>(by cases h)⟩ fun(u,f,row,j) ⟨f0,a8,f1,V,X,f4,f5,f6,f7,f8⟩=>?_
 have a4:f.length≤M+1:=by rw[←X,←V];exact List.countP_le_length
 unfold kF;refine aJ (fun E=>?_) fun E=>?_
 rotate_left
 ·rw[dec_lt,r1]at E;exact aq ⟨f1,V,X,f4,f5,f6,by omega,f8⟩
 rw[dec_lt,r1]at E;obtain⟨t0,t1⟩:=r2 _ (bU (i:=j.toNat) (by omega) 0);generalize ht:(nx.getD (z.getD i.toNat 0).toNat []).getD j.toNat 0=t at t0 t1;obtain⟨q0,q1⟩:=J t.toNat (by omega);generalize a9:K.getD t.toNat 0=kt at q0 q1;refine aW ⟨f0,by rw[r1];exact E⟩ (aW ⟨t0,by omega⟩ (aW ⟨q0,by omega⟩ (aW (by omega) (ao (P:=fun(C,D)=>f.length≤D.length∧C.length=M+1∧C.countP (fun x=>decide (0≤x))=D.length∧(∀x∈C,x<(D.length:Int))∧(∀x∈D,0≤x∧x<(nx.length:Int))∧D.getD i.toNat 0=f.getD i.toNat 0∧0≤C.getD kt.toNat 0) ?_ ?_))))
 ·have A:kt.toNat<u.length:=by omega
  refine aJ (fun hc=>?_) fun hc=>aq ⟨Nat.le_refl _,V,X,f4,f5,rfl,?_⟩
  ·rw[dec_lt]at hc;refine aW ⟨t0,by omega⟩ (aW ⟨q0,by omega⟩ (aW A (aW (by simp only[List.length_singleton];omega) (aq ⟨by simp,by rw[List.length_set];exact V,?_,fun x B=>?_,eI f5 ⟨t0,t1⟩,?_,?_⟩))))
   ·rw[List.countP_set A,X];have e:u[kt.toNat]=u.getD kt.toNat 0:=by rw[List.getD_eq_getElem?_getD,List.getElem?_eq_getElem A];rfl
    rw[e,if_neg (by simp only[decide_eq_true_eq];omega),if_pos (by simp only[decide_eq_true_eq];omega)];simp
   ·simp only[List.length_append,List.length_singleton];rcases List.mem_or_eq_of_mem_set B with q | q
    ·have:=f4 x q;omega
    ·rw[q];omega
   ·rw[GY,if_pos (by omega)]
   ·rw[qu _ _ _ _ A,if_pos rfl];omega
  ·simpa using hc
 ·rintro⟨C,D⟩ ⟨d1,d2,d3,d4,d5,d6,d7⟩;have A:kt.toNat<C.length:=by omega
  refine aW ⟨t0,by omega⟩ (aW ⟨q0,by omega⟩ (aW A (aW (by simp only[List.length_singleton];omega) ?_)));rw[bS f0 (by omega)];refine aq ⟨⟨by(try simp only);omega,by(try simp only);omega,by(try simp only);omega,d2,d3,d4,d5,d6.trans f6,by simp only[List.length_append,List.length_singleton];omega,eI (fun x B=>?_) ⟨d7,d4 _ (bU A 0)⟩⟩,by(try simp only);omega⟩;have:=f8 x B;omega
theorem sG:Ho (lO nx ou) (fun r=>(0<r.1.1.length∧r.1.1.length≤300)∧WB r.1.1 r.1.2 k m):=by
 refine ao (Ju h hn hk) fun b hb=>?_
 subst hb;rw[if_neg (by decide)];exact ao (GH h hn) fun K e=>ao (HT h hn hk e) fun K e=>ao (GJ h hn hk e) fun r f=>aq f
end
end
end Go.Proofs.YtbedjpdfkmfplaaGreatDoor.T
