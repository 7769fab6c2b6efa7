import Derived.Test.YtobbjfkfmdiklaaGreatDoorTvZam
namespace Go.Proofs.YtobbjfkfmdiklaaGreatDoor.T
open Go Go.Tv Go.Proofs
open Go.IntKind (i64 u8)
noncomputable section
theorem bU{α:Type}{l:List α}{i:Nat}(h:i<l.length)(d:α):l.getD i d∈l:=by
 rw[List.getD_eq_getElem?_getD,List.getElem?_eq_getElem h];exact List.getElem_mem h
theorem Fx{α:Type}(l:List α)(x d:α)(i:Nat):(l++[x]).getD i d=if i<l.length then l.getD i d else if i=l.length then x else d:=by
 simp only[List.getD_eq_getElem?_getD];split
 ·rename_i h;rw[List.getElem?_append_left h]
 ·rename_i h;rw[List.getElem?_append_right (by omega)];split
  ·rename_i e;rw[e,Nat.sub_self];rfl
  ·rename_i e;rw[List.getElem?_eq_none (by simp only[List.length_singleton];omega)];rfl
theorem pC(l:QK)(k j:Nat)(v:Int)(hk:k<l.length):(l.set k v).getD j 0=if k=j then v else l.getD j 0:=by
 simp only[List.getD_eq_getElem?_getD,List.getElem?_set];by_cases e:k=j
 ·rw[if_pos e,if_pos e,if_pos (by omega)];rfl
 ·rw[if_neg e,if_neg e]
/-! ### q p number -/
def mx(l:QK):Int:=l.foldl max 0
theorem foldl_max(l:QK):∀a:Int,a≤l.foldl max a∧(∀x∈l,x≤l.foldl max a)∧(l.foldl max a=a∨l.foldl max a∈l):=by
 induction l with
 | nil=>exact fun a=>⟨Int.le_refl _,fun _ h=>(by cases h),.inl rfl⟩
 | cons x l j =>
  intro a;obtain⟨h1,h2,p⟩:=j (max a x);refine⟨by simp only[List.foldl_cons];omega,fun y u=>?_,?_⟩
  ·simp only[List.foldl_cons];rcases List.mem_cons.1 u with e | e
   ·rw[e];omega
   ·exact h2 y e
  ·simp only[List.foldl_cons];rcases p with e | e
   ·rw[e];rcases Int.le_total a x with q | q
    ·rw[Int.max_eq_right q];exact .inr (.head _)
    ·rw[Int.max_eq_left q];exact .inl rfl
   ·exact .inr (.tail _ e)
theorem Kh{l:QK}{x:Int}(h:x∈l):x≤mx l:=(foldl_max l 0).2.1 x h
theorem GY(l:QK):0≤mx l:=(foldl_max l 0).1
theorem ID(l:QK):mx l=0∨mx l∈l:=(foldl_max l 0).2.2
theorem zG{l:QK}(hl:l.length≤1000):Ho (jz l) (fun m=>m=mx l):=by
 refine ao (P:=fun m=>m=mx l) (bG (fun(m,i)=>0≤i∧i≤(l.length:Int)∧m=(l.take i.toNat).foldl max 0) (fun(_,i)=>((l.length:Int) - i).toNat) ⟨Int.le_refl _,by omega,rfl⟩ fun(m,i) ⟨h1,h2,j⟩=>?_) fun m hm=>aq hm
 refine aH (fun hi=>?_) fun hi=>?_
 ·rw[dec_lt]at hi;rw[if_pos ⟨h1,hi⟩,bV h1 (by omega)];refine aq ⟨⟨by omega,by omega,?_⟩,by(try simp only);omega⟩;rw[show(i+1).toNat=i.toNat+1 by omega,List.take_add_one,List.getElem?_eq_getElem (by omega),List.foldl_append,←j,List.getD_eq_getElem?_getD,List.getElem?_eq_getElem (by omega)];rfl
 ·rw[dec_lt]at hi;have:i.toNat=l.length:=by omega
  exact aq (by rw[j,this,List.take_length];rfl)
/-! ### p -/
def four(x:Int):QK:=[u8.wrap x,u8.wrap (Int.fdiv x (2 ^ (min (8:Int).toNat i64.bits))),u8.wrap (Int.fdiv x (2 ^ (min (16:Int).toNat i64.bits))),u8.wrap (Int.fdiv x (2 ^ (min (24:Int).toNat i64.bits)))]
theorem JD{r:QK}(p:r.length≤1000):Ho (iter (jc r) ([],0)) (fun v=>v=r.flatMap four):=by
 refine bG (fun(v,i)=>0≤i∧i≤(r.length:Int)∧v=(r.take i.toNat).flatMap four∧(v.length:Int)=4*i) (fun(_,i)=>((r.length:Int) - i).toNat) ⟨Int.le_refl _,by omega,rfl,rfl⟩ fun(v,i) ⟨h1,h2,j,q⟩=>?_
 refine aH (fun hi=>?_) fun hi=>?_
 ·rw[dec_lt]at hi;refine aV ⟨h1,hi⟩ (aV (by omega) (aV (by decide) (aV (by decide) (aV (by decide) (aV (by simp only[List.length_cons,List.length_nil];omega) ?_)))));rw[bV h1 (by omega)];refine aq ⟨⟨by omega,by omega,?_,by simp only[List.length_append,List.length_cons,List.length_nil];omega⟩,by(try simp only);omega⟩;rw[show(i+1).toNat=i.toNat+1 by omega,List.take_add_one,List.getElem?_eq_getElem (by omega),List.flatMap_append,←j,List.getD_eq_getElem?_getD,List.getElem?_eq_getElem (by omega)];simp[four]
 ·rw[dec_lt]at hi;have:i.toNat=r.length:=by omega
  exact aq (show v=r.flatMap four by rw[j,this,List.take_length])
theorem IB{x y:Int}{a b:QK}(u:0≤x∧x<65536)(v:0≤y∧y<65536)(h:bytesOf (four x++a)=bytesOf (four y++b)):x=y:=by
 have q:∀z:Int,0≤z→Int.fdiv z (2 ^ (min (8:Int).toNat i64.bits))=z / 256:=fun z hz=>by rw[show((2:Int) ^ (min (8:Int).toNat i64.bits))=256 by decide,Int.fdiv_eq_ediv_of_nonneg _ (by decide)]
 have j:(bytesOf (four x++a))[0]? = (bytesOf (four y++b))[0]? :=by rw[h]
 have p:(bytesOf (four x++a))[1]? = (bytesOf (four y++b))[1]? :=by rw[h]
 simp only[bytesOf,four,List.map_append,List.map_cons,List.cons_append,List.getElem?_cons_zero,List.getElem?_cons_succ,Option.some.injEq,q x u.1,q y v.1]at j p;rw[IntKind.wrap_u8,IntKind.wrap_u8]at j p;have t:∀z w:Int,0≤z→z<256→0≤w→w<256→UInt8.ofNat z.toNat=UInt8.ofNat w.toNat→z=w:=fun z w h1 h2 A B e=>by have:=congrArg UInt8.toNat e;rw[UInt8.toNat_ofNat',UInt8.toNat_ofNat',Nat.mod_eq_of_lt (by omega),Nat.mod_eq_of_lt (by omega)]at this;omega
 have C:=t _ _ (by omega) (by omega) (by omega) (by omega) j;have D:=t _ _ (by omega) (by omega) (by omega) (by omega) p;omega
theorem Cx{α:Type}{k:QX}{x:α}:∀ {j:List (QX×α)},bh .str j k=some x→(k,x)∈j
 | [],h=>by cases h
 | q::r,h=>by
  simp only[bh]at h;split at h
  ·rename_i e;have p:q.1=k:=by simpa [eI]using e
   cases h;rw[←p];exact .head _
  ·exact .tail _ (Cx h)
theorem EW{α:Type}{k:QX}{x:α}:∀ {j:List (QX×α)},bh .str j k=none→(cN .str j k x).length=j.length+1
 | [],_=>rfl
 | q::r,h=>by
  simp only[bh]at h;split at h
  ·cases h
  ·rename_i e;simp only[cN];rw[if_neg e,List.length_cons,EW h,List.length_cons]
structure Nb(n:Nat)(K:QK):Prop where
 len:K.length=n
 val:∀s,s<n→0≤K.getD s 0∧K.getD s 0<(n:Int)
 fst:∀s,s<n→K.getD s 0=0∨∃j,j<s∧K.getD j 0=K.getD s 0 - 1
abbrev NW:=(List (QX×Int))×QK×QK×Int
def Oi(f:Int→QK→Option QK)(A:Int):NW→Option (NW⊕QK):=fun(p,v20,u,j) =>
 (if(decide (j<A))=true then(if 0≤(0:Int)∧0≤(u.length:Int)then((f j (u.take (0:Int).toNat)).bind fun z =>
 ((iter (jc z) (([]:QK),0)).bind fun q=>(((if(!((bh .str p (bytesOf q)).isSome))=true then some (((cN .str p (bytesOf q) (p.length:Int)),(p.length:Int)))
 else some ((p,((bh .str p (bytesOf q)).getD 0))))).bind fun(v,v30)=>(if 0≤j∧j<(v20.length:Int)then(if j.toNat<v20.length then some (Sum.inl (v,(v20.set j.toNat v30),z,(i64.wrap (j+1))))else none)else none))))else none)
 else some (Sum.inr v20))
theorem AR{n:Nat}(hn:0<n∧n≤300){f:Int→QK→Option QK}{key:Nat→QK}(hf:∀s:Nat,s<n→f (s:Int) []=some (key s))(hk:∀s,s<n→(key s).length≤1000){K:Nat→Int}(h0:∀s,s<n→0≤K s)
  (hP:∀s,s<n→K s=0∨∃j,j<s∧K j=K s - 1) (I:∀j s,j<n→s<n→bytesOf ((key j).flatMap four)=bytesOf ((key s).flatMap four)→K j=K s) :
  Ho (iter (Oi f (n:Int)) ([],List.replicate n 0,[],0)) (fun o=>Nb n o∧∀s,s<n→K s≤mx o):=by
 refine bG (fun(m,o,_,i)=>∃s:Nat,i=(s:Int)∧s≤n∧o.length=n∧(∀j,j<s→0≤o.getD j 0∧o.getD j 0<(m.length:Int))∧(s=0∨∃j,j<s∧o.getD j 0=(m.length:Int) - 1)∧m.length≤s ∧
   (∀j,j<s→o.getD j 0=0∨∃q,q<j∧o.getD q 0=o.getD j 0 - 1)∧(∀p∈m,(0≤p.2∧p.2<(m.length:Int))∧∃j,j<s∧p.1=bytesOf ((key j).flatMap four))∧(∀j,j<s→K j<(m.length:Int))∧∀c:Int,0≤c→c<(m.length:Int)→∃j,j<s∧o.getD j 0=c)
  (fun(_,_,_,i)=>((n:Int) - i).toNat) ⟨0,rfl,by omega,by simp,fun _ h=>(by omega),.inl rfl,by simp,fun _ h=>(by omega),fun _ h=>(by cases h),fun _ h=>(by omega),fun c h1 h2=>(by simp only[List.length_nil]at h2;omega)⟩ fun(m,o,k',i) ⟨s,e,h1,h2,V,L,h5,M,X,D,N⟩=>?_
 subst e;refine aH (fun hi=>?_) fun hi=>?_
 rotate_left
 ·rw[dec_lt]at hi;obtain rfl:s=n:=by omega
  refine aq ⟨⟨h2,fun j C=>?_,M⟩,fun j C=>?_⟩
  ·have:=V j C;omega
  ·rcases L with L | ⟨q,z,A⟩
   ·omega
   ·have:=D j C;have:=Kh (bU (l:=o) (i:=q) (by omega) 0);omega
 rw[dec_lt]at hi;have O:s<n:=by omega
 refine aV ⟨by decide,by omega⟩ ?_;refine ao (P:=fun r=>r=key s) ⟨_,hf s O,rfl⟩ fun r hr=>?_
 subst hr;refine ao (JD (hk s O)) fun v hv=>?_
 subst hv;have hw:i64.wrap ((s:Int)+1)=((s+1:Nat):Int):=by rw[bV (by omega) (by omega)];rfl
 have u:∀(v:Int) j,j<s→(o.set s v).getD j 0=o.getD j 0:=fun v j C=>by rw[pC _ _ _ _ (by omega),if_neg (by omega)]
 have B:∀v:Int,(o.set s v).getD s 0=v:=fun v=>by rw[pC _ _ _ _ (by omega),if_pos rfl]
 have a3:(∀j,j<s→K j≠K s)∨K s<(m.length:Int):=by
  by_cases q:∃j,j<s∧K j=K s
  ·obtain⟨j,E,J⟩:=q;exact .inr (by rw[←J];exact D j E)
  ·exact .inl fun j C e=>q ⟨j,C,e⟩
 have a4:K s≤(m.length:Int):=by
  rcases hP s O with e | ⟨j,E,J⟩
  ·omega
  ·have:=D j E;omega
 cases hm:bh .str m (bytesOf ((key s).flatMap four))with
 | none =>
  have hl:=EW (x:=(m.length:Int)) hm;simp only[Option.isSome_none,Bool.not_false,if_true,Option.bind_some,Int.toNat_natCast];rw[hw];refine aV (by omega) (aV (by omega) (aq ⟨⟨s+1,rfl,by omega,by rw[List.length_set];exact h2,fun j C=>?_,.inr ⟨s,by omega,?_⟩,Nat.le_trans (Nat.le_of_eq hl) (by omega),fun j C=>?_,fun p hp=>?_,fun j C=>?_,fun c Y Z=>?_⟩,by(try simp only);omega⟩))
  ·by_cases e:j=s
   ·subst e;rw[B,hl];omega
   ·rw[u _ _ (by omega),hl];have:=V j (by omega);omega
  ·rw[B,hl];omega
  ·by_cases e:j=s
   ·subst e;rw[B];by_cases a5:m.length=0
    ·left;omega
    ·right
     obtain⟨q,z,A⟩:=N ((m.length:Int) - 1) (by omega) (by omega);exact⟨q,z,by rw[u _ _ z];exact A⟩
   ·rw[u _ _ (by omega)];rcases M j (by omega)with q | ⟨q,z,A⟩
    ·exact .inl q
    ·exact .inr ⟨q,z,by rw[u _ _ (by omega)];exact A⟩
  ·rw[hl];rcases mem_set hp with e | e
   ·rw[e];exact⟨⟨by(try simp only);omega,by(try simp only);omega⟩,s,by omega,rfl⟩
   ·obtain⟨z,j,A,q3⟩:=X p e;exact⟨⟨z.1,by omega⟩,j,by omega,q3⟩
  ·rw[hl];by_cases e:j=s
   ·subst e;omega
   ·have:=D j (by omega);omega
  ·rw[hl]at Z;by_cases e:c=(m.length:Int)
   ·exact⟨s,by omega,by rw[B,e]⟩
   ·obtain⟨q,z,A⟩:=N c Y (by omega);exact⟨q,by omega,by rw[u _ _ z];exact A⟩
 | some x =>
  obtain⟨⟨x1,x2⟩,j0,E,J⟩:=X _ (Cx hm);simp only at x1 x2 J;have a1:=I j0 s (by omega) O J.symm;have:=D j0 E;simp only[Option.isSome_some,Bool.not_true,Bool.false_eq_true,if_false,Option.bind_some,Option.getD_some,Int.toNat_natCast];rw[hw];obtain⟨jx,a2,a6⟩:=N x x1 x2;refine aV (by omega) (aV (by omega) (aq ⟨⟨s+1,rfl,by omega,by rw[List.length_set];exact h2,fun j C=>?_,?_,Nat.le_succ_of_le h5,fun j C=>?_,fun p hp=>?_,fun j C=>?_,fun c Y Z=>?_⟩,by(try simp only);omega⟩))
  ·by_cases e:j=s
   ·subst e;rw[B];exact⟨x1,x2⟩
   ·rw[u _ _ (by omega)];exact V j (by omega)
  ·rcases L with L | ⟨q,z,A⟩
   ·omega
   ·exact .inr ⟨q,by omega,by rw[u _ _ z];exact A⟩
  ·by_cases e:j=s
   ·subst e;rw[B];rcases M jx a2 with q | ⟨q,z,A⟩
    ·left;omega
    ·exact .inr ⟨q,by omega,by rw[u _ _ (by omega)];omega⟩
   ·rw[u _ _ (by omega)];rcases M j (by omega)with q | ⟨q,z,A⟩
    ·exact .inl q
    ·exact .inr ⟨q,z,by rw[u _ _ (by omega)];exact A⟩
  ·obtain⟨z,j,A,q3⟩:=X p hp;exact⟨z,j,by omega,q3⟩
  ·by_cases e:j=s
   ·subst e;rw[←a1];exact D j0 E
   ·exact D j (by omega)
  ·obtain⟨q,z,A⟩:=N c Y Z;exact⟨q,by omega,by rw[u _ _ z];exact A⟩
theorem WB.row{nx:QZ}{ou:QK}{k m:Nat}(h:WB nx ou k m){s:Nat}(j:s<nx.length):(nx.getD s []).length=k∧∀x∈nx.getD s [],0≤x∧x<(nx.length:Int) :=
 ⟨h.len _ (bU j _),h.val _ (bU j _)⟩
section
variable{nx:QZ}{ou:QK}{k m:Nat}(h:WB nx ou k m)(hn:0<nx.length∧nx.length≤300)(hk:k≤24)
include h hn hk
theorem HX:Ho (l9 nx ou) (fun b=>b=true):=by
 refine ao (P:=fun b=>b=false) ?_ fun b hb=>?_
 ·rw[if_neg (by simp only[beq_iff_eq];omega)];exact aq (by rw[h.ol];simp)
 subst hb;rw[if_neg (by decide)];refine ao (P:=Lp (fun _=>True) fun _=>False) ?_ ?_
 rotate_left
 ·rintro(_ | r) p
  ·exact aq rfl
  ·exact p.elim
 refine bG (fun i=>0≤i∧i≤(nx.length:Int)) (fun i=>((nx.length:Int) - i).toNat) ⟨Int.le_refl _,by omega⟩ fun i ⟨h1,h2⟩=>?_
 refine aH (fun hi=>?_) fun _=>aq trivial
 rw[dec_lt]at hi;obtain⟨q,x⟩:=h.row (s:=i.toNat) (by omega);obtain⟨z,_⟩:=h.row (s:=(0:Int).toNat) (by simp only[Int.toNat_zero];omega);refine aV ⟨h1,hi⟩ (aV (by omega) ?_);rw[if_neg (by rw[q,z];simp)];refine ao (P:=Lp (fun _=>True) fun _=>False) ?_ ?_
 rotate_left
 ·rintro(_ | r) p
  ·dsimp only;rw[bV h1 (by omega)];exact aq ⟨⟨by(try simp only);omega,by(try simp only);omega⟩,by(try simp only);omega⟩
  ·exact p.elim
 refine bG (fun j=>0≤j∧j≤(k:Int)) (fun j=>((k:Int) - j).toNat) ⟨Int.le_refl _,by omega⟩ fun j ⟨u,g2⟩=>?_
 refine aH (fun v=>?_) fun _=>aq trivial
 rw[dec_lt,q]at v;obtain⟨A,B⟩:=x _ (bU (i:=j.toNat) (by omega) 0);refine aV ⟨u,by rw[q];exact v⟩ (ao (P:=fun b=>b=false) ?_ fun b hb=>?_)
 ·rw[if_neg (by simp only[decide_eq_true_eq];omega)];exact aq (by simp only[decide_eq_false_iff_not];omega)
 ·subst hb;rw[if_neg (by decide),bV u (by omega)];exact aq ⟨⟨by(try simp only);omega,by(try simp only);omega⟩,by(try simp only);omega⟩
omit hk in
theorem F4:Ho (l8 (ou.length:Int) nx ou) (Nb nx.length):=by
 have j:=h.ol;refine aV ⟨by omega,Int.le_refl _,by omega,by omega⟩ ?_;rw[j];refine ao (P:=Nb nx.length) (Fa (AR (n:=nx.length) hn (f:=fun s k=>iw s nx ou k) (key:=fun s=>[i64.wrap (ou.getD s 0)]) (fun s q=>?_) (fun _ _=>by simp) (K:=fun _=>0) (fun _ _=>Int.le_refl _) (fun _ _=> .inl rfl) fun _ _ _ _ _=>rfl) fun r p=>p.1) fun r p=>aq p
 show(if _ then _ else none)=_;rw[if_pos (by omega),if_pos (by simp),Int.toNat_natCast];rfl
theorem Fh{K:QK}(u:Nb nx.length K):Ho (iT (K.length:Int) K nx ou) (fun r=>Nb nx.length r∧mx K≤mx r):=by
 have x:=u.len;refine aV ⟨by omega,Int.le_refl _,by omega,by omega⟩ ?_;rw[x];refine ao (P:=fun r=>Nb nx.length r∧mx K≤mx r) (Fa (AR (n:=nx.length) hn (f:=fun s k=>ir s K nx ou k) (key:=fun s=>K.getD s 0::(nx.getD s []).map fun t=>K.getD t.toNat 0) (fun s p=>?_) (fun s p=>?_) (K:=fun s=>K.getD s 0) (fun s p=>(u.val s p).1) (fun s p=>u.fst s p) fun j s B p e=>?_) fun r q=>⟨q.1,?_⟩) fun r q=>aq q
 ·obtain⟨z,C⟩:=h.row p;obtain⟨r,e,q⟩:Ho (iter (fT (s:Int) K nx) (([]++[K.getD s 0]),0)) (fun r=>r=K.getD s 0::(nx.getD s []).map fun t=>K.getD t.toNat 0):=by
   refine bG (fun(v,i)=>0≤i∧i≤(k:Int)∧v=K.getD s 0::((nx.getD s []).take i.toNat).map fun t=>K.getD t.toNat 0) (fun(_,i)=>((k:Int) - i).toNat) ⟨Int.le_refl _,by omega,rfl⟩ fun(v,i) ⟨A,g2,g3⟩=>?_
   subst g3;unfold fT;simp only[Int.toNat_natCast];refine aH (fun hi=>?_) fun hi=>?_
   ·rw[dec_lt,z]at hi;obtain⟨D,E⟩:=C _ (bU (i:=i.toNat) (by omega) 0);refine aV ⟨A,by rw[z];exact hi⟩ (aV ⟨D,by rw[x];exact E⟩ (aV (by simp only[List.length_cons,List.length_map,List.length_take,List.length_nil];omega) ?_));rw[bV A (by omega)];refine aq ⟨⟨by(try simp only);omega,by(try simp only);omega,?_⟩,by(try simp only);omega⟩;rw[show(i+1).toNat=i.toNat+1 by omega,List.take_add_one,List.getElem?_eq_getElem (by omega),List.map_append,List.getD_eq_getElem?_getD (l:=nx.getD s []),List.getElem?_eq_getElem (by omega)];rfl
   ·rw[dec_lt,z]at hi;have:i.toNat=(nx.getD s []).length:=by omega
    exact aq (show _=_ by rw[this,List.take_length])
  show(if _ then _ else none)=_;rw[if_pos (by omega),if_pos (by simp),if_pos (by omega),Int.toNat_natCast,e,q];rfl
 ·obtain⟨z,_⟩:=h.row p;simp only[List.length_cons,List.length_map,z];omega
 ·have v1:=u.val j B;have I:=u.val s p;simp only[List.flatMap_cons]at e;exact IB ⟨v1.1,by omega⟩ ⟨I.1,by omega⟩ e
 ·rcases ID K with e | e
  ·rw[e];exact GY r
  ·obtain⟨i,hi,J⟩:=List.mem_iff_getElem.1 e;have:=q.2 i (by omega);rw[List.getD_eq_getElem?_getD,List.getElem?_eq_getElem hi,Option.getD_some,J]at this;exact this
theorem Is{K:QK}(j:Nb nx.length K):Ho (iter (mz nx ou) K) (Nb nx.length):=by
 have lt:∀K,Nb nx.length K→mx K<(nx.length:Int):=fun K j=>by
  rcases ID K with e | e
  ·omega
  ·obtain⟨i,hi,v⟩:=List.mem_iff_getElem.1 e;have:=(j.val i (by rw[←j.len];exact hi)).2;rw[List.getD_eq_getElem?_getD,List.getElem?_eq_getElem hi,Option.getD_some,v]at this;exact this
 refine bG (Nb nx.length) (fun K=>((nx.length:Int) - mx K).toNat) j fun K j=>?_
 refine ao (Fh h hn hk j) fun r p=>ao (zG (by rw[p.1.len];omega)) fun a ha=>ao (zG (by rw[j.len];omega)) fun b hb=>aH (fun _=>aq j) fun q=>aq ⟨p.1,?_⟩
 subst ha hb;have u:mx r≠mx K:=by simpa using q
 have:=p.2;have:=lt _ p.1;have:=lt _ j;omega
theorem F3{K:QK}(hK:Nb nx.length K):Ho (kP nx ou K) (fun r=>(0<r.1.length∧r.1.length≤300)∧WB r.1 r.2 k m):=by
 have a5:=hK.len;have a6:mx K<(nx.length:Int):=by
  rcases ID K with e | e
  ·omega
  ·obtain⟨i,hi,e2⟩:=List.mem_iff_getElem.1 e;have:=(hK.val i (by rw[←hK.len];exact hi)).2;rw[List.getD_eq_getElem?_getD,List.getElem?_eq_getElem hi,Option.getD_some,e2]at this;exact this
 have J:∀s,s<nx.length→0≤K.getD s 0∧K.getD s 0≤mx K:=fun s hs=>⟨(hK.val s hs).1,Kh (bU (by omega) 0)⟩
 have hp:=GY K;refine ao (zG (by omega)) fun M hM=>?_
 subst hM;obtain⟨M,hM⟩:∃M:Nat,mx K=(M:Int):=⟨(mx K).toNat,by omega⟩;have hw:i64.wrap (mx K+1)=((M+1:Nat):Int):=by rw[bV hp (by omega),hM];rfl
 rw[hw];refine aV ⟨by omega,Int.le_refl _,by omega,by omega⟩ (ao (P:=fun v=>v.length=M+1∧∀x∈v,x = -1) ?_ fun v hv=>?_)
 ·refine bG (fun(v,i)=>0≤i∧i≤((M+1:Nat):Int)∧v.length=M+1∧∀j,j<i.toNat→v.getD j 0 = -1) (fun(_,i)=>(((M+1:Nat):Int) - i).toNat) ⟨Int.le_refl _,by omega,by simp,fun j E=>by simp at E⟩ fun(v,i) ⟨Y,g2,g3,g4⟩=>?_
  unfold kr;rw[hw];simp only[Int.toNat_natCast,List.length_replicate];refine aH (fun hi=>?_) fun hi=>?_
  ·rw[dec_lt]at hi;refine aV ⟨Y,by omega⟩ (aV (by omega) ?_);rw[bV Y (by omega)];refine aq ⟨⟨by(try simp only);omega,by(try simp only);omega,by rw[List.length_set];exact g3,fun j E=>?_⟩,by(try simp only);omega⟩;rw[pC _ _ _ _ (by omega)];split
   ·rfl
   ·exact g4 j (by omega)
  ·rw[dec_lt]at hi;refine aq ⟨g3,fun x B=>?_⟩;obtain⟨j,E,e⟩:=List.mem_iff_getElem.1 B;have:=g4 j (by omega);rw[List.getD_eq_getElem?_getD,List.getElem?_eq_getElem E,Option.getD_some,e]at this;exact this
 obtain⟨v1,v2⟩:=hv;have Z:=J 0 (by omega);have e0:(K.getD ((0:Int).toNat) 0).toNat<v.length:=by rw[v1];simp only[Int.toNat_zero];omega
 have c0:(v.set (K.getD ((0:Int).toNat) 0).toNat 0).countP (fun x=>decide (0≤x))=1:=by
  rw[List.countP_set e0];have:v.countP (fun x=>decide (0≤x))=0:=List.countP_eq_zero.2 fun x B=>by rw[v2 x B];decide
  rw[this,v2 _ (List.getElem_mem e0)];rfl
 refine aV (by omega) (aV ⟨Z.1,by rw[v1];have:=Z.2;simp only[Int.toNat_zero];omega⟩ (aV e0 (ao (P:=fun r=>(0<r.1.length∧r.1.length≤300)∧WB r.1 r.2 k m) ?_ fun r L=>aq L)));have a2:∀s,s<nx.length→0≤ou.getD s 0∧ou.getD s 0<((2 ^ m:Nat):Int):=fun s hs=>h.ob _ (bU (by rw[h.ol];exact hs) 0)
 refine bG (fun(N,O,pl,z,i)=>0≤i∧i≤(z.length:Int)∧0<z.length∧pl.length=M+1∧pl.countP (fun x=>decide (0≤x))=z.length∧(∀x∈pl,x<(z.length:Int))∧(∀x∈z,0≤x∧x<(nx.length:Int)) ∧
   (N.length:Int)=i∧O.length=N.length∧(∀r∈N,r.length=k∧∀x∈r,0≤x∧x<(z.length:Int))∧∀x∈O,0≤x∧x<((2 ^ m:Nat):Int))
  (fun(_,_,_,_,i)=>(((M+1:Nat):Int) - i).toNat) ⟨Int.le_refl _,by decide,by decide,by rw[List.length_set];exact v1,c0,fun x B=>?_,fun x B=>?_,rfl,rfl,fun _ h=>(by cases h),fun _ h=>(by cases h)⟩
  fun(N,O,pl,z,i) ⟨Y,g2,g3,g4,g5,g6,g7,g8,g9,I,a1⟩=>?_
 ·rcases List.mem_or_eq_of_mem_set B with q | q
  ·rw[v2 x q];decide
  ·rw[q];decide
 ·rw[List.mem_singleton.1 B];omega
 have a3:z.length≤M+1:=by rw[←g5,←g4];exact List.countP_le_length
 unfold kj;refine aH (fun hi=>?_) fun hi=>?_
 rotate_left
 ·rw[dec_lt]at hi;have e:N.length=z.length:=by omega
  exact aq ⟨by rw[e];omega,fun r L=>(I r L).1,fun r L=>by rw[e];exact(I r L).2,g9,a1⟩
 rw[dec_lt]at hi;obtain⟨s0,s1⟩:=g7 _ (bU (i:=i.toNat) (by omega) 0);obtain⟨r1,r2⟩:=h.row (s:=(z.getD i.toNat 0).toNat) (by omega);refine aV ⟨Y,hi⟩ (aV (by omega) (aV ⟨s0,s1⟩ (ao (P:=fun(u,p,row)=>z.length≤p.length∧u.length=M+1∧u.countP (fun x=>decide (0≤x))=p.length∧(∀x∈u,x<(p.length:Int))∧(∀x∈p,0≤x∧x<(nx.length:Int))∧p.getD i.toNat 0=z.getD i.toNat 0∧row.length=k∧∀x∈row,0≤x∧x<(p.length:Int)) ?_ ?_)))
 rotate_left
 ·rintro⟨u,p,row⟩ ⟨f1,V,X,f4,f5,f6,f7,f8⟩;obtain⟨b1,b2⟩:=a2 (z.getD i.toNat 0).toNat (by omega);have hb:0≤ou.getD (z.getD i.toNat 0).toNat 0∧ou.getD (z.getD i.toNat 0).toNat 0<((2 ^ m:Nat):Int):=⟨b1,b2⟩;have a7:=h.ol;simp only;rw[f6];refine aV (by simp only[List.length_singleton];omega) (aV (by omega) (aV (by omega) (aV (by omega) (aV (by simp only[List.length_singleton];omega) ?_))));rw[bV Y (by omega)];refine aq ⟨⟨by(try simp only);omega,by(try simp only);omega,by(try simp only);omega,V,X,f4,f5,by simp only[List.length_append,List.length_singleton];omega,by simp only[List.length_append,List.length_singleton];omega,dZ (fun r L=>⟨(I r L).1,fun x B=>?_⟩) ⟨f7,f8⟩,dZ a1 hb⟩,by(try simp only);omega⟩;have:=(I r L).2 x B
  (try simp only);omega
 refine bG (fun(u,p,row,j)=>0≤j∧j≤(k:Int)∧z.length≤p.length∧u.length=M+1∧u.countP (fun x=>decide (0≤x))=p.length∧(∀x∈u,x<(p.length:Int))∧(∀x∈p,0≤x∧x<(nx.length:Int))∧p.getD i.toNat 0=z.getD i.toNat 0∧(row.length:Int)=j∧∀x∈row,0≤x∧x<(p.length:Int))
  (fun(_,_,_,j)=>((k:Int) - j).toNat) ⟨Int.le_refl _,by omega,Nat.le_refl _,g4,g5,g6,g7,rfl,rfl,fun _ h=>(by cases h)⟩ fun(u,p,row,j) ⟨f0,a8,f1,V,X,f4,f5,f6,f7,f8⟩=>?_
 have a4:p.length≤M+1:=by rw[←X,←V];exact List.countP_le_length
 unfold kq;refine aH (fun E=>?_) fun E=>?_
 rotate_left
 ·rw[dec_lt,r1]at E;exact aq ⟨f1,V,X,f4,f5,f6,by omega,f8⟩
 rw[dec_lt,r1]at E;obtain⟨t0,t1⟩:=r2 _ (bU (i:=j.toNat) (by omega) 0);generalize ht:(nx.getD (z.getD i.toNat 0).toNat []).getD j.toNat 0=t at t0 t1;obtain⟨q0,q1⟩:=J t.toNat (by omega);generalize a9:K.getD t.toNat 0=kt at q0 q1;refine aV ⟨f0,by rw[r1];exact E⟩ (aV ⟨t0,by omega⟩ (aV ⟨q0,by omega⟩ (aV (by omega) (ao (P:=fun(C,D)=>p.length≤D.length∧C.length=M+1∧C.countP (fun x=>decide (0≤x))=D.length∧(∀x∈C,x<(D.length:Int))∧(∀x∈D,0≤x∧x<(nx.length:Int))∧D.getD i.toNat 0=p.getD i.toNat 0∧0≤C.getD kt.toNat 0) ?_ ?_))))
 ·have A:kt.toNat<u.length:=by omega
  refine aH (fun hc=>?_) fun hc=>aq ⟨Nat.le_refl _,V,X,f4,f5,rfl,?_⟩
  ·rw[dec_lt]at hc;refine aV ⟨t0,by omega⟩ (aV ⟨q0,by omega⟩ (aV A (aV (by simp only[List.length_singleton];omega) (aq ⟨by simp,by rw[List.length_set];exact V,?_,fun x B=>?_,dZ f5 ⟨t0,t1⟩,?_,?_⟩))))
   ·rw[List.countP_set A,X];have e:u[kt.toNat]=u.getD kt.toNat 0:=by rw[List.getD_eq_getElem?_getD,List.getElem?_eq_getElem A];rfl
    rw[e,if_neg (by simp only[decide_eq_true_eq];omega),if_pos (by simp only[decide_eq_true_eq];omega)];simp
   ·simp only[List.length_append,List.length_singleton];rcases List.mem_or_eq_of_mem_set B with q | q
    ·have:=f4 x q;omega
    ·rw[q];omega
   ·rw[Fx,if_pos (by omega)]
   ·rw[pC _ _ _ _ A,if_pos rfl];omega
  ·simpa using hc
 ·rintro⟨C,D⟩ ⟨d1,d2,d3,d4,d5,d6,d7⟩;have A:kt.toNat<C.length:=by omega
  refine aV ⟨t0,by omega⟩ (aV ⟨q0,by omega⟩ (aV A (aV (by simp only[List.length_singleton];omega) ?_)));rw[bV f0 (by omega)];refine aq ⟨⟨by(try simp only);omega,by(try simp only);omega,by(try simp only);omega,d2,d3,d4,d5,d6.trans f6,by simp only[List.length_append,List.length_singleton];omega,dZ (fun x B=>?_) ⟨d7,d4 _ (bU A 0)⟩⟩,by(try simp only);omega⟩;have:=f8 x B;omega
theorem rZ:Ho (lR nx ou) (fun r=>(0<r.1.1.length∧r.1.1.length≤300)∧WB r.1.1 r.1.2 k m):=by
 refine ao (HX h hn hk) fun b hb=>?_
 subst hb;rw[if_neg (by decide)];exact ao (F4 h hn) fun K j=>ao (Is h hn hk j) fun K j=>ao (F3 h hn hk j) fun r p=>aq p
end
end
end Go.Proofs.YtobbjfkfmdiklaaGreatDoor.T
