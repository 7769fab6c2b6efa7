import Derived.Test.YtflahpmlcfhpcaaGreatDoorTvZam
namespace Go.Proofs.YtflahpmlcfhpcaaGreatDoor.T
open Go Go.Tv Go.Proofs
open Go.IntKind (i64 u8)
noncomputable section
theorem bV{α:Type}{l:List α}{i:Nat}(h:i<l.length)(d:α):l.getD i d∈l:=by
 rw[List.getD_eq_getElem?_getD,List.getElem?_eq_getElem h];exact List.getElem_mem h
theorem EK{α:Type}(l:List α)(x d:α)(i:Nat):(l++[x]).getD i d=if i<l.length then l.getD i d else if i=l.length then x else d:=by
 simp only[List.getD_eq_getElem?_getD];split
 ·rename_i h;rw[List.getElem?_append_left h]
 ·rename_i h;rw[List.getElem?_append_right (by omega)];split
  ·rename_i e;rw[e,Nat.sub_self];rfl
  ·rename_i e;rw[List.getElem?_eq_none (by simp only[List.length_singleton];omega)];rfl
theorem pz(l:QK)(k j:Nat)(v:Int)(hk:k<l.length):(l.set k v).getD j 0=if k=j then v else l.getD j 0:=by
 simp only[List.getD_eq_getElem?_getD,List.getElem?_set];by_cases e:k=j
 ·rw[if_pos e,if_pos e,if_pos (by omega)];rfl
 ·rw[if_neg e,if_neg e]
/-! ### p f number -/
def mx(l:QK):Int:=l.foldl max 0
theorem foldl_max(l:QK):∀a:Int,a≤l.foldl max a∧(∀x∈l,x≤l.foldl max a)∧(l.foldl max a=a∨l.foldl max a∈l):=by
 induction l with
 | nil=>exact fun a=>⟨Int.le_refl _,fun _ h=>(by cases h),.inl rfl⟩
 | cons x l f =>
  intro a;obtain⟨v,j,p⟩:=f (max a x);refine⟨by simp only[List.foldl_cons];omega,fun y u=>?_,?_⟩
  ·simp only[List.foldl_cons];rcases List.mem_cons.1 u with e | e
   ·rw[e];omega
   ·exact j y e
  ·simp only[List.foldl_cons];rcases p with e | e
   ·rw[e];rcases Int.le_total a x with q | q
    ·rw[Int.max_eq_right q];exact .inr (.head _)
    ·rw[Int.max_eq_left q];exact .inl rfl
   ·exact .inr (.tail _ e)
theorem IX{l:QK}{x:Int}(h:x∈l):x≤mx l:=(foldl_max l 0).2.1 x h
theorem F9(l:QK):0≤mx l:=(foldl_max l 0).1
theorem Fz(l:QK):mx l=0∨mx l∈l:=(foldl_max l 0).2.2
theorem zq{l:QK}(hl:l.length≤1000):Ho (ju l) (fun m=>m=mx l):=by
 refine ao (P:=fun m=>m=mx l) (bI (fun(m,i)=>0≤i∧i≤(l.length:Int)∧m=(l.take i.toNat).foldl max 0) (fun(_,i)=>((l.length:Int) - i).toNat) ⟨Int.le_refl _,by omega,rfl⟩ fun(m,i) ⟨e,q,f⟩=>?_) fun m p=>aq p
 refine aH (fun hi=>?_) fun hi=>?_
 ·rw[dec_lt]at hi;rw[if_pos ⟨e,hi⟩,bW e (by omega)];refine aq ⟨⟨by omega,by omega,?_⟩,by(try simp only);omega⟩;rw[show(i+1).toNat=i.toNat+1 by omega,List.take_add_one,List.getElem?_eq_getElem (by omega),List.foldl_append,←f,List.getD_eq_getElem?_getD,List.getElem?_eq_getElem (by omega)];rfl
 ·rw[dec_lt]at hi;have:i.toNat=l.length:=by omega
  exact aq (by rw[f,this,List.take_length];rfl)
/-! ### j -/
def four(x:Int):QK:=[u8.wrap x,u8.wrap (Int.fdiv x (2 ^ (min (8:Int).toNat i64.bits))),u8.wrap (Int.fdiv x (2 ^ (min (16:Int).toNat i64.bits))),u8.wrap (Int.fdiv x (2 ^ (min (24:Int).toNat i64.bits)))]
theorem HK{r:QK}(j:r.length≤1000):Ho (iter (iU r) ([],0)) (fun v=>v=r.flatMap four):=by
 refine bI (fun(v,i)=>0≤i∧i≤(r.length:Int)∧v=(r.take i.toNat).flatMap four∧(v.length:Int)=4*i) (fun(_,i)=>((r.length:Int) - i).toNat) ⟨Int.le_refl _,by omega,rfl,rfl⟩ fun(v,i) ⟨e,p,f,q⟩=>?_
 refine aH (fun hi=>?_) fun hi=>?_
 ·rw[dec_lt]at hi;refine aU ⟨e,hi⟩ (aU (by omega) (aU (by decide) (aU (by decide) (aU (by decide) (aU (by simp only[List.length_cons,List.length_nil];omega) ?_)))));rw[bW e (by omega)];refine aq ⟨⟨by omega,by omega,?_,by simp only[List.length_append,List.length_cons,List.length_nil];omega⟩,by(try simp only);omega⟩;rw[show(i+1).toNat=i.toNat+1 by omega,List.take_add_one,List.getElem?_eq_getElem (by omega),List.flatMap_append,←f,List.getD_eq_getElem?_getD,List.getElem?_eq_getElem (by omega)];simp[four]
 ·rw[dec_lt]at hi;have:i.toNat=r.length:=by omega
  exact aq (show v=r.flatMap four by rw[f,this,List.take_length])
theorem G2{x y:Int}{a b:QK}(u:0≤x∧x<65536)(v:0≤y∧y<65536)(h:bytesOf (four x++a)=bytesOf (four y++b)):x=y:=by
 have q:∀z:Int,0≤z→Int.fdiv z (2 ^ (min (8:Int).toNat i64.bits))=z / 256:=fun z hz=>by rw[show((2:Int) ^ (min (8:Int).toNat i64.bits))=256 by decide,Int.fdiv_eq_ediv_of_nonneg _ (by decide)]
 have j:(bytesOf (four x++a))[0]? = (bytesOf (four y++b))[0]? :=by rw[h]
 have p:(bytesOf (four x++a))[1]? = (bytesOf (four y++b))[1]? :=by rw[h]
 simp only[bytesOf,four,List.map_append,List.map_cons,List.cons_append,List.getElem?_cons_zero,List.getElem?_cons_succ,Option.some.injEq,q x u.1,q y v.1]at j p;rw[IntKind.wrap_u8,IntKind.wrap_u8]at j p;have t:∀z w:Int,0≤z→z<256→0≤w→w<256→UInt8.ofNat z.toNat=UInt8.ofNat w.toNat→z=w:=fun z w A B C D e=>by have:=congrArg UInt8.toNat e;rw[UInt8.toNat_ofNat',UInt8.toNat_ofNat',Nat.mod_eq_of_lt (by omega),Nat.mod_eq_of_lt (by omega)]at this;omega
 have E:=t _ _ (by omega) (by omega) (by omega) (by omega) j;have I:=t _ _ (by omega) (by omega) (by omega) (by omega) p;omega
theorem A8{α:Type}{k:QX}{x:α}:∀ {f:List (QX×α)},bg .str f k=some x→(k,x)∈f
 | [],h=>by cases h
 | q::r,h=>by
  simp only[bg]at h;split at h
  ·rename_i e;have j:q.1=k:=by simpa [eI]using e
   cases h;rw[←j];exact .head _
  ·exact .tail _ (A8 h)
theorem DM{α:Type}{k:QX}{x:α}:∀ {f:List (QX×α)},bg .str f k=none→(cO .str f k x).length=f.length+1
 | [],_=>rfl
 | q::r,h=>by
  simp only[bg]at h;split at h
  ·cases h
  ·rename_i e;simp only[cO];rw[if_neg e,List.length_cons,DM h,List.length_cons]
structure Nb(n:Nat)(K:QK):Prop where
 len:K.length=n
 val:∀s,s<n→0≤K.getD s 0∧K.getD s 0<(n:Int)
 fst:∀s,s<n→K.getD s 0=0∨∃j,j<s∧K.getD j 0=K.getD s 0 - 1
abbrev Md:=(List (QX×Int))×QK×QK×Int
def ML(f:Int→QK→Option QK)(z:Int):Md→Option (Md⊕QK):=fun(j,v20,q,e) =>
 (if(decide (e<z))=true then(if 0≤(0:Int)∧0≤(q.length:Int)then((f e (q.take (0:Int).toNat)).bind fun v =>
 ((iter (iU v) (([]:QK),0)).bind fun p=>(((if(!((bg .str j (bytesOf p)).isSome))=true then some (((cO .str j (bytesOf p) (j.length:Int)),(j.length:Int)))
 else some ((j,((bg .str j (bytesOf p)).getD 0))))).bind fun(u,v30)=>(if 0≤e∧e<(v20.length:Int)then(if e.toNat<v20.length then some (Sum.inl (u,(v20.set e.toNat v30),v,(i64.wrap (e+1))))else none)else none))))else none)
 else some (Sum.inr v20))
theorem zR{n:Nat}(hn:0<n∧n≤300){f:Int→QK→Option QK}{key:Nat→QK}(hf:∀s:Nat,s<n→f (s:Int) []=some (key s))(hk:∀s,s<n→(key s).length≤1000){K:Nat→Int}(h0:∀s,s<n→0≤K s)
  (hP:∀s,s<n→K s=0∨∃j,j<s∧K j=K s - 1) (I:∀j s,j<n→s<n→bytesOf ((key j).flatMap four)=bytesOf ((key s).flatMap four)→K j=K s) :
  Ho (iter (ML f (n:Int)) ([],List.replicate n 0,[],0)) (fun o=>Nb n o∧∀s,s<n→K s≤mx o):=by
 refine bI (fun(m,o,_,i)=>∃s:Nat,i=(s:Int)∧s≤n∧o.length=n∧(∀j,j<s→0≤o.getD j 0∧o.getD j 0<(m.length:Int))∧(s=0∨∃j,j<s∧o.getD j 0=(m.length:Int) - 1)∧m.length≤s ∧
   (∀j,j<s→o.getD j 0=0∨∃q,q<j∧o.getD q 0=o.getD j 0 - 1)∧(∀p∈m,(0≤p.2∧p.2<(m.length:Int))∧∃j,j<s∧p.1=bytesOf ((key j).flatMap four))∧(∀j,j<s→K j<(m.length:Int))∧∀c:Int,0≤c→c<(m.length:Int)→∃j,j<s∧o.getD j 0=c)
  (fun(_,_,_,i)=>((n:Int) - i).toNat) ⟨0,rfl,by omega,by simp,fun _ h=>(by omega),.inl rfl,by simp,fun _ h=>(by omega),fun _ h=>(by cases h),fun _ h=>(by omega),fun c h1 J=>(by simp only[List.length_nil]at J;omega)⟩ fun(m,o,k',i) ⟨s,e,h1,J,X,M,h5,N,Y,D,O⟩=>?_
 subst e;refine aH (fun hi=>?_) fun hi=>?_
 rotate_left
 ·rw[dec_lt]at hi;obtain rfl:s=n:=by omega
  refine aq ⟨⟨J,fun j C=>?_,N⟩,fun j C=>?_⟩
  ·have:=X j C;omega
  ·rcases M with M | ⟨q,z,A⟩
   ·omega
   ·have:=D j C;have:=IX (bV (l:=o) (i:=q) (by omega) 0);omega
 rw[dec_lt]at hi;have V:s<n:=by omega
 refine aU ⟨by decide,by omega⟩ ?_;refine ao (P:=fun r=>r=key s) ⟨_,hf s V,rfl⟩ fun r hr=>?_
 subst hr;refine ao (HK (hk s V)) fun v hv=>?_
 subst hv;have hw:i64.wrap ((s:Int)+1)=((s+1:Nat):Int):=by rw[bW (by omega) (by omega)];rfl
 have u:∀(v:Int) j,j<s→(o.set s v).getD j 0=o.getD j 0:=fun v j C=>by rw[pz _ _ _ _ (by omega),if_neg (by omega)]
 have B:∀v:Int,(o.set s v).getD s 0=v:=fun v=>by rw[pz _ _ _ _ (by omega),if_pos rfl]
 have a3:(∀j,j<s→K j≠K s)∨K s<(m.length:Int):=by
  by_cases q:∃j,j<s∧K j=K s
  ·obtain⟨j,E,L⟩:=q;exact .inr (by rw[←L];exact D j E)
  ·exact .inl fun j C e=>q ⟨j,C,e⟩
 have a4:K s≤(m.length:Int):=by
  rcases hP s V with e | ⟨j,E,L⟩
  ·omega
  ·have:=D j E;omega
 cases hm:bg .str m (bytesOf ((key s).flatMap four))with
 | none =>
  have hl:=DM (x:=(m.length:Int)) hm;simp only[Option.isSome_none,Bool.not_false,if_true,Option.bind_some,Int.toNat_natCast];rw[hw];refine aU (by omega) (aU (by omega) (aq ⟨⟨s+1,rfl,by omega,by rw[List.length_set];exact J,fun j C=>?_,.inr ⟨s,by omega,?_⟩,Nat.le_trans (Nat.le_of_eq hl) (by omega),fun j C=>?_,fun p Z=>?_,fun j C=>?_,fun c c1 c2=>?_⟩,by(try simp only);omega⟩))
  ·by_cases e:j=s
   ·subst e;rw[B,hl];omega
   ·rw[u _ _ (by omega),hl];have:=X j (by omega);omega
  ·rw[B,hl];omega
  ·by_cases e:j=s
   ·subst e;rw[B];by_cases a5:m.length=0
    ·left;omega
    ·right
     obtain⟨q,z,A⟩:=O ((m.length:Int) - 1) (by omega) (by omega);exact⟨q,z,by rw[u _ _ z];exact A⟩
   ·rw[u _ _ (by omega)];rcases N j (by omega)with q | ⟨q,z,A⟩
    ·exact .inl q
    ·exact .inr ⟨q,z,by rw[u _ _ (by omega)];exact A⟩
  ·rw[hl];rcases mem_set Z with e | e
   ·rw[e];exact⟨⟨by(try simp only);omega,by(try simp only);omega⟩,s,by omega,rfl⟩
   ·obtain⟨z,j,A,q3⟩:=Y p e;exact⟨⟨z.1,by omega⟩,j,by omega,q3⟩
  ·rw[hl];by_cases e:j=s
   ·subst e;omega
   ·have:=D j (by omega);omega
  ·rw[hl]at c2;by_cases e:c=(m.length:Int)
   ·exact⟨s,by omega,by rw[B,e]⟩
   ·obtain⟨q,z,A⟩:=O c c1 (by omega);exact⟨q,by omega,by rw[u _ _ z];exact A⟩
 | some x =>
  obtain⟨⟨x1,x2⟩,j0,E,L⟩:=Y _ (A8 hm);simp only at x1 x2 L;have a1:=I j0 s (by omega) V L.symm;have:=D j0 E;simp only[Option.isSome_some,Bool.not_true,Bool.false_eq_true,if_false,Option.bind_some,Option.getD_some,Int.toNat_natCast];rw[hw];obtain⟨jx,a2,a6⟩:=O x x1 x2;refine aU (by omega) (aU (by omega) (aq ⟨⟨s+1,rfl,by omega,by rw[List.length_set];exact J,fun j C=>?_,?_,Nat.le_succ_of_le h5,fun j C=>?_,fun p Z=>?_,fun j C=>?_,fun c c1 c2=>?_⟩,by(try simp only);omega⟩))
  ·by_cases e:j=s
   ·subst e;rw[B];exact⟨x1,x2⟩
   ·rw[u _ _ (by omega)];exact X j (by omega)
  ·rcases M with M | ⟨q,z,A⟩
   ·omega
   ·exact .inr ⟨q,by omega,by rw[u _ _ z];exact A⟩
  ·by_cases e:j=s
   ·subst e;rw[B];rcases N jx a2 with q | ⟨q,z,A⟩
    ·left;omega
    ·exact .inr ⟨q,by omega,by rw[u _ _ (by omega)];omega⟩
   ·rw[u _ _ (by omega)];rcases N j (by omega)with q | ⟨q,z,A⟩
    ·exact .inl q
    ·exact .inr ⟨q,z,by rw[u _ _ (by omega)];exact A⟩
  ·obtain⟨z,j,A,q3⟩:=Y p Z;exact⟨z,j,by omega,q3⟩
  ·by_cases e:j=s
   ·subst e;rw[←a1];exact D j0 E
   ·exact D j (by omega)
  ·obtain⟨q,z,A⟩:=O c c1 c2;exact⟨q,by omega,by rw[u _ _ z];exact A⟩
theorem WB.row{nx:QZ}{ou:QK}{k m:Nat}(h:WB nx ou k m){s:Nat}(e:s<nx.length):(nx.getD s []).length=k∧∀x∈nx.getD s [],0≤x∧x<(nx.length:Int) :=
 ⟨h.len _ (bV e _),h.val _ (bV e _)⟩
section
variable{nx:QZ}{ou:QK}{k m:Nat}(h:WB nx ou k m)(hn:0<nx.length∧nx.length≤300)(hk:k≤24)
include h hn hk
theorem Gp:Ho (lM nx ou) (fun b=>b=true):=by
 refine ao (P:=fun b=>b=false) ?_ fun b hb=>?_
 ·rw[if_neg (by simp only[beq_iff_eq];omega)];exact aq (by rw[h.ol];simp)
 subst hb;rw[if_neg (by decide)];refine ao (P:=Lp (fun _=>True) fun _=>False) ?_ ?_
 rotate_left
 ·rintro(_ | r) e
  ·exact aq rfl
  ·exact e.elim
 refine bI (fun i=>0≤i∧i≤(nx.length:Int)) (fun i=>((nx.length:Int) - i).toNat) ⟨Int.le_refl _,by omega⟩ fun i ⟨p,z⟩=>?_
 refine aH (fun hi=>?_) fun _=>aq trivial
 rw[dec_lt]at hi;obtain⟨f,v⟩:=h.row (s:=i.toNat) (by omega);obtain⟨x,_⟩:=h.row (s:=(0:Int).toNat) (by simp only[Int.toNat_zero];omega);refine aU ⟨p,hi⟩ (aU (by omega) ?_);rw[if_neg (by rw[f,x];simp)];refine ao (P:=Lp (fun _=>True) fun _=>False) ?_ ?_
 rotate_left
 ·rintro(_ | r) e
  ·dsimp only;rw[bW p (by omega)];exact aq ⟨⟨by(try simp only);omega,by(try simp only);omega⟩,by(try simp only);omega⟩
  ·exact e.elim
 refine bI (fun j=>0≤j∧j≤(k:Int)) (fun j=>((k:Int) - j).toNat) ⟨Int.le_refl _,by omega⟩ fun j ⟨q,g2⟩=>?_
 refine aH (fun u=>?_) fun _=>aq trivial
 rw[dec_lt,f]at u;obtain⟨A,B⟩:=v _ (bV (i:=j.toNat) (by omega) 0);refine aU ⟨q,by rw[f];exact u⟩ (ao (P:=fun b=>b=false) ?_ fun b hb=>?_)
 ·rw[if_neg (by simp only[decide_eq_true_eq];omega)];exact aq (by simp only[decide_eq_false_iff_not];omega)
 ·subst hb;rw[if_neg (by decide),bW q (by omega)];exact aq ⟨⟨by(try simp only);omega,by(try simp only);omega⟩,by(try simp only);omega⟩
omit hk in
theorem Ec:Ho (lP (ou.length:Int) nx ou) (Nb nx.length):=by
 have e:=h.ol;refine aU ⟨by omega,Int.le_refl _,by omega,by omega⟩ ?_;rw[e];refine ao (P:=Nb nx.length) (DK (zR (n:=nx.length) hn (f:=fun s k=>il s nx ou k) (key:=fun s=>[i64.wrap (ou.getD s 0)]) (fun s p=>?_) (fun _ _=>by simp) (K:=fun _=>0) (fun _ _=>Int.le_refl _) (fun _ _=> .inl rfl) fun _ _ _ _ _=>rfl) fun r j=>j.1) fun r j=>aq j
 show(if _ then _ else none)=_;rw[if_pos (by omega),if_pos (by simp),Int.toNat_natCast];rfl
theorem Ev{K:QK}(u:Nb nx.length K):Ho (iZ (K.length:Int) K nx ou) (fun r=>Nb nx.length r∧mx K≤mx r):=by
 have x:=u.len;refine aU ⟨by omega,Int.le_refl _,by omega,by omega⟩ ?_;rw[x];refine ao (P:=fun r=>Nb nx.length r∧mx K≤mx r) (DK (zR (n:=nx.length) hn (f:=fun s k=>iu s K nx ou k) (key:=fun s=>K.getD s 0::(nx.getD s []).map fun t=>K.getD t.toNat 0) (fun s p=>?_) (fun s p=>?_) (K:=fun s=>K.getD s 0) (fun s p=>(u.val s p).1) (fun s p=>u.fst s p) fun j s B p e=>?_) fun r q=>⟨q.1,?_⟩) fun r q=>aq q
 ·obtain⟨z,C⟩:=h.row p;obtain⟨r,e,q⟩:Ho (iter (fO (s:Int) K nx) (([]++[K.getD s 0]),0)) (fun r=>r=K.getD s 0::(nx.getD s []).map fun t=>K.getD t.toNat 0):=by
   refine bI (fun(v,i)=>0≤i∧i≤(k:Int)∧v=K.getD s 0::((nx.getD s []).take i.toNat).map fun t=>K.getD t.toNat 0) (fun(_,i)=>((k:Int) - i).toNat) ⟨Int.le_refl _,by omega,rfl⟩ fun(v,i) ⟨A,g2,g3⟩=>?_
   subst g3;unfold fO;simp only[Int.toNat_natCast];refine aH (fun hi=>?_) fun hi=>?_
   ·rw[dec_lt,z]at hi;obtain⟨D,E⟩:=C _ (bV (i:=i.toNat) (by omega) 0);refine aU ⟨A,by rw[z];exact hi⟩ (aU ⟨D,by rw[x];exact E⟩ (aU (by simp only[List.length_cons,List.length_map,List.length_take,List.length_nil];omega) ?_));rw[bW A (by omega)];refine aq ⟨⟨by(try simp only);omega,by(try simp only);omega,?_⟩,by(try simp only);omega⟩;rw[show(i+1).toNat=i.toNat+1 by omega,List.take_add_one,List.getElem?_eq_getElem (by omega),List.map_append,List.getD_eq_getElem?_getD (l:=nx.getD s []),List.getElem?_eq_getElem (by omega)];rfl
   ·rw[dec_lt,z]at hi;have:i.toNat=(nx.getD s []).length:=by omega
    exact aq (show _=_ by rw[this,List.take_length])
  show(if _ then _ else none)=_;rw[if_pos (by omega),if_pos (by simp),if_pos (by omega),Int.toNat_natCast,e,q];rfl
 ·obtain⟨z,_⟩:=h.row p;simp only[List.length_cons,List.length_map,z];omega
 ·have v1:=u.val j B;have I:=u.val s p;simp only[List.flatMap_cons]at e;exact G2 ⟨v1.1,by omega⟩ ⟨I.1,by omega⟩ e
 ·rcases Fz K with e | e
  ·rw[e];exact F9 r
  ·obtain⟨i,hi,J⟩:=List.mem_iff_getElem.1 e;have:=q.2 i (by omega);rw[List.getD_eq_getElem?_getD,List.getElem?_eq_getElem hi,Option.getD_some,J]at this;exact this
theorem FF{K:QK}(f:Nb nx.length K):Ho (iter (mg nx ou) K) (Nb nx.length):=by
 have lt:∀K,Nb nx.length K→mx K<(nx.length:Int):=fun K f=>by
  rcases Fz K with e | e
  ·omega
  ·obtain⟨i,hi,u⟩:=List.mem_iff_getElem.1 e;have:=(f.val i (by rw[←f.len];exact hi)).2;rw[List.getD_eq_getElem?_getD,List.getElem?_eq_getElem hi,Option.getD_some,u]at this;exact this
 refine bI (Nb nx.length) (fun K=>((nx.length:Int) - mx K).toNat) f fun K f=>?_
 refine ao (Ev h hn hk f) fun r j=>ao (zq (by rw[j.1.len];omega)) fun a ha=>ao (zq (by rw[f.len];omega)) fun b hb=>aH (fun _=>aq f) fun p=>aq ⟨j.1,?_⟩
 subst ha hb;have q:mx r≠mx K:=by simpa using p
 have:=j.2;have:=lt _ j.1;have:=lt _ f;omega
theorem EI{K:QK}(hK:Nb nx.length K):Ho (ky nx ou K) (fun r=>(0<r.1.length∧r.1.length≤300)∧WB r.1 r.2 k m):=by
 have a4:=hK.len;have a5:mx K<(nx.length:Int):=by
  rcases Fz K with e | e
  ·omega
  ·obtain⟨i,hi,e2⟩:=List.mem_iff_getElem.1 e;have:=(hK.val i (by rw[←hK.len];exact hi)).2;rw[List.getD_eq_getElem?_getD,List.getElem?_eq_getElem hi,Option.getD_some,e2]at this;exact this
 have I:∀s,s<nx.length→0≤K.getD s 0∧K.getD s 0≤mx K:=fun s hs=>⟨(hK.val s hs).1,IX (bV (by omega) 0)⟩
 have hp:=F9 K;refine ao (zq (by omega)) fun M hM=>?_
 subst hM;obtain⟨M,hM⟩:∃M:Nat,mx K=(M:Int):=⟨(mx K).toNat,by omega⟩;have hw:i64.wrap (mx K+1)=((M+1:Nat):Int):=by rw[bW hp (by omega),hM];rfl
 rw[hw];refine aU ⟨by omega,Int.le_refl _,by omega,by omega⟩ (ao (P:=fun v=>v.length=M+1∧∀x∈v,x = -1) ?_ fun v hv=>?_)
 ·refine bI (fun(v,i)=>0≤i∧i≤((M+1:Nat):Int)∧v.length=M+1∧∀j,j<i.toNat→v.getD j 0 = -1) (fun(_,i)=>(((M+1:Nat):Int) - i).toNat) ⟨Int.le_refl _,by omega,by simp,fun j D=>by simp at D⟩ fun(v,i) ⟨X,g2,g3,g4⟩=>?_
  unfold j3;rw[hw];simp only[Int.toNat_natCast,List.length_replicate];refine aH (fun hi=>?_) fun hi=>?_
  ·rw[dec_lt]at hi;refine aU ⟨X,by omega⟩ (aU (by omega) ?_);rw[bW X (by omega)];refine aq ⟨⟨by(try simp only);omega,by(try simp only);omega,by rw[List.length_set];exact g3,fun j D=>?_⟩,by(try simp only);omega⟩;rw[pz _ _ _ _ (by omega)];split
   ·rfl
   ·exact g4 j (by omega)
  ·rw[dec_lt]at hi;refine aq ⟨g3,fun x A=>?_⟩;obtain⟨j,D,e⟩:=List.mem_iff_getElem.1 A;have:=g4 j (by omega);rw[List.getD_eq_getElem?_getD,List.getElem?_eq_getElem D,Option.getD_some,e]at this;exact this
 obtain⟨v1,v2⟩:=hv;have Y:=I 0 (by omega);have e0:(K.getD ((0:Int).toNat) 0).toNat<v.length:=by rw[v1];simp only[Int.toNat_zero];omega
 have c0:(v.set (K.getD ((0:Int).toNat) 0).toNat 0).countP (fun x=>decide (0≤x))=1:=by
  rw[List.countP_set e0];have:v.countP (fun x=>decide (0≤x))=0:=List.countP_eq_zero.2 fun x A=>by rw[v2 x A];decide
  rw[this,v2 _ (List.getElem_mem e0)];rfl
 refine aU (by omega) (aU ⟨Y.1,by rw[v1];have:=Y.2;simp only[Int.toNat_zero];omega⟩ (aU e0 (ao (P:=fun r=>(0<r.1.length∧r.1.length≤300)∧WB r.1 r.2 k m) ?_ fun r J=>aq J)));have a1:∀s,s<nx.length→0≤ou.getD s 0∧ou.getD s 0<((2 ^ m:Nat):Int):=fun s hs=>h.ob _ (bV (by rw[h.ol];exact hs) 0)
 refine bI (fun(N,O,pl,u,i)=>0≤i∧i≤(u.length:Int)∧0<u.length∧pl.length=M+1∧pl.countP (fun x=>decide (0≤x))=u.length∧(∀x∈pl,x<(u.length:Int))∧(∀x∈u,0≤x∧x<(nx.length:Int)) ∧
   (N.length:Int)=i∧O.length=N.length∧(∀r∈N,r.length=k∧∀x∈r,0≤x∧x<(u.length:Int))∧∀x∈O,0≤x∧x<((2 ^ m:Nat):Int))
  (fun(_,_,_,_,i)=>(((M+1:Nat):Int) - i).toNat) ⟨Int.le_refl _,by decide,by decide,by rw[List.length_set];exact v1,c0,fun x A=>?_,fun x A=>?_,rfl,rfl,fun _ h=>(by cases h),fun _ h=>(by cases h)⟩
  fun(N,O,pl,u,i) ⟨X,g2,g3,g4,g5,g6,g7,g8,g9,E,Z⟩=>?_
 ·rcases List.mem_or_eq_of_mem_set A with q | q
  ·rw[v2 x q];decide
  ·rw[q];decide
 ·rw[List.mem_singleton.1 A];omega
 have a2:u.length≤M+1:=by rw[←g5,←g4];exact List.countP_le_length
 unfold j9;refine aH (fun hi=>?_) fun hi=>?_
 rotate_left
 ·rw[dec_lt]at hi;have e:N.length=u.length:=by omega
  exact aq ⟨by rw[e];omega,fun r J=>(E r J).1,fun r J=>by rw[e];exact(E r J).2,g9,Z⟩
 rw[dec_lt]at hi;obtain⟨s0,s1⟩:=g7 _ (bV (i:=i.toNat) (by omega) 0);obtain⟨r1,r2⟩:=h.row (s:=(u.getD i.toNat 0).toNat) (by omega);refine aU ⟨X,hi⟩ (aU (by omega) (aU ⟨s0,s1⟩ (ao (P:=fun(p,f,row)=>u.length≤f.length∧p.length=M+1∧p.countP (fun x=>decide (0≤x))=f.length∧(∀x∈p,x<(f.length:Int))∧(∀x∈f,0≤x∧x<(nx.length:Int))∧f.getD i.toNat 0=u.getD i.toNat 0∧row.length=k∧∀x∈row,0≤x∧x<(f.length:Int)) ?_ ?_)))
 rotate_left
 ·rintro⟨p,f,row⟩ ⟨f1,L,V,f4,f5,f6,f7,f8⟩;obtain⟨b1,b2⟩:=a1 (u.getD i.toNat 0).toNat (by omega);have hb:0≤ou.getD (u.getD i.toNat 0).toNat 0∧ou.getD (u.getD i.toNat 0).toNat 0<((2 ^ m:Nat):Int):=⟨b1,b2⟩;have a6:=h.ol;simp only;rw[f6];refine aU (by simp only[List.length_singleton];omega) (aU (by omega) (aU (by omega) (aU (by omega) (aU (by simp only[List.length_singleton];omega) ?_))));rw[bW X (by omega)];refine aq ⟨⟨by(try simp only);omega,by(try simp only);omega,by(try simp only);omega,L,V,f4,f5,by simp only[List.length_append,List.length_singleton];omega,by simp only[List.length_append,List.length_singleton];omega,ez (fun r J=>⟨(E r J).1,fun x A=>?_⟩) ⟨f7,f8⟩,ez Z hb⟩,by(try simp only);omega⟩;have:=(E r J).2 x A
  (try simp only);omega
 refine bI (fun(p,f,row,j)=>0≤j∧j≤(k:Int)∧u.length≤f.length∧p.length=M+1∧p.countP (fun x=>decide (0≤x))=f.length∧(∀x∈p,x<(f.length:Int))∧(∀x∈f,0≤x∧x<(nx.length:Int))∧f.getD i.toNat 0=u.getD i.toNat 0∧(row.length:Int)=j∧∀x∈row,0≤x∧x<(f.length:Int))
  (fun(_,_,_,j)=>((k:Int) - j).toNat) ⟨Int.le_refl _,by omega,Nat.le_refl _,g4,g5,g6,g7,rfl,rfl,fun _ h=>(by cases h)⟩ fun(p,f,row,j) ⟨f0,a7,f1,L,V,f4,f5,f6,f7,f8⟩=>?_
 have a3:f.length≤M+1:=by rw[←V,←L];exact List.countP_le_length
 unfold kd;refine aH (fun D=>?_) fun D=>?_
 rotate_left
 ·rw[dec_lt,r1]at D;exact aq ⟨f1,L,V,f4,f5,f6,by omega,f8⟩
 rw[dec_lt,r1]at D;obtain⟨t0,t1⟩:=r2 _ (bV (i:=j.toNat) (by omega) 0);generalize ht:(nx.getD (u.getD i.toNat 0).toNat []).getD j.toNat 0=t at t0 t1;obtain⟨q0,q1⟩:=I t.toNat (by omega);generalize a8:K.getD t.toNat 0=kt at q0 q1;refine aU ⟨f0,by rw[r1];exact D⟩ (aU ⟨t0,by omega⟩ (aU ⟨q0,by omega⟩ (aU (by omega) (ao (P:=fun(B,C)=>f.length≤C.length∧B.length=M+1∧B.countP (fun x=>decide (0≤x))=C.length∧(∀x∈B,x<(C.length:Int))∧(∀x∈C,0≤x∧x<(nx.length:Int))∧C.getD i.toNat 0=f.getD i.toNat 0∧0≤B.getD kt.toNat 0) ?_ ?_))))
 ·have z:kt.toNat<p.length:=by omega
  refine aH (fun hc=>?_) fun hc=>aq ⟨Nat.le_refl _,L,V,f4,f5,rfl,?_⟩
  ·rw[dec_lt]at hc;refine aU ⟨t0,by omega⟩ (aU ⟨q0,by omega⟩ (aU z (aU (by simp only[List.length_singleton];omega) (aq ⟨by simp,by rw[List.length_set];exact L,?_,fun x A=>?_,ez f5 ⟨t0,t1⟩,?_,?_⟩))))
   ·rw[List.countP_set z,V];have e:p[kt.toNat]=p.getD kt.toNat 0:=by rw[List.getD_eq_getElem?_getD,List.getElem?_eq_getElem z];rfl
    rw[e,if_neg (by simp only[decide_eq_true_eq];omega),if_pos (by simp only[decide_eq_true_eq];omega)];simp
   ·simp only[List.length_append,List.length_singleton];rcases List.mem_or_eq_of_mem_set A with q | q
    ·have:=f4 x q;omega
    ·rw[q];omega
   ·rw[EK,if_pos (by omega)]
   ·rw[pz _ _ _ _ z,if_pos rfl];omega
  ·simpa using hc
 ·rintro⟨B,C⟩ ⟨d1,d2,d3,d4,d5,d6,d7⟩;have z:kt.toNat<B.length:=by omega
  refine aU ⟨t0,by omega⟩ (aU ⟨q0,by omega⟩ (aU z (aU (by simp only[List.length_singleton];omega) ?_)));rw[bW f0 (by omega)];refine aq ⟨⟨by(try simp only);omega,by(try simp only);omega,by(try simp only);omega,d2,d3,d4,d5,d6.trans f6,by simp only[List.length_append,List.length_singleton];omega,ez (fun x A=>?_) ⟨d7,d4 _ (bV z 0)⟩⟩,by(try simp only);omega⟩;have:=f8 x A;omega
theorem rC:Ho (lg nx ou) (fun r=>(0<r.1.1.length∧r.1.1.length≤300)∧WB r.1.1 r.1.2 k m):=by
 refine ao (Gp h hn hk) fun b hb=>?_
 subst hb;rw[if_neg (by decide)];exact ao (Ec h hn) fun K e=>ao (FF h hn hk e) fun K e=>ao (EI h hn hk e) fun r f=>aq f
end
end
end Go.Proofs.YtflahpmlcfhpcaaGreatDoor.T
