import Derived.Test.YtobbjfkfmdiklaaGreatDoorTvYm
import Derived.Test.YtobbjfkfmdiklaaGreatDoorTv50gb
namespace Go.Tv
open Go
open Go.IntKind (i64 u32 u64)
def LN(x:Int):Prop:=0≤x∧x<18446744073709551616
def Gp(x:Int):Prop:=0≤x∧x<4294967296
theorem LJ{x y:Int}(j:LN x)(p:LN y):bitsOf .or .u64 x y=((x.toNat ||| y.toNat:Nat):Int):=by
 have e:(2:Int) ^ 64=18446744073709551616:=by decide
 have u:(2:Nat) ^ 64=18446744073709551616:=by decide
 obtain⟨h1,h2⟩:=j;obtain⟨q,v⟩:=p;show u64.wrap ((BitVec.ofInt u64.bits x ||| BitVec.ofInt u64.bits y).toNat:Int)=_;rw[BitVec.toNat_or,eK h1 (by show x<(2:Int) ^ 64;omega),eK q (by show y<(2:Int) ^ 64;omega)];have:=Nat.or_lt_two_pow (x:=x.toNat) (y:=y.toNat) (n:=64) (by omega) (by omega);rw[wrap_u64 (by omega) (by omega)]
theorem H0{x y:Int}(j:Gp x)(p:Gp y):bitsOf .or .u32 x y=((x.toNat ||| y.toNat:Nat):Int):=by
 have e:(2:Int) ^ 32=4294967296:=by decide
 have u:(2:Nat) ^ 32=4294967296:=by decide
 obtain⟨h1,h2⟩:=j;obtain⟨q,v⟩:=p;show u32.wrap ((BitVec.ofInt u32.bits x ||| BitVec.ofInt u32.bits y).toNat:Int)=_;rw[BitVec.toNat_or,eK h1 (by show x<(2:Int) ^ 32;omega),eK q (by show y<(2:Int) ^ 32;omega)];have:=Nat.or_lt_two_pow (x:=x.toNat) (y:=y.toNat) (n:=32) (by omega) (by omega);rw[wrap_u32 (by omega) (by omega)]
theorem EU{x y:Int}(j:Gp x)(p:Gp y):bitsOf .and .u32 x y=((x.toNat &&& y.toNat:Nat):Int):=by
 have e:(2:Int) ^ 32=4294967296:=by decide
 have u:(2:Nat) ^ 32=4294967296:=by decide
 obtain⟨h1,h2⟩:=j;obtain⟨q,v⟩:=p;show u32.wrap ((BitVec.ofInt u32.bits x &&& BitVec.ofInt u32.bits y).toNat:Int)=_;rw[BitVec.toNat_and,eK h1 (by show x<(2:Int) ^ 32;omega),eK q (by show y<(2:Int) ^ 32;omega)];have:=Nat.and_lt_two_pow x.toNat (show y.toNat<2 ^ 32 by omega);rw[wrap_u32 (by omega) (by omega)]
theorem LN.or{x y:Int}(j:LN x)(p:LN y):LN (bitsOf .or .u64 x y):=by
 rw[LJ j p];have q:(2:Nat) ^ 64=18446744073709551616:=by decide
 obtain⟨h1,h2⟩:=j;obtain⟨u,v⟩:=p;have:=Nat.or_lt_two_pow (x:=x.toNat) (y:=y.toNat) (n:=64) (by omega) (by omega);exact⟨by omega,by omega⟩
theorem Gp.or{x y:Int}(j:Gp x)(p:Gp y):Gp (bitsOf .or .u32 x y):=by
 rw[H0 j p];have q:(2:Nat) ^ 32=4294967296:=by decide
 obtain⟨h1,h2⟩:=j;obtain⟨u,v⟩:=p;have:=Nat.or_lt_two_pow (x:=x.toNat) (y:=y.toNat) (n:=32) (by omega) (by omega);exact⟨by omega,by omega⟩
theorem JP{k:Nat}(hk:k<32):u32.wrap ((1:Int)*2 ^ (min k u32.bits))=((2 ^ k:Nat):Int):=by
 have hb:u32.bits=32:=rfl;have j:(2:Nat) ^ 32=4294967296:=by decide
 have:=Nat.pow_lt_pow_right (a:=2) (by decide) hk;rw[hb,Nat.min_eq_left (by omega),Int.one_mul];have h2:(2:Int) ^ k=((2 ^ k:Nat):Int):=by push_cast;rfl
 rw[h2];generalize 2 ^ k=m at this;rw[wrap_u32 (by omega) (by omega)]
end Go.Tv
namespace Go.Proofs.YtobbjfkfmdiklaaGreatDoor.T
open Go Go.Tv Go.Proofs
open Go.IntKind (i64 u32 u64)
theorem bV{i:Int}(j:0≤i)(h:i≤1000000000):i64.wrap (i+1)=i+1:=wrap_i64 (by omega) (by omega)
theorem mem_set{α:Type}{K:Ty}{k:K.den}{x:α}{p:K.den×α}:∀ {j:List (K.den×α)},p∈cN K j k x→p=(k,x)∨p∈j
 | [],h=> .inl (List.mem_singleton.1 h)
 | q::r,h=>by
  simp only[cN]at h;split at h
  ·rcases List.mem_cons.1 h with e | e
   ·exact .inl e
   ·exact .inr (.tail _ e)
  ·rcases List.mem_cons.1 h with e | e
   ·exact .inr (e ▸ .head _)
   ·rcases mem_set e with e | e
    ·exact .inl e
    ·exact .inr (.tail _ e)
theorem sG{α:Type}{K:Ty}{k:K.den}{x:α}:∀ {p:List (K.den×α)},bh K p k=some x→∃j,(j,x)∈p
 | [],h=>by cases h
 | q::r,h=>by
  simp only[bh]at h;split at h
  ·cases h;exact⟨q.1,.head _⟩
  ·obtain⟨j,h'⟩:=sG h;exact⟨j,.tail _ h'⟩
theorem wJ(a b c d e f g h:Int):Ho (cZ a b c d e f g h) (fun _=>True):=by
 refine ao (P:=fun _=>True) (bG (fun s=>0≤s.2.2.2.2∧s.2.2.2.2≤4) (fun s=>(4 - s.2.2.2.2).toNat) ⟨Int.le_refl _,(by decide:(0:Int)≤4)⟩ fun(a,b,c,d,i) ⟨h1,h2⟩=>?_) fun r _=>aq trivial
 refine aH (fun hl=>?_) fun _=>aq trivial
 rw[dec_lt]at hl;simp only at h1 h2;refine aV ⟨h1,hl⟩ (aV ⟨h1,hl⟩ (aV ⟨h1,hl⟩ ?_));rw[bV h1 (by omega)];exact aq ⟨⟨by(try simp only);omega,by(try simp only);omega⟩,by(try simp only);omega⟩
theorem Hv{i:Int}(j:0≤i)(h:i<256):(0≤i64.wrap (Int.tdiv i 64)∧i64.wrap (Int.tdiv i 64)<((4:Nat):Int))∧0≤Int.tmod i 64:=by
 rw[Int.tdiv_eq_ediv_of_nonneg j,Int.tmod_eq_emod_of_nonneg j,wrap_i64 (by omega) (by omega)];omega
theorem I1{i:Int}(j:0≤i)(h:i<256)(p:Bool)(q u v x z A B C:Int):Ho (iv i p q u v x z A B C) (fun _=>True):=by
 obtain⟨h1,h2⟩:=Hv j h;exact aV (by decide) (aV h1 (aV (by decide) (aV h2 (aV h1 (aq trivial)))))
theorem J2{i:Int}(j:0≤i)(h:i<256)(p q u v:Int):Ho (iq i p q u v) (fun _=>True):=by
 obtain⟨h1,h2⟩:=Hv j h;exact aV (by decide) (aV h1 (aV (by decide) (aV h2 (aV h1 (aq trivial)))))
theorem D5{i:Int}(j:0≤i)(h:i<256)(p q u v:Int):Ho (gH p q u v i) (fun _=>True):=by
 obtain⟨h1,h2⟩:=Hv j h;exact aV (by decide) (aV h1 (aV (by decide) (aV h2 (aq trivial))))
theorem HO(a b c d e f g h:Int):Ho (nv a b c d e f g h) (fun _=>True):=by
 refine ao (P:=fun _=>True) (bG (fun i=>0≤i∧i≤4) (fun i=>(4 - i).toNat) ⟨by decide,by decide⟩ fun i ⟨h1,h2⟩=>?_) ?_
 ·refine aH (fun hl=>?_) fun _=>aq trivial
  rw[dec_lt]at hl;refine aV ⟨h1,hl⟩ (aV ⟨h1,hl⟩ (aH (fun _=>aq trivial) fun _=>?_));rw[bV h1 (by omega)];exact aq ⟨⟨by omega,by omega⟩,by omega⟩
 ·rintro(_ | r) _
  ·exact aq trivial
  ·exact aq trivial
theorem Ei(a b c d e f g h:Int)(m:Bool)(o1:QK){o2:Qj}(hl:o2.length≤200):Ho (ee a b c d e f g h m o1 o2) (fun r=>r.length=o2.length):=by
 refine ao (P:=fun r=>r.length=o2.length) (bG (fun(m,i)=>m.length=o2.length∧0≤i∧i≤(o2.length:Int)) (fun(_,i)=>(o2.length - i).toNat) ⟨rfl,by decide,by omega⟩ fun(m,i) ⟨h1,h2,u⟩=>?_) fun r q=>aq q
 refine aH (fun hl=>?_) fun _=>aq h1
 rw[dec_lt]at hl;refine ao (D5 h2 (by omega) _ _ _ _) fun x _=>ao (P:=fun p=>p.length=o2.length) ?_ fun p j=>?_
 ·refine aH (fun _=>aV (by omega) (aV (by omega) (ao (wJ _ _ _ _ _ _ _ _) fun r _=>aV (by omega) (aV (by omega) (aq ?_))))) fun _=>aq h1
  rw[List.length_set];exact h1
 ·rw[bV h2 (by omega)];exact aq ⟨⟨j,by omega,by omega⟩,by(try simp only);omega⟩
def Pl(o1:QK)(o2:Qj):Prop:=o2.length=o1.length∧o1.length≤200
theorem Ko:∀(n:Nat) (x:Tree),Dp n x→∀(C:Bool) {o1:QK} {o2:Qj},Pl o1 o2→Ho (dX n x.op x.set x.kids C o1 o2) (fun r=>Pl r.2.1 r.2.2.1)
 | 0,_,h,_,_,_,_=>h.elim
 | n+1,.node o s p,h,C,o1,o2,hp=>by
  obtain⟨hk,E⟩:=h;have j:=fun(i:Nat) (hi:i<p.length) (C:Bool) {o1:QK} {o2:Qj} (hp:Pl o1 o2)=>Ko n _ (Dp.getD E hi (Tree.node 0 0 [])) C hp
  simp only[dX,Tree.op,Tree.set,Tree.kids];unfold fM;refine aH (fun _=>aH (fun _=>aq hp) fun hl=>?_) fun _=>aH (fun _=>?_) fun _=>aH (fun _=>?_) fun _=>?_
  ·have I:(o1.length:Int)<200:=by simpa using hl
   have h1:=hp.1;refine ao (I1 (by omega) (by omega) _ _ _ _ _ _ _ _ _) fun r _=>aV (by simp only[List.length_singleton];omega) (aV (by simp only[List.length_singleton];omega) (aq ⟨?_,?_⟩))
   ·simp only[List.length_append,List.length_singleton];omega
   ·simp only[List.length_append,List.length_singleton];omega
  ·refine ao (P:=fun r=>Pl r.2.2.2.2.2.2.2.2.2.1 r.2.2.2.2.2.2.2.2.2.2.1) (bG (fun(u,v,_,_,_,_,_,_,_,_,_,_,i)=>Pl u v∧0≤i∧i≤(p.length:Int)) (fun(_,_,_,_,_,_,_,_,_,_,_,_,i)=>((p.length:Int) - i).toNat) ⟨hp,Int.le_refl _,by simp⟩ fun(u,v,s3,s4,s5,s6,s7,s8,s9,J,L,M,i) ⟨h1,h2,h3⟩=>?_) fun r j=>aq j
   refine aH (fun hl=>?_) fun _=>aq h1
   rw[dec_lt]at hl;refine aV ⟨h2,hl⟩ (ao (j i.toNat (by omega) _ h1) fun(O,D,N,V) j=>ao (Ei _ _ _ _ _ _ _ _ _ _ (by have h1:N.length=D.length:=j.1;have h2:D.length≤200:=j.2;omega)) fun q z=>ao (P:=fun _=>True) ?_ fun _ _=>ao (P:=fun _=>True) ?_ fun _ _=>ao (P:=fun _=>True) ?_ fun _ _=>?_)
   ·exact aH (fun _=>ao (wJ _ _ _ _ _ _ _ _) fun _ _=>aq trivial) fun _=>aq trivial
   ·exact aH (fun _=>ao (wJ _ _ _ _ _ _ _ _) fun _ _=>aq trivial) fun _=>aq trivial
   ·exact aH (fun _=>aq trivial) fun _=>aq trivial
   ·rw[bV h2 (by omega)];exact aq ⟨⟨⟨z.trans j.1,j.2⟩,by(try simp only);omega,by(try simp only);omega⟩,by(try simp only);omega⟩
  ·refine ao (P:=fun r=>Pl r.2.2.2.2.2.2.2.2.2.1 r.2.2.2.2.2.2.2.2.2.2.1) (bG (fun(u,v,_,_,_,_,_,_,_,_,_,_,i)=>Pl u v∧0≤i∧i≤(p.length:Int)) (fun(_,_,_,_,_,_,_,_,_,_,_,_,i)=>((p.length:Int) - i).toNat) ⟨hp,Int.le_refl _,by simp⟩ fun(u,v,s3,s4,s5,s6,s7,s8,s9,J,L,M,i) ⟨h1,h2,h3⟩=>?_) fun r j=>aq j
   refine aH (fun hl=>?_) fun _=>aq h1
   rw[dec_lt]at hl;refine aV ⟨h2,hl⟩ (ao (j i.toNat (by omega) _ h1) fun(O,D,N,V) j=>ao (P:=fun _=>True) ?_ fun _ _=>?_)
   ·refine aH (fun _=>?_) fun _=>?_
    all_goals exact ao (wJ _ _ _ _ _ _ _ _) fun _ _=>ao (wJ _ _ _ _ _ _ _ _) fun _ _=>aq trivial
   ·rw[bV h2 (by omega)];exact aq ⟨⟨j,by(try simp only);omega,by(try simp only);omega⟩,by(try simp only);omega⟩
  ·refine ao (P:=fun _=>True) ?_ fun b _=>aH (fun _=>?_) fun _=>aq hp
   ·repeat' split
    all_goals exact aq trivial
   ·refine ao (P:=fun r=>Pl r.1 r.2.1) ?_ fun(A,B,a7,X,Y,Z,a1,a2,a3,a4,a5,a6) j=>ao (P:=fun r=>r.length=B.length) ?_ fun q z=>ao (P:=fun _=>True) ?_ fun _ _=>aq ⟨z.trans j.1,j.2⟩
    ·refine aH (fun hl=>?_) fun _=>aq hp
     have I:0<(p.length:Int):=by simpa using hl
     exact aV (by omega) (ao (j (0:Int).toNat (by simp only[Int.toNat_zero];omega) _ hp) fun(O,D,N,V) j=>aq j)
    ·refine aH (fun _=>ao (Ei _ _ _ _ _ _ _ _ _ _ ?_) fun q z=>aq z) fun _=>aq rfl
     have h1:B.length=A.length:=j.1;have h2:A.length≤200:=j.2;omega
    ·exact aH (fun _=>aq trivial) fun _=>aq trivial
structure WB(nx:QZ)(ou:QK)(k m:Nat):Prop where
 len:∀r∈nx,r.length=k
 val:∀r∈nx,∀x∈r,0≤x∧x<(nx.length:Int)
 ol:ou.length=nx.length
 ob:∀x∈ou,0≤x∧x<((2 ^ m:Nat):Int)
theorem L0{x y:Int}{m:Nat}(hm:m≤24)(j:0≤x∧x<((2 ^ m:Nat):Int))(p:0≤y∧y<((2 ^ m:Nat):Int)):0≤bitsOf .or .u32 x y∧bitsOf .or .u32 x y<((2 ^ m:Nat):Int):=by
 have q:2 ^ m≤2 ^ 24:=Nat.pow_le_pow_right (by decide) hm;have h1:Gp x:=⟨j.1,by have:=j.2;omega⟩;have h2:Gp y:=⟨p.1,by have:=p.2;omega⟩;rw[H0 h1 h2];have:=Nat.or_lt_two_pow (n:=m) (x:=x.toNat) (y:=y.toNat) (by have:=j.1;have:=j.2;omega) (by have:=p.1;have:=p.2;omega);omega
theorem K8{k m:Nat}(hm:m≤24)(hk:k<m):0≤u32.wrap (1*2 ^ (min k u32.bits))∧u32.wrap (1*2 ^ (min k u32.bits))<((2 ^ m:Nat):Int):=by
 rw[JP (by omega)];exact⟨Int.natCast_nonneg _,Int.ofNat_lt.2 (Nat.pow_lt_pow_right (by decide) hk)⟩
theorem Eo{α:Type}{P:α→Prop}{l:List α}{i:Nat}{x:α}(h:∀y∈l,P y)(j:P x):∀y∈l.set i x,P y:=fun y p=>by
 rcases List.mem_or_eq_of_mem_set p with q | q
 ·exact h y q
 ·rw[q];exact j
theorem tT{l:XX}(hl:∀x∈l,Dp 100 x)(n:Nat):Ho (mV l (n:Int)) (fun r=>r.2=0→(0<r.1.1.length∧r.1.1.length≤300)∧WB r.1.1 r.1.2 n l.length):=by
 refine ao (P:=fun b=>b=true∨(n≤24∧l.length≤24)) ?_ fun b hb=>aH (fun _=>aq fun h=>by cases h) fun X=>?_
 ·refine aH (fun _=>aq (.inl rfl)) fun _=>aH (fun _=>aq (.inl rfl)) fun h1=>aq ?_
  by_cases h2:(l.length:Int) > 24
  ·exact .inl (by simpa using h2)
  ·exact .inr ⟨by simp only[decide_eq_true_eq]at h1;omega,by omega⟩
 obtain⟨hn,hm⟩:=hb.resolve_left X;refine ao (P:=fun(s,f,full,A)=>Pl s f∧A.length=l.length) (bG (fun(s,f,_,A,i)=>Pl s f∧0≤i∧i≤(l.length:Int)∧(A.length:Int)=i) (fun(_,_,_,_,i)=>((l.length:Int) - i).toNat) ⟨⟨rfl,by decide⟩,Int.le_refl _,by omega,rfl⟩ fun(s,f,b,A,i) ⟨h1,h2,Y,h4⟩=>?_) ?_
 ·refine aH (fun hi=>?_) fun hi=>aq ⟨h1,by rw[dec_lt]at hi;omega⟩
  rw[dec_lt]at hi;refine aV ⟨h2,hi⟩ (ao (Ko 1000 _ ((Dp.getD hl (by omega) (Tree.node 0 0 [])).mono (by omega)) b h1) fun(r,s',f',b') B=>aV (by simp only[List.length_singleton];omega) ?_);rw[bV h2 (by omega)];exact aq ⟨⟨B,by omega,by omega,by simp only[List.length_append,List.length_singleton];omega⟩,by(try simp only);omega⟩
 rintro⟨s,f,full,A⟩ ⟨hp,a6⟩;refine aH (fun _=>aq fun h=>by cases h) fun _=>?_
 refine ao (P:=fun _=>True) (bG (fun(_,_,_,_,i)=>0≤i∧i≤(A.length:Int)) (fun(_,_,_,_,i)=>((A.length:Int) - i).toNat) ⟨Int.le_refl _,by omega⟩ fun(a,b,c,d,i) ⟨h1,h2⟩=>?_) ?_
 ·refine aH (fun hi=>?_) fun _=>aq trivial
  rw[dec_lt]at hi;refine aV ⟨h1,hi⟩ (aV (by omega) (ao (wJ _ _ _ _ _ _ _ _) fun r _=>?_));rw[bV h1 (by omega)];exact aq ⟨⟨by omega,by omega⟩,by(try simp only);omega⟩
 rintro⟨m1,m2,m3,m4⟩ _;refine ao (P:=Lp (fun(nx,ou)=>(0<nx.length∧nx.length≤300)∧WB nx ou n l.length) fun e=>e.2≠0) ?_ ?_
 rotate_left
 ·rintro(⟨nx,ou⟩ | ⟨e,c⟩) h
  ·exact aq fun _=>h
  ·exact aq fun hc=>absurd hc h
 refine bG (fun(nx,ou,st,mp,i)=>0≤i∧i≤(st.length:Int)∧(0<st.length∧st.length≤300)∧(nx.length:Int)=i∧ou.length=nx.length∧(∀r∈nx,r.length=n∧∀x∈r,0≤x∧x<(st.length:Int))∧(∀x∈ou,0≤x∧x<((2 ^ l.length:Nat):Int))∧∀p∈mp,0≤p.2∧p.2<(st.length:Int))
  (fun(_,_,_,_,i)=>(300 - i).toNat) ⟨Int.le_refl _,by decide,⟨by decide,by decide⟩,rfl,rfl,fun _ h=>(by cases h),fun _ h=>(by cases h),fun p hp=>(by rcases mem_set hp with e | e;exact(by rw[e];exact⟨Int.le_refl _,(by decide:(0:Int)<1)⟩);cases e)⟩ fun(nx,ou,st,mp,i) ⟨h1,h2,Y,h4,h5,I,h7,h8⟩=>?_
 refine aH (fun hi=>?_) fun hi=>?_
 rotate_left
 ·rw[dec_lt]at hi;have e:nx.length=st.length:=by omega
  exact aq ⟨by rw[e];exact Y,fun r B=>(I r B).1,fun r B=>by rw[e];exact(I r B).2,h5,h7⟩
 rw[dec_lt]at hi;refine aV ⟨h1,hi⟩ (aV (by omega) (ao (P:=fun _=>True) (bG (fun(_,_,_,_,j)=>0≤j∧j≤(f.length:Int)) (fun(_,_,_,_,j)=>((f.length:Int) - j).toNat) ⟨Int.le_refl _,by omega⟩ fun(a,b,c,d,j) ⟨z,k2⟩=>?_) fun(a1,a2,a3,a4) _ =>
  ao (P:=fun x=>0≤x∧x<((2 ^ l.length:Nat):Int)) (bG (fun(x,j)=>0≤j∧j≤(A.length:Int)∧0≤x∧x<((2 ^ l.length:Nat):Int)) (fun(_,j)=>((A.length:Int) - j).toNat) ⟨Int.le_refl _,by omega,Int.le_refl _,by have:=Nat.two_pow_pos l.length;omega⟩ fun(x,j) ⟨z,k2,J⟩=>?_) fun x D=>aV ⟨by omega,Int.le_refl _,by omega,by omega⟩ ?_))
 ·have a7:f.length≤200:=by have:=hp.1;have:=hp.2;omega
  refine aH (fun C=>?_) fun _=>aq trivial
  rw[dec_lt]at C;refine ao (D5 z (by omega) _ _ _ _) fun b _=>ao (P:=fun _=>True) (aH (fun _=>aV ⟨z,C⟩ (aV (by omega) (ao (wJ _ _ _ _ _ _ _ _) fun r _=>aq trivial))) fun _=>aq trivial) fun(q1,q2,q3,q4) _=>?_
  rw[bV z (by omega)];exact aq ⟨⟨by omega,by omega⟩,by(try simp only);omega⟩
 ·refine aH (fun C=>?_) fun _=>aq J
  rw[dec_lt]at C;refine aV ⟨z,C⟩ (aV (by omega) (ao (P:=fun _=>True) (aH (fun _=>aq trivial) fun _=>ao (HO _ _ _ _ _ _ _ _) fun r _=>aq trivial) fun b _=>ao (P:=fun y=>0≤y∧y<((2 ^ l.length:Nat):Int)) (aH (fun _=>aV z (aq (L0 hm J (K8 hm (by omega))))) fun _=>aq J) fun y M=>?_));rw[bV z (by omega)];exact aq ⟨⟨by omega,by omega,M⟩,by(try simp only);omega⟩
 ·-- class by class
  refine ao (P:=Lp (fun(q,u,row)=>st.length≤q.length∧q.length≤300∧(row.length=n∧∀x∈row,0≤x∧x<(q.length:Int))∧∀p∈u,0≤p.2∧p.2<(q.length:Int)) fun e=>e.2≠0) ?_ ?_
  rotate_left
  ·rintro(⟨q,u,row⟩ | ⟨e,c⟩) h
   ·obtain⟨g1,g2,g3,g4⟩:=h;have Z:∀x:Int,x<(st.length:Int)→x<(q.length:Int):=fun x D=>by omega
    refine aV (by simp only[List.length_singleton];omega) (aV (by simp only[List.length_singleton];omega) ?_);rw[bV h1 (by omega)];exact aq ⟨⟨by omega,by omega,⟨by omega,g2⟩,by simp only[List.length_append,List.length_singleton];omega,by simp only[List.length_append,List.length_singleton];omega,dZ (fun r B=>⟨(I r B).1,fun x D=>⟨((I r B).2 x D).1,Z x ((I r B).2 x D).2⟩⟩) g3,dZ h7 D,g4⟩,by(try simp only);omega⟩
   ·exact aq h
  refine bG (fun(q,u,row,c)=>0≤c∧c≤(n:Int)∧st.length≤q.length∧q.length≤300∧(row.length=n∧∀x∈row,0≤x∧x<(q.length:Int))∧∀p∈u,0≤p.2∧p.2<(q.length:Int)) (fun(_,_,_,c)=>((n:Int) - c).toNat)
   ⟨Int.le_refl _,by omega,Nat.le_refl _,Y.2,⟨by simp,fun x D=>by rw[List.eq_of_mem_replicate D];omega⟩,h8⟩ fun(q,u,row,c) ⟨z,k2,J,k4,E,N⟩=>?_
  refine aH (fun hc=>?_) fun _=>aq ⟨J,k4,E,N⟩
  rw[dec_lt]at hc;refine ao (P:=fun _=>True) (bG (fun(_,_,_,_,j)=>0≤j∧j≤(s.length:Int)) (fun(_,_,_,_,j)=>((s.length:Int) - j).toNat) ⟨Int.le_refl _,by omega⟩ fun(b1,b2,b3,b4,j) ⟨O,f2⟩=>?_) fun(t1,t2,t3,t4) _=>?_
  ·have a8:=hp.2;refine aH (fun C=>?_) fun _=>aq trivial
   rw[dec_lt]at C;refine aV ⟨O,C⟩ (aV (by omega) (ao (P:=fun _=>True) (ao (D5 O (by omega) _ _ _ _) fun b _=>aH (fun _=>aV z (aq trivial)) fun _=>aq trivial) fun b _=>ao (P:=fun _=>True) (aH (fun _=>ao (J2 O (by omega) _ _ _ _) fun(q1,q2,q3,q4) _=>aq trivial) fun _=>aq trivial) fun(q1,q2,q3,q4) _=>?_));rw[bV O (by omega)];exact aq ⟨⟨by omega,by omega⟩,by(try simp only);omega⟩
  ·refine ao (P:=Lp (fun(v,L,x)=>q.length≤v.length∧v.length≤300∧(0≤x∧x<(v.length:Int))∧∀p∈L,0≤p.2∧p.2<(v.length:Int)) fun e=>e.2≠0) ?_ ?_
   ·refine aH (fun _=>aH (fun _=>aq (show(27:Int)≠0 by decide)) fun V=>aV (by simp only[List.length_singleton];omega) (aq ⟨by simp,?_,?_,fun p hp=>?_⟩)) fun V=>aq ⟨Nat.le_refl _,k4,?_,N⟩
    ·simp only[decide_eq_true_eq]at V;simp only[List.length_append,List.length_singleton];omega
    ·simp only[List.length_append,List.length_singleton];omega
    ·simp only[List.length_append,List.length_singleton];rcases mem_set hp with e | e
     ·rw[e];simp only;omega
     ·have:=N p e;omega
    ·cases hf:bh mv u (t1,t2,t3,t4)with
     | none=>rw[hf]at V;exact absurd rfl V
     | some x =>
      obtain⟨k',a5⟩:=sG hf;exact N _ a5
   ·rintro(⟨v,L,x⟩ | ⟨e,c⟩) h
    ·obtain⟨g1,g2,g3,g4⟩:=h;refine aV (by have:=E.1;omega) (aV (by have:=E.1;omega) ?_);rw[bV z (by omega)];exact aq ⟨⟨by omega,by omega,by omega,g2,⟨by rw[List.length_set];exact E.1,Eo (fun y M=>⟨(E.2 y M).1,by have:=(E.2 y M).2;omega⟩) g3⟩,g4⟩,by(try simp only);omega⟩
    ·exact aq h
end Go.Proofs.YtobbjfkfmdiklaaGreatDoor.T
