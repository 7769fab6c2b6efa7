import Derived.Test.YtmcemnfjddoejaaGreatDoorTvYm
import Derived.Test.YtmcemnfjddoejaaGreatDoorTv23gb
namespace Go.Tv
open Go
open Go.IntKind (i64 u32 u64)
def MA(x:Int):Prop:=0≤x∧x<18446744073709551616
def HC(x:Int):Prop:=0≤x∧x<4294967296
def bt(x:Int)(i:Nat):Bool:=x.toNat.testBit i
theorem Ma{x y:Int}(c:MA x)(f:MA y):bitsOf .or .u64 x y=((x.toNat ||| y.toNat:Nat):Int):=by
 have e:(2:Int) ^ 64=18446744073709551616:=by decide
 have q:(2:Nat) ^ 64=18446744073709551616:=by decide
 obtain⟨j,u⟩:=c;obtain⟨p,v⟩:=f;show u64.wrap ((BitVec.ofInt u64.bits x ||| BitVec.ofInt u64.bits y).toNat:Int)=_;rw[BitVec.toNat_or,eE j (by show x<(2:Int) ^ 64;omega),eE p (by show y<(2:Int) ^ 64;omega)];have:=Nat.or_lt_two_pow (x:=x.toNat) (y:=y.toNat) (n:=64) (by omega) (by omega);rw[wrap_u64 (by omega) (by omega)]
theorem HS{x y:Int}(c:HC x)(f:HC y):bitsOf .or .u32 x y=((x.toNat ||| y.toNat:Nat):Int):=by
 have e:(2:Int) ^ 32=4294967296:=by decide
 have q:(2:Nat) ^ 32=4294967296:=by decide
 obtain⟨j,u⟩:=c;obtain⟨p,v⟩:=f;show u32.wrap ((BitVec.ofInt u32.bits x ||| BitVec.ofInt u32.bits y).toNat:Int)=_;rw[BitVec.toNat_or,eE j (by show x<(2:Int) ^ 32;omega),eE p (by show y<(2:Int) ^ 32;omega)];have:=Nat.or_lt_two_pow (x:=x.toNat) (y:=y.toNat) (n:=32) (by omega) (by omega);rw[wrap_u32 (by omega) (by omega)]
theorem FX{x y:Int}(c:HC x)(f:HC y):bitsOf .and .u32 x y=((x.toNat &&& y.toNat:Nat):Int):=by
 have e:(2:Int) ^ 32=4294967296:=by decide
 have q:(2:Nat) ^ 32=4294967296:=by decide
 obtain⟨j,u⟩:=c;obtain⟨p,v⟩:=f;show u32.wrap ((BitVec.ofInt u32.bits x &&& BitVec.ofInt u32.bits y).toNat:Int)=_;rw[BitVec.toNat_and,eE j (by show x<(2:Int) ^ 32;omega),eE p (by show y<(2:Int) ^ 32;omega)];have:=Nat.and_lt_two_pow x.toNat (show y.toNat<2 ^ 32 by omega);rw[wrap_u32 (by omega) (by omega)]
theorem MA.or{x y:Int}(c:MA x)(e:MA y):MA (bitsOf .or .u64 x y):=by
 rw[Ma c e];have f:(2:Nat) ^ 64=18446744073709551616:=by decide
 obtain⟨j,p⟩:=c;obtain⟨q,u⟩:=e;have:=Nat.or_lt_two_pow (x:=x.toNat) (y:=y.toNat) (n:=64) (by omega) (by omega);exact⟨by omega,by omega⟩
theorem HC.or{x y:Int}(c:HC x)(e:HC y):HC (bitsOf .or .u32 x y):=by
 rw[HS c e];have f:(2:Nat) ^ 32=4294967296:=by decide
 obtain⟨j,p⟩:=c;obtain⟨q,u⟩:=e;have:=Nat.or_lt_two_pow (x:=x.toNat) (y:=y.toNat) (n:=32) (by omega) (by omega);exact⟨by omega,by omega⟩
theorem Kk{k:Nat}(hk:k<32):u32.wrap ((1:Int)*2 ^ (min k u32.bits))=((2 ^ k:Nat):Int):=by
 have hb:u32.bits=32:=rfl;have e:(2:Nat) ^ 32=4294967296:=by decide
 have:=Nat.pow_lt_pow_right (a:=2) (by decide) hk;rw[hb,Nat.min_eq_left (by omega),Int.one_mul];have c:(2:Int) ^ k=((2 ^ k:Nat):Int):=by push_cast;rfl
 rw[c];generalize 2 ^ k=m at this;rw[wrap_u32 (by omega) (by omega)]
end Go.Tv
namespace Go.Proofs.YtmcemnfjddoejaaGreatDoor.T
open Go Go.Tv Go.Proofs
open Go.IntKind (i64 u32 u64)
theorem bQ{i:Int}(c:0≤i)(h:i≤1000000000):i64.wrap (i+1)=i+1:=wrap_i64 (by omega) (by omega)
theorem mem_set{α:Type}{K:Ty}{k:K.den}{x:α}{p:K.den×α}:∀ {c:List (K.den×α)},p∈cj K c k x→p=(k,x)∨p∈c
 | [],h=> .inl (List.mem_singleton.1 h)
 | q::r,h=>by
  simp only[cj]at h;split at h
  ·rcases List.mem_cons.1 h with e | e
   ·exact .inl e
   ·exact .inr (.tail _ e)
  ·rcases List.mem_cons.1 h with e | e
   ·exact .inr (e ▸ .head _)
   ·rcases mem_set e with e | e
    ·exact .inl e
    ·exact .inr (.tail _ e)
theorem tX{α:Type}{K:Ty}{k:K.den}{x:α}:∀ {e:List (K.den×α)},aU K e k=some x→∃c,(c,x)∈e
 | [],h=>by cases h
 | q::r,h=>by
  simp only[aU]at h;split at h
  ·cases h;exact⟨q.1,.head _⟩
  ·obtain⟨c,h'⟩:=tX h;exact⟨c,.tail _ h'⟩
theorem xL(a b c d e f g h:Int):Ho (cY a b c d e f g h) (fun _=>True):=by
 refine aq (P:=fun _=>True) (bF (fun s=>0≤s.2.2.2.2∧s.2.2.2.2≤4) (fun s=>(4 - s.2.2.2.2).toNat) ⟨Int.le_refl _,(by decide:(0:Int)≤4)⟩ fun(a,b,c,d,i) ⟨j,p⟩=>?_) fun r _=>av trivial
 refine aK (fun hl=>?_) fun _=>av trivial
 rw[dec_lt]at hl;simp only at j p;refine aW ⟨j,hl⟩ (aW ⟨j,hl⟩ (aW ⟨j,hl⟩ ?_));rw[bQ j (by omega)];exact av ⟨⟨by(try simp only);omega,by(try simp only);omega⟩,by(try simp only);omega⟩
theorem IW{i:Int}(c:0≤i)(h:i<256):(0≤i64.wrap (Int.tdiv i 64)∧i64.wrap (Int.tdiv i 64)<((4:Nat):Int))∧0≤Int.tmod i 64:=by
 rw[Int.tdiv_eq_ediv_of_nonneg c,Int.tmod_eq_emod_of_nonneg c,wrap_i64 (by omega) (by omega)];omega
theorem JZ{i:Int}(e:0≤i)(h:i<256)(f:Bool)(j p q u v x z A:Int):Ho (ik i f j p q u v x z A) (fun _=>True):=by
 obtain⟨c,B⟩:=IW e h;exact aW (by decide) (aW c (aW (by decide) (aW B (aW c (av trivial)))))
theorem KD{i:Int}(e:0≤i)(h:i<256)(f j p q:Int):Ho (iu i f j p q) (fun _=>True):=by
 obtain⟨c,u⟩:=IW e h;exact aW (by decide) (aW c (aW (by decide) (aW u (aW c (av trivial)))))
theorem EY{i:Int}(c:0≤i)(h:i<256)(e f j p:Int):Ho (gR e f j p i) (fun _=>True):=by
 obtain⟨q,u⟩:=IW c h;exact aW (by decide) (aW q (aW (by decide) (aW u (av trivial))))
theorem Iv(a b c d e f g h:Int):Ho (oa a b c d e f g h) (fun _=>True):=by
 refine aq (P:=fun _=>True) (bF (fun i=>0≤i∧i≤4) (fun i=>(4 - i).toNat) ⟨by decide,by decide⟩ fun i ⟨j,p⟩=>?_) ?_
 ·refine aK (fun hl=>?_) fun _=>av trivial
  rw[dec_lt]at hl;refine aW ⟨j,hl⟩ (aW ⟨j,hl⟩ (aK (fun _=>av trivial) fun _=>?_));rw[bQ j (by omega)];exact av ⟨⟨by omega,by omega⟩,by omega⟩
 ·rintro(_ | r) _
  ·exact av trivial
  ·exact av trivial
theorem Gg(a b c d e f g h:Int)(m:Bool)(o1:QK){o2:Qj}(hl:o2.length≤200):Ho (ee a b c d e f g h m o1 o2) (fun r=>r.length=o2.length):=by
 refine aq (P:=fun r=>r.length=o2.length) (bF (fun(m,i)=>m.length=o2.length∧0≤i∧i≤(o2.length:Int)) (fun(_,i)=>(o2.length - i).toNat) ⟨rfl,by decide,by omega⟩ fun(m,i) ⟨j,q,z⟩=>?_) fun r v=>av v
 refine aK (fun hl=>?_) fun _=>av j
 rw[dec_lt]at hl;refine aq (EY q (by omega) _ _ _ _) fun x _=>aq (P:=fun u=>u.length=o2.length) ?_ fun u p=>?_
 ·refine aK (fun _=>aW (by omega) (aW (by omega) (aq (xL _ _ _ _ _ _ _ _) fun r _=>aW (by omega) (aW (by omega) (av ?_))))) fun _=>av j
  rw[List.length_set];exact j
 ·rw[bQ q (by omega)];exact av ⟨⟨p,by omega,by omega⟩,by(try simp only);omega⟩
def Pl(o1:QK)(o2:Qj):Prop:=o2.length=o1.length∧o1.length≤200
theorem KP:∀(n:Nat) (x:Tree),Dp n x→∀(C:Bool) {o1:QK} {o2:Qj},Pl o1 o2→Ho (dU n x.op x.set x.kids C o1 o2) (fun r=>Pl r.2.1 r.2.2.1)
 | 0,_,h,_,_,_,_=>h.elim
 | n+1,.node o s p,h,C,o1,o2,e=>by
  obtain⟨hk,E⟩:=h;have c:=fun(i:Nat) (hi:i<p.length) (C:Bool) {o1:QK} {o2:Qj} (e:Pl o1 o2)=>KP n _ (Dp.getD E hi (Tree.node 0 0 [])) C e
  simp only[dU,Tree.op,Tree.set,Tree.kids];unfold fI;refine aK (fun _=>aK (fun _=>av e) fun hl=>?_) fun _=>aK (fun _=>?_) fun _=>aK (fun _=>?_) fun _=>?_
  ·have I:(o1.length:Int)<200:=by simpa using hl
   have f:=e.1;refine aq (JZ (by omega) (by omega) _ _ _ _ _ _ _ _ _) fun r _=>aW (by simp <;> omega) (aW (by simp <;> omega) (av ⟨?_,?_⟩))
   ·simp only[List.length_append,List.length_singleton];omega
   ·simp only[List.length_append,List.length_singleton];omega
  ·refine aq (P:=fun r=>Pl r.2.2.2.2.2.2.2.2.2.1 r.2.2.2.2.2.2.2.2.2.2.1) (bF (fun(u,v,_,_,_,_,_,_,_,_,_,_,i)=>Pl u v∧0≤i∧i≤(p.length:Int)) (fun(_,_,_,_,_,_,_,_,_,_,_,_,i)=>((p.length:Int) - i).toNat) ⟨e,Int.le_refl _,by simp⟩ fun(u,v,s3,s4,s5,s6,s7,s8,s9,J,L,M,i) ⟨f,j,h3⟩=>?_) fun r c=>av c
   refine aK (fun hl=>?_) fun _=>av f
   rw[dec_lt]at hl;refine aW ⟨j,hl⟩ (aq (c i.toNat (by omega) _ f) fun(O,D,N,V) c=>aq (Gg _ _ _ _ _ _ _ _ _ _ (by have f:N.length=D.length:=c.1;have j:D.length≤200:=c.2;omega)) fun q z=>aq (P:=fun _=>True) ?_ fun _ _=>aq (P:=fun _=>True) ?_ fun _ _=>aq (P:=fun _=>True) ?_ fun _ _=>?_)
   ·exact aK (fun _=>aq (xL _ _ _ _ _ _ _ _) fun _ _=>av trivial) fun _=>av trivial
   ·exact aK (fun _=>aq (xL _ _ _ _ _ _ _ _) fun _ _=>av trivial) fun _=>av trivial
   ·exact aK (fun _=>av trivial) fun _=>av trivial
   ·rw[bQ j (by omega)];exact av ⟨⟨⟨z.trans c.1,c.2⟩,by(try simp only);omega,by(try simp only);omega⟩,by(try simp only);omega⟩
  ·refine aq (P:=fun r=>Pl r.2.2.2.2.2.2.2.2.2.1 r.2.2.2.2.2.2.2.2.2.2.1) (bF (fun(u,v,_,_,_,_,_,_,_,_,_,_,i)=>Pl u v∧0≤i∧i≤(p.length:Int)) (fun(_,_,_,_,_,_,_,_,_,_,_,_,i)=>((p.length:Int) - i).toNat) ⟨e,Int.le_refl _,by simp⟩ fun(u,v,s3,s4,s5,s6,s7,s8,s9,J,L,M,i) ⟨f,j,h3⟩=>?_) fun r c=>av c
   refine aK (fun hl=>?_) fun _=>av f
   rw[dec_lt]at hl;refine aW ⟨j,hl⟩ (aq (c i.toNat (by omega) _ f) fun(O,D,N,V) c=>aq (P:=fun _=>True) ?_ fun _ _=>?_)
   ·refine aK (fun _=>?_) fun _=>?_
    all_goals exact aq (xL _ _ _ _ _ _ _ _) fun _ _=>aq (xL _ _ _ _ _ _ _ _) fun _ _=>av trivial
   ·rw[bQ j (by omega)];exact av ⟨⟨c,by(try simp only);omega,by(try simp only);omega⟩,by(try simp only);omega⟩
  ·refine aq (P:=fun _=>True) ?_ fun b _=>aK (fun _=>?_) fun _=>av e
   ·repeat' split
    all_goals exact av trivial
   ·refine aq (P:=fun r=>Pl r.1 r.2.1) ?_ fun(A,B,a7,X,Y,Z,a1,a2,a3,a4,a5,a6) c=>aq (P:=fun r=>r.length=B.length) ?_ fun q z=>aq (P:=fun _=>True) ?_ fun _ _=>av ⟨z.trans c.1,c.2⟩
    ·refine aK (fun hl=>?_) fun _=>av e
     have I:0<(p.length:Int):=by simpa using hl
     exact aW (by omega) (aq (c (0:Int).toNat (by simp only[Int.toNat_zero];omega) _ e) fun(O,D,N,V) c=>av c)
    ·refine aK (fun _=>aq (Gg _ _ _ _ _ _ _ _ _ _ ?_) fun q z=>av z) fun _=>av rfl
     have f:B.length=A.length:=c.1;have j:A.length≤200:=c.2;omega
    ·exact aK (fun _=>av trivial) fun _=>av trivial
structure WB(nx:QZ)(ou:QK)(k m:Nat):Prop where
 len:∀r∈nx,r.length=k
 val:∀r∈nx,∀x∈r,0≤x∧x<(nx.length:Int)
 ol:ou.length=nx.length
 ob:∀x∈ou,0≤x∧x<((2 ^ m:Nat):Int)
theorem MB{x y:Int}{m:Nat}(f:m≤24)(c:0≤x∧x<((2 ^ m:Nat):Int))(e:0≤y∧y<((2 ^ m:Nat):Int)):0≤bitsOf .or .u32 x y∧bitsOf .or .u32 x y<((2 ^ m:Nat):Int):=by
 have j:2 ^ m≤2 ^ 24:=Nat.pow_le_pow_right (by decide) f;have p:HC x:=⟨c.1,by have:=c.2;omega⟩;have q:HC y:=⟨e.1,by have:=e.2;omega⟩;rw[HS p q];have:=Nat.or_lt_two_pow (n:=m) (x:=x.toNat) (y:=y.toNat) (by have:=c.1;have:=c.2;omega) (by have:=e.1;have:=e.2;omega);omega
theorem LY{k m:Nat}(c:m≤24)(hk:k<m):0≤u32.wrap (1*2 ^ (min k u32.bits))∧u32.wrap (1*2 ^ (min k u32.bits))<((2 ^ m:Nat):Int):=by
 rw[Kk (by omega)];exact⟨Int.natCast_nonneg _,Int.ofNat_lt.2 (Nat.pow_lt_pow_right (by decide) hk)⟩
theorem FO{α:Type}{P:α→Prop}{l:List α}{i:Nat}{x:α}(h:∀y∈l,P y)(c:P x):∀y∈l.set i x,P y:=fun y e=>by
 rcases List.mem_or_eq_of_mem_set e with q | q
 ·exact h y q
 ·rw[q];exact c
theorem vl{l:XX}(hl:∀x∈l,Dp 100 x)(n:Nat):Ho (nr l (n:Int)) (fun r=>r.2=0→(0<r.1.1.length∧r.1.1.length≤300)∧WB r.1.1 r.1.2 n l.length):=by
 refine aq (P:=fun b=>b=true∨(n≤24∧l.length≤24)) ?_ fun b hb=>aK (fun _=>av fun h=>by cases h) fun a5=>?_
 ·refine aK (fun _=>av (.inl rfl)) fun _=>aK (fun _=>av (.inl rfl)) fun z=>av ?_
  by_cases J:(l.length:Int) > 24
  ·exact .inl (by simpa using J)
  ·exact .inr ⟨by simp only[decide_eq_true_eq]at z;omega,by omega⟩
 obtain⟨hn,hm⟩:=hb.resolve_left a5;refine aq (P:=fun(s,f,full,B)=>Pl s f∧B.length=l.length) (bF (fun(s,f,_,B,i)=>Pl s f∧0≤i∧i≤(l.length:Int)∧(B.length:Int)=i) (fun(_,_,_,_,i)=>((l.length:Int) - i).toNat) ⟨⟨rfl,by decide⟩,Int.le_refl _,by omega,rfl⟩ fun(s,f,b,B,i) ⟨z,J,h3,h4⟩=>?_) ?_
 ·refine aK (fun hi=>?_) fun hi=>av ⟨z,by rw[dec_lt]at hi;omega⟩
  rw[dec_lt]at hi;refine aW ⟨J,hi⟩ (aq (KP 1000 _ ((Dp.getD hl (by omega) (Tree.node 0 0 [])).mono (by omega)) b z) fun(r,s',f',b') C=>aW (by simp <;> omega) ?_);rw[bQ J (by omega)];exact av ⟨⟨C,by omega,by omega,by simp <;> omega⟩,by(try simp only);omega⟩
 rintro⟨s,f,full,B⟩ ⟨E,a8⟩;refine aK (fun _=>av fun h=>by cases h) fun _=>?_
 refine aq (P:=fun _=>True) (bF (fun(_,_,_,_,i)=>0≤i∧i≤(B.length:Int)) (fun(_,_,_,_,i)=>((B.length:Int) - i).toNat) ⟨Int.le_refl _,by omega⟩ fun(a,b,c,d,i) ⟨z,J⟩=>?_) ?_
 ·refine aK (fun hi=>?_) fun _=>av trivial
  rw[dec_lt]at hi;refine aW ⟨z,hi⟩ (aW (by omega) (aq (xL _ _ _ _ _ _ _ _) fun r _=>?_));rw[bQ z (by omega)];exact av ⟨⟨by omega,by omega⟩,by(try simp only);omega⟩
 rintro⟨m1,m2,m3,m4⟩ _;refine aq (P:=Lp (fun(nx,ou)=>(0<nx.length∧nx.length≤300)∧WB nx ou n l.length) fun e=>e.2≠0) ?_ ?_
 rotate_left
 ·rintro(⟨nx,ou⟩ | ⟨e,c⟩) h
  ·exact av fun _=>h
  ·exact av fun hc=>absurd hc h
 refine bF (fun(nx,ou,st,mp,i)=>0≤i∧i≤(st.length:Int)∧(0<st.length∧st.length≤300)∧(nx.length:Int)=i∧ou.length=nx.length∧(∀r∈nx,r.length=n∧∀x∈r,0≤x∧x<(st.length:Int))∧(∀x∈ou,0≤x∧x<((2 ^ l.length:Nat):Int))∧∀p∈mp,0≤p.2∧p.2<(st.length:Int))
  (fun(_,_,_,_,i)=>(300 - i).toNat) ⟨Int.le_refl _,by decide,⟨by decide,by decide⟩,rfl,rfl,fun _ h=>(by cases h),fun _ h=>(by cases h),fun p E=>(by rcases mem_set E with e | e;exact(by rw[e];exact⟨Int.le_refl _,(by decide:(0:Int)<1)⟩);cases e)⟩ fun(nx,ou,st,mp,i) ⟨z,J,h3,h4,h5,M,h7,h8⟩=>?_
 refine aK (fun hi=>?_) fun hi=>?_
 rotate_left
 ·rw[dec_lt]at hi;have e:nx.length=st.length:=by omega
  exact av ⟨by rw[e];exact h3,fun r C=>(M r C).1,fun r C=>by rw[e];exact(M r C).2,h5,h7⟩
 rw[dec_lt]at hi;refine aW ⟨z,hi⟩ (aW (by omega) (aq (P:=fun _=>True) (bF (fun(_,_,_,_,j)=>0≤j∧j≤(f.length:Int)) (fun(_,_,_,_,j)=>((f.length:Int) - j).toNat) ⟨Int.le_refl _,by omega⟩ fun(a,b,c,d,j) ⟨A,k2⟩=>?_) fun(a1,a2,a3,a4) _ =>
  aq (P:=fun x=>0≤x∧x<((2 ^ l.length:Nat):Int)) (bF (fun(x,j)=>0≤j∧j≤(B.length:Int)∧0≤x∧x<((2 ^ l.length:Nat):Int)) (fun(_,j)=>((B.length:Int) - j).toNat) ⟨Int.le_refl _,by omega,Int.le_refl _,by have:=Nat.two_pow_pos l.length;omega⟩ fun(x,j) ⟨A,k2,N⟩=>?_) fun x I=>aW ⟨by omega,Int.le_refl _,by omega,by omega⟩ ?_))
 ·have a9:f.length≤200:=by have:=E.1;have:=E.2;omega
  refine aK (fun D=>?_) fun _=>av trivial
  rw[dec_lt]at D;refine aq (EY A (by omega) _ _ _ _) fun b _=>aq (P:=fun _=>True) (aK (fun _=>aW ⟨A,D⟩ (aW (by omega) (aq (xL _ _ _ _ _ _ _ _) fun r _=>av trivial))) fun _=>av trivial) fun(q1,q2,q3,q4) _=>?_
  rw[bQ A (by omega)];exact av ⟨⟨by omega,by omega⟩,by(try simp only);omega⟩
 ·refine aK (fun D=>?_) fun _=>av N
  rw[dec_lt]at D;refine aW ⟨A,D⟩ (aW (by omega) (aq (P:=fun _=>True) (aK (fun _=>av trivial) fun _=>aq (Iv _ _ _ _ _ _ _ _) fun r _=>av trivial) fun b _=>aq (P:=fun y=>0≤y∧y<((2 ^ l.length:Nat):Int)) (aK (fun _=>aW A (av (MB hm N (LY hm (by omega))))) fun _=>av N) fun y V=>?_));rw[bQ A (by omega)];exact av ⟨⟨by omega,by omega,V⟩,by(try simp only);omega⟩
 ·-- class by class
  refine aq (P:=Lp (fun(q,u,row)=>st.length≤q.length∧q.length≤300∧(row.length=n∧∀x∈row,0≤x∧x<(q.length:Int))∧∀p∈u,0≤p.2∧p.2<(q.length:Int)) fun e=>e.2≠0) ?_ ?_
  rotate_left
  ·rintro(⟨q,u,row⟩ | ⟨e,c⟩) h
   ·obtain⟨g1,g2,g3,g4⟩:=h;have a6:∀x:Int,x<(st.length:Int)→x<(q.length:Int):=fun x I=>by omega
    refine aW (by simp <;> omega) (aW (by simp <;> omega) ?_);rw[bQ z (by omega)];exact av ⟨⟨by omega,by omega,⟨by omega,g2⟩,by simp <;> omega,by simp <;> omega,dZ (fun r C=>⟨(M r C).1,fun x I=>⟨((M r C).2 x I).1,a6 x ((M r C).2 x I).2⟩⟩) g3,dZ h7 I,g4⟩,by(try simp only);omega⟩
   ·exact av h
  refine bF (fun(q,u,row,c)=>0≤c∧c≤(n:Int)∧st.length≤q.length∧q.length≤300∧(row.length=n∧∀x∈row,0≤x∧x<(q.length:Int))∧∀p∈u,0≤p.2∧p.2<(q.length:Int)) (fun(_,_,_,c)=>((n:Int) - c).toNat)
   ⟨Int.le_refl _,by omega,Nat.le_refl _,h3.2,⟨by simp,fun x I=>by rw[List.eq_of_mem_replicate I];omega⟩,h8⟩ fun(q,u,row,c) ⟨A,k2,N,k4,L,X⟩=>?_
  refine aK (fun hc=>?_) fun _=>av ⟨N,k4,L,X⟩
  rw[dec_lt]at hc;refine aq (P:=fun _=>True) (bF (fun(_,_,_,_,j)=>0≤j∧j≤(s.length:Int)) (fun(_,_,_,_,j)=>((s.length:Int) - j).toNat) ⟨Int.le_refl _,by omega⟩ fun(b1,b2,b3,b4,j) ⟨Y,f2⟩=>?_) fun(t1,t2,t3,t4) _=>?_
  ·have aa:=E.2;refine aK (fun D=>?_) fun _=>av trivial
   rw[dec_lt]at D;refine aW ⟨Y,D⟩ (aW (by omega) (aq (P:=fun _=>True) (aq (EY Y (by omega) _ _ _ _) fun b _=>aK (fun _=>aW A (av trivial)) fun _=>av trivial) fun b _=>aq (P:=fun _=>True) (aK (fun _=>aq (KD Y (by omega) _ _ _ _) fun(q1,q2,q3,q4) _=>av trivial) fun _=>av trivial) fun(q1,q2,q3,q4) _=>?_));rw[bQ Y (by omega)];exact av ⟨⟨by omega,by omega⟩,by(try simp only);omega⟩
  ·refine aq (P:=Lp (fun(v,O,x)=>q.length≤v.length∧v.length≤300∧(0≤x∧x<(v.length:Int))∧∀p∈O,0≤p.2∧p.2<(v.length:Int)) fun e=>e.2≠0) ?_ ?_
   ·refine aK (fun _=>aK (fun _=>av (show(27:Int)≠0 by decide)) fun Z=>aW (by simp <;> omega) (av ⟨by simp,?_,?_,fun p E=>?_⟩)) fun Z=>av ⟨Nat.le_refl _,k4,?_,X⟩
    ·simp only[decide_eq_true_eq]at Z;simp only[List.length_append,List.length_singleton];omega
    ·simp only[List.length_append,List.length_singleton];omega
    ·simp only[List.length_append,List.length_singleton];rcases mem_set E with e | e
     ·rw[e];simp only;omega
     ·have:=X p e;omega
    ·cases hf:aU mG u (t1,t2,t3,t4)with
     | none=>rw[hf]at Z;exact absurd rfl Z
     | some x =>
      obtain⟨k',a7⟩:=tX hf;exact X _ a7
   ·rintro(⟨v,O,x⟩ | ⟨e,c⟩) h
    ·obtain⟨g1,g2,g3,g4⟩:=h;refine aW (by have:=L.1;omega) (aW (by have:=L.1;omega) ?_);rw[bQ A (by omega)];exact av ⟨⟨by omega,by omega,by omega,g2,⟨by rw[List.length_set];exact L.1,FO (fun y V=>⟨(L.2 y V).1,by have:=(L.2 y V).2;omega⟩) g3⟩,g4⟩,by(try simp only);omega⟩
    ·exact av h
end Go.Proofs.YtmcemnfjddoejaaGreatDoor.T
