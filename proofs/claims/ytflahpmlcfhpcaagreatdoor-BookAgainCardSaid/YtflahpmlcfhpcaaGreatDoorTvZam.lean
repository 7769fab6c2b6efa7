import Derived.Test.YtflahpmlcfhpcaaGreatDoorTvYm
import Derived.Test.YtflahpmlcfhpcaaGreatDoorTv40gb
namespace Go.Tv
open Go
open Go.IntKind (i64 u32 u64)
def Ke(x:Int):Prop:=0≤x∧x<18446744073709551616
def Fb(x:Int):Prop:=0≤x∧x<4294967296
theorem J8{x y:Int}(f:Ke x)(j:Ke y):bitsOf .or .u64 x y=((x.toNat ||| y.toNat:Nat):Int):=by
 have e:(2:Int) ^ 64=18446744073709551616:=by decide
 have u:(2:Nat) ^ 64=18446744073709551616:=by decide
 obtain⟨p,v⟩:=f;obtain⟨q,z⟩:=j;show u64.wrap ((BitVec.ofInt u64.bits x ||| BitVec.ofInt u64.bits y).toNat:Int)=_;rw[BitVec.toNat_or,eK p (by show x<(2:Int) ^ 64;omega),eK q (by show y<(2:Int) ^ 64;omega)];have:=Nat.or_lt_two_pow (x:=x.toNat) (y:=y.toNat) (n:=64) (by omega) (by omega);rw[wrap_u64 (by omega) (by omega)]
theorem Fq{x y:Int}(f:Fb x)(j:Fb y):bitsOf .or .u32 x y=((x.toNat ||| y.toNat:Nat):Int):=by
 have e:(2:Int) ^ 32=4294967296:=by decide
 have u:(2:Nat) ^ 32=4294967296:=by decide
 obtain⟨p,v⟩:=f;obtain⟨q,z⟩:=j;show u32.wrap ((BitVec.ofInt u32.bits x ||| BitVec.ofInt u32.bits y).toNat:Int)=_;rw[BitVec.toNat_or,eK p (by show x<(2:Int) ^ 32;omega),eK q (by show y<(2:Int) ^ 32;omega)];have:=Nat.or_lt_two_pow (x:=x.toNat) (y:=y.toNat) (n:=32) (by omega) (by omega);rw[wrap_u32 (by omega) (by omega)]
theorem DV{x y:Int}(f:Fb x)(j:Fb y):bitsOf .and .u32 x y=((x.toNat &&& y.toNat:Nat):Int):=by
 have e:(2:Int) ^ 32=4294967296:=by decide
 have u:(2:Nat) ^ 32=4294967296:=by decide
 obtain⟨p,v⟩:=f;obtain⟨q,z⟩:=j;show u32.wrap ((BitVec.ofInt u32.bits x &&& BitVec.ofInt u32.bits y).toNat:Int)=_;rw[BitVec.toNat_and,eK p (by show x<(2:Int) ^ 32;omega),eK q (by show y<(2:Int) ^ 32;omega)];have:=Nat.and_lt_two_pow x.toNat (show y.toNat<2 ^ 32 by omega);rw[wrap_u32 (by omega) (by omega)]
theorem Ke.or{x y:Int}(e:Ke x)(f:Ke y):Ke (bitsOf .or .u64 x y):=by
 rw[J8 e f];have j:(2:Nat) ^ 64=18446744073709551616:=by decide
 obtain⟨p,q⟩:=e;obtain⟨u,v⟩:=f;have:=Nat.or_lt_two_pow (x:=x.toNat) (y:=y.toNat) (n:=64) (by omega) (by omega);exact⟨by omega,by omega⟩
theorem Fb.or{x y:Int}(e:Fb x)(f:Fb y):Fb (bitsOf .or .u32 x y):=by
 rw[Fq e f];have j:(2:Nat) ^ 32=4294967296:=by decide
 obtain⟨p,q⟩:=e;obtain⟨u,v⟩:=f;have:=Nat.or_lt_two_pow (x:=x.toNat) (y:=y.toNat) (n:=32) (by omega) (by omega);exact⟨by omega,by omega⟩
theorem Ia{k:Nat}(hk:k<32):u32.wrap ((1:Int)*2 ^ (min k u32.bits))=((2 ^ k:Nat):Int):=by
 have hb:u32.bits=32:=rfl;have f:(2:Nat) ^ 32=4294967296:=by decide
 have:=Nat.pow_lt_pow_right (a:=2) (by decide) hk;rw[hb,Nat.min_eq_left (by omega),Int.one_mul];have e:(2:Int) ^ k=((2 ^ k:Nat):Int):=by push_cast;rfl
 rw[e];generalize 2 ^ k=m at this;rw[wrap_u32 (by omega) (by omega)]
end Go.Tv
namespace Go.Proofs.YtflahpmlcfhpcaaGreatDoor.T
open Go Go.Tv Go.Proofs
open Go.IntKind (i64 u32 u64)
theorem bW{i:Int}(e:0≤i)(h:i≤1000000000):i64.wrap (i+1)=i+1:=wrap_i64 (by omega) (by omega)
theorem mem_set{α:Type}{K:Ty}{k:K.den}{x:α}{p:K.den×α}:∀ {f:List (K.den×α)},p∈cO K f k x→p=(k,x)∨p∈f
 | [],h=> .inl (List.mem_singleton.1 h)
 | q::r,h=>by
  simp only[cO]at h;split at h
  ·rcases List.mem_cons.1 h with e | e
   ·exact .inl e
   ·exact .inr (.tail _ e)
  ·rcases List.mem_cons.1 h with e | e
   ·exact .inr (e ▸ .head _)
   ·rcases mem_set e with e | e
    ·exact .inl e
    ·exact .inr (.tail _ e)
theorem qC{α:Type}{K:Ty}{k:K.den}{x:α}:∀ {f:List (K.den×α)},bg K f k=some x→∃e,(e,x)∈f
 | [],h=>by cases h
 | q::r,h=>by
  simp only[bg]at h;split at h
  ·cases h;exact⟨q.1,.head _⟩
  ·obtain⟨e,h'⟩:=qC h;exact⟨e,.tail _ h'⟩
theorem u6(a b c d e f g h:Int):Ho (cZ a b c d e f g h) (fun _=>True):=by
 refine ao (P:=fun _=>True) (bI (fun s=>0≤s.2.2.2.2∧s.2.2.2.2≤4) (fun s=>(4 - s.2.2.2.2).toNat) ⟨Int.le_refl _,(by decide:(0:Int)≤4)⟩ fun(a,b,c,d,i) ⟨j,p⟩=>?_) fun r _=>aq trivial
 refine aH (fun hl=>?_) fun _=>aq trivial
 rw[dec_lt]at hl;simp only at j p;refine aU ⟨j,hl⟩ (aU ⟨j,hl⟩ (aU ⟨j,hl⟩ ?_));rw[bW j (by omega)];exact aq ⟨⟨by(try simp only);omega,by(try simp only);omega⟩,by(try simp only);omega⟩
theorem Hl{i:Int}(e:0≤i)(h:i<256):(0≤i64.wrap (Int.tdiv i 64)∧i64.wrap (Int.tdiv i 64)<((4:Nat):Int))∧0≤Int.tmod i 64:=by
 rw[Int.tdiv_eq_ediv_of_nonneg e,Int.tmod_eq_emod_of_nonneg e,wrap_i64 (by omega) (by omega)];omega
theorem H4{i:Int}(f:0≤i)(h:i<256)(j:Bool)(p q u v x z A B:Int):Ho (ir i j p q u v x z A B) (fun _=>True):=by
 obtain⟨e,C⟩:=Hl f h;exact aU (by decide) (aU e (aU (by decide) (aU C (aU e (aq trivial)))))
theorem Ix{i:Int}(f:0≤i)(h:i<256)(j p q u:Int):Ho (im i j p q u) (fun _=>True):=by
 obtain⟨e,v⟩:=Hl f h;exact aU (by decide) (aU e (aU (by decide) (aU v (aU e (aq trivial)))))
theorem CR{i:Int}(e:0≤i)(h:i<256)(f j p q:Int):Ho (gP f j p q i) (fun _=>True):=by
 obtain⟨u,v⟩:=Hl e h;exact aU (by decide) (aU u (aU (by decide) (aU v (aq trivial))))
theorem GU(a b c d e f g h:Int):Ho (nc a b c d e f g h) (fun _=>True):=by
 refine ao (P:=fun _=>True) (bI (fun i=>0≤i∧i≤4) (fun i=>(4 - i).toNat) ⟨by decide,by decide⟩ fun i ⟨j,p⟩=>?_) ?_
 ·refine aH (fun hl=>?_) fun _=>aq trivial
  rw[dec_lt]at hl;refine aU ⟨j,hl⟩ (aU ⟨j,hl⟩ (aH (fun _=>aq trivial) fun _=>?_));rw[bW j (by omega)];exact aq ⟨⟨by omega,by omega⟩,by omega⟩
 ·rintro(_ | r) _
  ·exact aq trivial
  ·exact aq trivial
theorem Ds(a b c d e f g h:Int)(m:Bool)(o1:QK){o2:Qj}(hl:o2.length≤200):Ho (ee a b c d e f g h m o1 o2) (fun r=>r.length=o2.length):=by
 refine ao (P:=fun r=>r.length=o2.length) (bI (fun(m,i)=>m.length=o2.length∧0≤i∧i≤(o2.length:Int)) (fun(_,i)=>(o2.length - i).toNat) ⟨rfl,by decide,by omega⟩ fun(m,i) ⟨j,q,z⟩=>?_) fun r v=>aq v
 refine aH (fun hl=>?_) fun _=>aq j
 rw[dec_lt]at hl;refine ao (CR q (by omega) _ _ _ _) fun x _=>ao (P:=fun u=>u.length=o2.length) ?_ fun u p=>?_
 ·refine aH (fun _=>aU (by omega) (aU (by omega) (ao (u6 _ _ _ _ _ _ _ _) fun r _=>aU (by omega) (aU (by omega) (aq ?_))))) fun _=>aq j
  rw[List.length_set];exact j
 ·rw[bW q (by omega)];exact aq ⟨⟨p,by omega,by omega⟩,by(try simp only);omega⟩
def Pl(o1:QK)(o2:Qj):Prop:=o2.length=o1.length∧o1.length≤200
theorem IM:∀(n:Nat) (x:Tree),Dp n x→∀(D:Bool) {o1:QK} {o2:Qj},Pl o1 o2→Ho (dZ n x.op x.set x.kids D o1 o2) (fun r=>Pl r.2.1 r.2.2.1)
 | 0,_,h,_,_,_,_=>h.elim
 | n+1,.node o s u,h,D,o1,o2,f=>by
  obtain⟨hk,I⟩:=h;have e:=fun(i:Nat) (hi:i<u.length) (D:Bool) {o1:QK} {o2:Qj} (f:Pl o1 o2)=>IM n _ (Dp.getD I hi (Tree.node 0 0 [])) D f
  simp only[dZ,Tree.op,Tree.set,Tree.kids];unfold fE;refine aH (fun _=>aH (fun _=>aq f) fun hl=>?_) fun _=>aH (fun _=>?_) fun _=>aH (fun _=>?_) fun _=>?_
  ·have J:(o1.length:Int)<200:=by simpa using hl
   have j:=f.1;refine ao (H4 (by omega) (by omega) _ _ _ _ _ _ _ _ _) fun r _=>aU (by simp only[List.length_singleton];omega) (aU (by simp only[List.length_singleton];omega) (aq ⟨?_,?_⟩))
   ·simp only[List.length_append,List.length_singleton];omega
   ·simp only[List.length_append,List.length_singleton];omega
  ·refine ao (P:=fun r=>Pl r.2.2.2.2.2.2.2.2.2.1 r.2.2.2.2.2.2.2.2.2.2.1) (bI (fun(v,z,_,_,_,_,_,_,_,_,_,_,i)=>Pl v z∧0≤i∧i≤(u.length:Int)) (fun(_,_,_,_,_,_,_,_,_,_,_,_,i)=>((u.length:Int) - i).toNat) ⟨f,Int.le_refl _,by simp⟩ fun(v,z,s3,s4,s5,s6,s7,s8,s9,L,M,N,i) ⟨j,p,h3⟩=>?_) fun r e=>aq e
   refine aH (fun hl=>?_) fun _=>aq j
   rw[dec_lt]at hl;refine aU ⟨p,hl⟩ (ao (e i.toNat (by omega) _ j) fun(V,E,O,X) e=>ao (Ds _ _ _ _ _ _ _ _ _ _ (by have j:O.length=E.length:=e.1;have p:E.length≤200:=e.2;omega)) fun q A=>ao (P:=fun _=>True) ?_ fun _ _=>ao (P:=fun _=>True) ?_ fun _ _=>ao (P:=fun _=>True) ?_ fun _ _=>?_)
   ·exact aH (fun _=>ao (u6 _ _ _ _ _ _ _ _) fun _ _=>aq trivial) fun _=>aq trivial
   ·exact aH (fun _=>ao (u6 _ _ _ _ _ _ _ _) fun _ _=>aq trivial) fun _=>aq trivial
   ·exact aH (fun _=>aq trivial) fun _=>aq trivial
   ·rw[bW p (by omega)];exact aq ⟨⟨⟨A.trans e.1,e.2⟩,by(try simp only);omega,by(try simp only);omega⟩,by(try simp only);omega⟩
  ·refine ao (P:=fun r=>Pl r.2.2.2.2.2.2.2.2.2.1 r.2.2.2.2.2.2.2.2.2.2.1) (bI (fun(v,z,_,_,_,_,_,_,_,_,_,_,i)=>Pl v z∧0≤i∧i≤(u.length:Int)) (fun(_,_,_,_,_,_,_,_,_,_,_,_,i)=>((u.length:Int) - i).toNat) ⟨f,Int.le_refl _,by simp⟩ fun(v,z,s3,s4,s5,s6,s7,s8,s9,L,M,N,i) ⟨j,p,h3⟩=>?_) fun r e=>aq e
   refine aH (fun hl=>?_) fun _=>aq j
   rw[dec_lt]at hl;refine aU ⟨p,hl⟩ (ao (e i.toNat (by omega) _ j) fun(V,E,O,X) e=>ao (P:=fun _=>True) ?_ fun _ _=>?_)
   ·refine aH (fun _=>?_) fun _=>?_
    all_goals exact ao (u6 _ _ _ _ _ _ _ _) fun _ _=>ao (u6 _ _ _ _ _ _ _ _) fun _ _=>aq trivial
   ·rw[bW p (by omega)];exact aq ⟨⟨e,by(try simp only);omega,by(try simp only);omega⟩,by(try simp only);omega⟩
  ·refine ao (P:=fun _=>True) ?_ fun b _=>aH (fun _=>?_) fun _=>aq f
   ·repeat' split
    all_goals exact aq trivial
   ·refine ao (P:=fun r=>Pl r.1 r.2.1) ?_ fun(B,C,a8,Y,Z,a1,a2,a3,a4,a5,a6,a7) e=>ao (P:=fun r=>r.length=C.length) ?_ fun q A=>ao (P:=fun _=>True) ?_ fun _ _=>aq ⟨A.trans e.1,e.2⟩
    ·refine aH (fun hl=>?_) fun _=>aq f
     have J:0<(u.length:Int):=by simpa using hl
     exact aU (by omega) (ao (e (0:Int).toNat (by simp only[Int.toNat_zero];omega) _ f) fun(V,E,O,X) e=>aq e)
    ·refine aH (fun _=>ao (Ds _ _ _ _ _ _ _ _ _ _ ?_) fun q A=>aq A) fun _=>aq rfl
     have j:C.length=B.length:=e.1;have p:B.length≤200:=e.2;omega
    ·exact aH (fun _=>aq trivial) fun _=>aq trivial
structure WB(nx:QZ)(ou:QK)(k m:Nat):Prop where
 len:∀r∈nx,r.length=k
 val:∀r∈nx,∀x∈r,0≤x∧x<(nx.length:Int)
 ol:ou.length=nx.length
 ob:∀x∈ou,0≤x∧x<((2 ^ m:Nat):Int)
theorem KU{x y:Int}{m:Nat}(j:m≤24)(e:0≤x∧x<((2 ^ m:Nat):Int))(f:0≤y∧y<((2 ^ m:Nat):Int)):0≤bitsOf .or .u32 x y∧bitsOf .or .u32 x y<((2 ^ m:Nat):Int):=by
 have p:2 ^ m≤2 ^ 24:=Nat.pow_le_pow_right (by decide) j;have q:Fb x:=⟨e.1,by have:=e.2;omega⟩;have u:Fb y:=⟨f.1,by have:=f.2;omega⟩;rw[Fq q u];have:=Nat.or_lt_two_pow (n:=m) (x:=x.toNat) (y:=y.toNat) (by have:=e.1;have:=e.2;omega) (by have:=f.1;have:=f.2;omega);omega
theorem Jz{k m:Nat}(e:m≤24)(hk:k<m):0≤u32.wrap (1*2 ^ (min k u32.bits))∧u32.wrap (1*2 ^ (min k u32.bits))<((2 ^ m:Nat):Int):=by
 rw[Ia (by omega)];exact⟨Int.natCast_nonneg _,Int.ofNat_lt.2 (Nat.pow_lt_pow_right (by decide) hk)⟩
theorem Dx{α:Type}{P:α→Prop}{l:List α}{i:Nat}{x:α}(h:∀y∈l,P y)(e:P x):∀y∈l.set i x,P y:=fun y f=>by
 rcases List.mem_or_eq_of_mem_set f with q | q
 ·exact h y q
 ·rw[q];exact e
theorem tU{l:XX}(hl:∀x∈l,Dp 100 x)(n:Nat):Ho (mN l (n:Int)) (fun r=>r.2=0→(0<r.1.1.length∧r.1.1.length≤300)∧WB r.1.1 r.1.2 n l.length):=by
 refine ao (P:=fun b=>b=true∨(n≤24∧l.length≤24)) ?_ fun b hb=>aH (fun _=>aq fun h=>by cases h) fun a5=>?_
 ·refine aH (fun _=>aq (.inl rfl)) fun _=>aH (fun _=>aq (.inl rfl)) fun z=>aq ?_
  by_cases J:(l.length:Int) > 24
  ·exact .inl (by simpa using J)
  ·exact .inr ⟨by simp only[decide_eq_true_eq]at z;omega,by omega⟩
 obtain⟨hn,hm⟩:=hb.resolve_left a5;refine ao (P:=fun(s,f,full,B)=>Pl s f∧B.length=l.length) (bI (fun(s,f,_,B,i)=>Pl s f∧0≤i∧i≤(l.length:Int)∧(B.length:Int)=i) (fun(_,_,_,_,i)=>((l.length:Int) - i).toNat) ⟨⟨rfl,by decide⟩,Int.le_refl _,by omega,rfl⟩ fun(s,f,b,B,i) ⟨z,J,h3,h4⟩=>?_) ?_
 ·refine aH (fun hi=>?_) fun hi=>aq ⟨z,by rw[dec_lt]at hi;omega⟩
  rw[dec_lt]at hi;refine aU ⟨J,hi⟩ (ao (IM 1000 _ ((Dp.getD hl (by omega) (Tree.node 0 0 [])).mono (by omega)) b z) fun(r,s',f',b') C=>aU (by simp only[List.length_singleton];omega) ?_);rw[bW J (by omega)];exact aq ⟨⟨C,by omega,by omega,by simp only[List.length_append,List.length_singleton];omega⟩,by(try simp only);omega⟩
 rintro⟨s,f,full,B⟩ ⟨E,a8⟩;refine aH (fun _=>aq fun h=>by cases h) fun _=>?_
 refine ao (P:=fun _=>True) (bI (fun(_,_,_,_,i)=>0≤i∧i≤(B.length:Int)) (fun(_,_,_,_,i)=>((B.length:Int) - i).toNat) ⟨Int.le_refl _,by omega⟩ fun(a,b,c,d,i) ⟨z,J⟩=>?_) ?_
 ·refine aH (fun hi=>?_) fun _=>aq trivial
  rw[dec_lt]at hi;refine aU ⟨z,hi⟩ (aU (by omega) (ao (u6 _ _ _ _ _ _ _ _) fun r _=>?_));rw[bW z (by omega)];exact aq ⟨⟨by omega,by omega⟩,by(try simp only);omega⟩
 rintro⟨m1,m2,m3,m4⟩ _;refine ao (P:=Lp (fun(nx,ou)=>(0<nx.length∧nx.length≤300)∧WB nx ou n l.length) fun e=>e.2≠0) ?_ ?_
 rotate_left
 ·rintro(⟨nx,ou⟩ | ⟨e,c⟩) h
  ·exact aq fun _=>h
  ·exact aq fun hc=>absurd hc h
 refine bI (fun(nx,ou,st,mp,i)=>0≤i∧i≤(st.length:Int)∧(0<st.length∧st.length≤300)∧(nx.length:Int)=i∧ou.length=nx.length∧(∀r∈nx,r.length=n∧∀x∈r,0≤x∧x<(st.length:Int))∧(∀x∈ou,0≤x∧x<((2 ^ l.length:Nat):Int))∧∀p∈mp,0≤p.2∧p.2<(st.length:Int))
  (fun(_,_,_,_,i)=>(300 - i).toNat) ⟨Int.le_refl _,by decide,⟨by decide,by decide⟩,rfl,rfl,fun _ h=>(by cases h),fun _ h=>(by cases h),fun p E=>(by rcases mem_set E with e | e;exact(by rw[e];exact⟨Int.le_refl _,(by decide:(0:Int)<1)⟩);cases e)⟩ fun(nx,ou,st,mp,i) ⟨z,J,h3,h4,h5,M,h7,h8⟩=>?_
 refine aH (fun hi=>?_) fun hi=>?_
 rotate_left
 ·rw[dec_lt]at hi;have e:nx.length=st.length:=by omega
  exact aq ⟨by rw[e];exact h3,fun r C=>(M r C).1,fun r C=>by rw[e];exact(M r C).2,h5,h7⟩
 rw[dec_lt]at hi;refine aU ⟨z,hi⟩ (aU (by omega) (ao (P:=fun _=>True) (bI (fun(_,_,_,_,j)=>0≤j∧j≤(f.length:Int)) (fun(_,_,_,_,j)=>((f.length:Int) - j).toNat) ⟨Int.le_refl _,by omega⟩ fun(a,b,c,d,j) ⟨A,k2⟩=>?_) fun(a1,a2,a3,a4) _ =>
  ao (P:=fun x=>0≤x∧x<((2 ^ l.length:Nat):Int)) (bI (fun(x,j)=>0≤j∧j≤(B.length:Int)∧0≤x∧x<((2 ^ l.length:Nat):Int)) (fun(_,j)=>((B.length:Int) - j).toNat) ⟨Int.le_refl _,by omega,Int.le_refl _,by have:=Nat.two_pow_pos l.length;omega⟩ fun(x,j) ⟨A,k2,N⟩=>?_) fun x I=>aU ⟨by omega,Int.le_refl _,by omega,by omega⟩ ?_))
 ·have a9:f.length≤200:=by have:=E.1;have:=E.2;omega
  refine aH (fun D=>?_) fun _=>aq trivial
  rw[dec_lt]at D;refine ao (CR A (by omega) _ _ _ _) fun b _=>ao (P:=fun _=>True) (aH (fun _=>aU ⟨A,D⟩ (aU (by omega) (ao (u6 _ _ _ _ _ _ _ _) fun r _=>aq trivial))) fun _=>aq trivial) fun(q1,q2,q3,q4) _=>?_
  rw[bW A (by omega)];exact aq ⟨⟨by omega,by omega⟩,by(try simp only);omega⟩
 ·refine aH (fun D=>?_) fun _=>aq N
  rw[dec_lt]at D;refine aU ⟨A,D⟩ (aU (by omega) (ao (P:=fun _=>True) (aH (fun _=>aq trivial) fun _=>ao (GU _ _ _ _ _ _ _ _) fun r _=>aq trivial) fun b _=>ao (P:=fun y=>0≤y∧y<((2 ^ l.length:Nat):Int)) (aH (fun _=>aU A (aq (KU hm N (Jz hm (by omega))))) fun _=>aq N) fun y V=>?_));rw[bW A (by omega)];exact aq ⟨⟨by omega,by omega,V⟩,by(try simp only);omega⟩
 ·-- class by class
  refine ao (P:=Lp (fun(q,u,row)=>st.length≤q.length∧q.length≤300∧(row.length=n∧∀x∈row,0≤x∧x<(q.length:Int))∧∀p∈u,0≤p.2∧p.2<(q.length:Int)) fun e=>e.2≠0) ?_ ?_
  rotate_left
  ·rintro(⟨q,u,row⟩ | ⟨e,c⟩) h
   ·obtain⟨g1,g2,g3,g4⟩:=h;have a6:∀x:Int,x<(st.length:Int)→x<(q.length:Int):=fun x I=>by omega
    refine aU (by simp only[List.length_singleton];omega) (aU (by simp only[List.length_singleton];omega) ?_);rw[bW z (by omega)];exact aq ⟨⟨by omega,by omega,⟨by omega,g2⟩,by simp only[List.length_append,List.length_singleton];omega,by simp only[List.length_append,List.length_singleton];omega,ez (fun r C=>⟨(M r C).1,fun x I=>⟨((M r C).2 x I).1,a6 x ((M r C).2 x I).2⟩⟩) g3,ez h7 I,g4⟩,by(try simp only);omega⟩
   ·exact aq h
  refine bI (fun(q,u,row,c)=>0≤c∧c≤(n:Int)∧st.length≤q.length∧q.length≤300∧(row.length=n∧∀x∈row,0≤x∧x<(q.length:Int))∧∀p∈u,0≤p.2∧p.2<(q.length:Int)) (fun(_,_,_,c)=>((n:Int) - c).toNat)
   ⟨Int.le_refl _,by omega,Nat.le_refl _,h3.2,⟨by simp,fun x I=>by rw[List.eq_of_mem_replicate I];omega⟩,h8⟩ fun(q,u,row,c) ⟨A,k2,N,k4,L,X⟩=>?_
  refine aH (fun hc=>?_) fun _=>aq ⟨N,k4,L,X⟩
  rw[dec_lt]at hc;refine ao (P:=fun _=>True) (bI (fun(_,_,_,_,j)=>0≤j∧j≤(s.length:Int)) (fun(_,_,_,_,j)=>((s.length:Int) - j).toNat) ⟨Int.le_refl _,by omega⟩ fun(b1,b2,b3,b4,j) ⟨Y,f2⟩=>?_) fun(t1,t2,t3,t4) _=>?_
  ·have aa:=E.2;refine aH (fun D=>?_) fun _=>aq trivial
   rw[dec_lt]at D;refine aU ⟨Y,D⟩ (aU (by omega) (ao (P:=fun _=>True) (ao (CR Y (by omega) _ _ _ _) fun b _=>aH (fun _=>aU A (aq trivial)) fun _=>aq trivial) fun b _=>ao (P:=fun _=>True) (aH (fun _=>ao (Ix Y (by omega) _ _ _ _) fun(q1,q2,q3,q4) _=>aq trivial) fun _=>aq trivial) fun(q1,q2,q3,q4) _=>?_));rw[bW Y (by omega)];exact aq ⟨⟨by omega,by omega⟩,by(try simp only);omega⟩
  ·refine ao (P:=Lp (fun(v,O,x)=>q.length≤v.length∧v.length≤300∧(0≤x∧x<(v.length:Int))∧∀p∈O,0≤p.2∧p.2<(v.length:Int)) fun e=>e.2≠0) ?_ ?_
   ·refine aH (fun _=>aH (fun _=>aq (show(27:Int)≠0 by decide)) fun Z=>aU (by simp only[List.length_singleton];omega) (aq ⟨by simp,?_,?_,fun p E=>?_⟩)) fun Z=>aq ⟨Nat.le_refl _,k4,?_,X⟩
    ·simp only[decide_eq_true_eq]at Z;simp only[List.length_append,List.length_singleton];omega
    ·simp only[List.length_append,List.length_singleton];omega
    ·simp only[List.length_append,List.length_singleton];rcases mem_set E with e | e
     ·rw[e];simp only;omega
     ·have:=X p e;omega
    ·cases hf:bg lW u (t1,t2,t3,t4)with
     | none=>rw[hf]at Z;exact absurd rfl Z
     | some x =>
      obtain⟨k',a7⟩:=qC hf;exact X _ a7
   ·rintro(⟨v,O,x⟩ | ⟨e,c⟩) h
    ·obtain⟨g1,g2,g3,g4⟩:=h;refine aU (by have:=L.1;omega) (aU (by have:=L.1;omega) ?_);rw[bW A (by omega)];exact aq ⟨⟨by omega,by omega,by omega,g2,⟨by rw[List.length_set];exact L.1,Dx (fun y V=>⟨(L.2 y V).1,by have:=(L.2 y V).2;omega⟩) g3⟩,g4⟩,by(try simp only);omega⟩
    ·exact aq h
end Go.Proofs.YtflahpmlcfhpcaaGreatDoor.T
