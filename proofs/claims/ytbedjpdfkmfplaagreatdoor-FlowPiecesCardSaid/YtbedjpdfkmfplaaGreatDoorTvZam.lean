import Derived.Test.YtbedjpdfkmfplaaGreatDoorTvYm
import Derived.Test.YtbedjpdfkmfplaaGreatDoorTv31gb
namespace Go.Tv
open Go
open Go.IntKind (i64 u32 u64)
def MB(x:Int):Prop:=0≤x∧x<18446744073709551616
def HD(x:Int):Prop:=0≤x∧x<4294967296
def bt(x:Int)(i:Nat):Bool:=x.toNat.testBit i
theorem L5{x y:Int}(f:MB x)(j:MB y):bitsOf .or .u64 x y=((x.toNat ||| y.toNat:Nat):Int):=by
 have e:(2:Int) ^ 64=18446744073709551616:=by decide
 have v:(2:Nat) ^ 64=18446744073709551616:=by decide
 obtain⟨q,z⟩:=f;obtain⟨u,A⟩:=j;show u64.wrap ((BitVec.ofInt u64.bits x ||| BitVec.ofInt u64.bits y).toNat:Int)=_;rw[BitVec.toNat_or,eV q (by show x<(2:Int) ^ 64;omega),eV u (by show y<(2:Int) ^ 64;omega)];have:=Nat.or_lt_two_pow (x:=x.toNat) (y:=y.toNat) (n:=64) (by omega) (by omega);rw[wrap_u64 (by omega) (by omega)]
theorem Jd{x y:Int}(f:HD x)(j:HD y):bitsOf .or .u32 x y=((x.toNat ||| y.toNat:Nat):Int):=by
 have e:(2:Int) ^ 32=4294967296:=by decide
 have v:(2:Nat) ^ 32=4294967296:=by decide
 obtain⟨q,z⟩:=f;obtain⟨u,A⟩:=j;show u32.wrap ((BitVec.ofInt u32.bits x ||| BitVec.ofInt u32.bits y).toNat:Int)=_;rw[BitVec.toNat_or,eV q (by show x<(2:Int) ^ 32;omega),eV u (by show y<(2:Int) ^ 32;omega)];have:=Nat.or_lt_two_pow (x:=x.toNat) (y:=y.toNat) (n:=32) (by omega) (by omega);rw[wrap_u32 (by omega) (by omega)]
theorem F0{x y:Int}(f:HD x)(j:HD y):bitsOf .and .u32 x y=((x.toNat &&& y.toNat:Nat):Int):=by
 have e:(2:Int) ^ 32=4294967296:=by decide
 have v:(2:Nat) ^ 32=4294967296:=by decide
 obtain⟨q,z⟩:=f;obtain⟨u,A⟩:=j;show u32.wrap ((BitVec.ofInt u32.bits x &&& BitVec.ofInt u32.bits y).toNat:Int)=_;rw[BitVec.toNat_and,eV q (by show x<(2:Int) ^ 32;omega),eV u (by show y<(2:Int) ^ 32;omega)];have:=Nat.and_lt_two_pow x.toNat (show y.toNat<2 ^ 32 by omega);rw[wrap_u32 (by omega) (by omega)]
theorem MB.or{x y:Int}(e:MB x)(f:MB y):MB (bitsOf .or .u64 x y):=by
 rw[L5 e f];have j:(2:Nat) ^ 64=18446744073709551616:=by decide
 obtain⟨q,u⟩:=e;obtain⟨v,z⟩:=f;have:=Nat.or_lt_two_pow (x:=x.toNat) (y:=y.toNat) (n:=64) (by omega) (by omega);exact⟨by omega,by omega⟩
theorem HD.or{x y:Int}(e:HD x)(f:HD y):HD (bitsOf .or .u32 x y):=by
 rw[Jd e f];have j:(2:Nat) ^ 32=4294967296:=by decide
 obtain⟨q,u⟩:=e;obtain⟨v,z⟩:=f;have:=Nat.or_lt_two_pow (x:=x.toNat) (y:=y.toNat) (n:=32) (by omega) (by omega);exact⟨by omega,by omega⟩
theorem KK{k:Nat}(hk:k<32):u32.wrap ((1:Int)*2 ^ (min k u32.bits))=((2 ^ k:Nat):Int):=by
 have hb:u32.bits=32:=rfl;have f:(2:Nat) ^ 32=4294967296:=by decide
 have:=Nat.pow_lt_pow_right (a:=2) (by decide) hk;rw[hb,Nat.min_eq_left (by omega),Int.one_mul];have e:(2:Int) ^ k=((2 ^ k:Nat):Int):=by push_cast;rfl
 rw[e];generalize 2 ^ k=m at this;rw[wrap_u32 (by omega) (by omega)]
end Go.Tv
namespace Go.Proofs.YtbedjpdfkmfplaaGreatDoor.T
open Go Go.Tv Go.Proofs
open Go.IntKind (i64 u32 u64)
theorem bS{i:Int}(e:0≤i)(h:i≤1000000000):i64.wrap (i+1)=i+1:=wrap_i64 (by omega) (by omega)
theorem mem_set{α:Type}{K:Ty}{k:K.den}{x:α}{p:K.den×α}:∀ {f:List (K.den×α)},p∈cq K f k x→p=(k,x)∨p∈f
 | [],h=> .inl (List.mem_singleton.1 h)
 | q::r,h=>by
  simp only[cq]at h;split at h
  ·rcases List.mem_cons.1 h with e | e
   ·exact .inl e
   ·exact .inr (.tail _ e)
  ·rcases List.mem_cons.1 h with e | e
   ·exact .inr (e ▸ .head _)
   ·rcases mem_set e with e | e
    ·exact .inl e
    ·exact .inr (.tail _ e)
theorem tg{α:Type}{K:Ty}{k:K.den}{x:α}:∀ {f:List (K.den×α)},aT K f k=some x→∃e,(e,x)∈f
 | [],h=>by cases h
 | q::r,h=>by
  simp only[aT]at h;split at h
  ·cases h;exact⟨q.1,.head _⟩
  ·obtain⟨e,h'⟩:=tg h;exact⟨e,.tail _ h'⟩
theorem yf(a b c d e f g h:Int):Ho (dn a b c d e f g h) (fun _=>True):=by
 refine ao (P:=fun _=>True) (bG (fun s=>0≤s.2.2.2.2∧s.2.2.2.2≤4) (fun s=>(4 - s.2.2.2.2).toNat) ⟨Int.le_refl _,(by decide:(0:Int)≤4)⟩ fun(a,b,c,d,i) ⟨j,q⟩=>?_) fun r _=>aq trivial
 refine aJ (fun hl=>?_) fun _=>aq trivial
 rw[dec_lt]at hl;simp only at j q;refine aW ⟨j,hl⟩ (aW ⟨j,hl⟩ (aW ⟨j,hl⟩ ?_));rw[bS j (by omega)];exact aq ⟨⟨by(try simp only);omega,by(try simp only);omega⟩,by(try simp only);omega⟩
theorem HH{i:Int}(e:0≤i)(h:i<256):(0≤i64.wrap (Int.tdiv i 64)∧i64.wrap (Int.tdiv i 64)<((4:Nat):Int))∧0≤Int.tmod i 64:=by
 rw[Int.tdiv_eq_ediv_of_nonneg e,Int.tmod_eq_emod_of_nonneg e,wrap_i64 (by omega) (by omega)];omega
theorem KB{i:Int}(f:0≤i)(h:i<256)(j:Bool)(q u v z A B C D:Int):Ho (iN i j q u v z A B C D) (fun _=>True):=by
 obtain⟨e,E⟩:=HH f h;exact aW (by decide) (aW e (aW (by decide) (aW E (aW e (aq trivial)))))
theorem Kd{i:Int}(f:0≤i)(h:i<256)(j q u v:Int):Ho (iI i j q u v) (fun _=>True):=by
 obtain⟨e,z⟩:=HH f h;exact aW (by decide) (aW e (aW (by decide) (aW z (aW e (aq trivial)))))
theorem Ez{i:Int}(e:0≤i)(h:i<256)(f j q u:Int):Ho (hN f j q u i) (fun _=>True):=by
 obtain⟨v,z⟩:=HH e h;exact aW (by decide) (aW v (aW (by decide) (aW z (aq trivial))))
theorem Jz(a b c d e f g h:Int):Ho (nX a b c d e f g h) (fun _=>True):=by
 refine ao (P:=fun _=>True) (bG (fun i=>0≤i∧i≤4) (fun i=>(4 - i).toNat) ⟨by decide,by decide⟩ fun i ⟨j,q⟩=>?_) ?_
 ·refine aJ (fun hl=>?_) fun _=>aq trivial
  rw[dec_lt]at hl;refine aW ⟨j,hl⟩ (aW ⟨j,hl⟩ (aJ (fun _=>aq trivial) fun _=>?_));rw[bS j (by omega)];exact aq ⟨⟨by omega,by omega⟩,by omega⟩
 ·rintro(_ | r) _
  ·exact aq trivial
  ·exact aq trivial
theorem Fz(a b c d e f g h:Int)(m:Bool)(o1:QK){o2:Qj}(hl:o2.length≤200):Ho (eK a b c d e f g h m o1 o2) (fun r=>r.length=o2.length):=by
 refine ao (P:=fun r=>r.length=o2.length) (bG (fun(m,i)=>m.length=o2.length∧0≤i∧i≤(o2.length:Int)) (fun(_,i)=>(o2.length - i).toNat) ⟨rfl,by decide,by omega⟩ fun(m,i) ⟨j,u,A⟩=>?_) fun r z=>aq z
 refine aJ (fun hl=>?_) fun _=>aq j
 rw[dec_lt]at hl;refine ao (Ez u (by omega) _ _ _ _) fun x _=>ao (P:=fun v=>v.length=o2.length) ?_ fun v q=>?_
 ·refine aJ (fun _=>aW (by omega) (aW (by omega) (ao (yf _ _ _ _ _ _ _ _) fun r _=>aW (by omega) (aW (by omega) (aq ?_))))) fun _=>aq j
  rw[List.length_set];exact j
 ·rw[bS u (by omega)];exact aq ⟨⟨q,by omega,by omega⟩,by(try simp only);omega⟩
def Pl(o1:QK)(o2:Qj):Prop:=o2.length=o1.length∧o1.length≤200
theorem Lb:∀(n:Nat) (x:Tree),Dp n x→∀(E:Bool) {o1:QK} {o2:Qj},Pl o1 o2→Ho (eE n x.op x.set x.kids E o1 o2) (fun r=>Pl r.2.1 r.2.2.1)
 | 0,_,h,_,_,_,_=>h.elim
 | n+1,.node o s v,h,E,o1,o2,f=>by
  obtain⟨hk,J⟩:=h;have e:=fun(i:Nat) (hi:i<v.length) (E:Bool) {o1:QK} {o2:Qj} (f:Pl o1 o2)=>Lb n _ (Dp.getD J hi (Tree.node 0 0 [])) E f
  simp only[eE,Tree.op,Tree.set,Tree.kids];unfold fY;refine aJ (fun _=>aJ (fun _=>aq f) fun hl=>?_) fun _=>aJ (fun _=>?_) fun _=>aJ (fun _=>?_) fun _=>?_
  ·have L:(o1.length:Int)<200:=by simpa using hl
   have j:=f.1;refine ao (KB (by omega) (by omega) _ _ _ _ _ _ _ _ _) fun r _=>aW (by simp only[List.length_singleton];omega) (aW (by simp only[List.length_singleton];omega) (aq ⟨?_,?_⟩))
   ·simp only[List.length_append,List.length_singleton];omega
   ·simp only[List.length_append,List.length_singleton];omega
  ·refine ao (P:=fun r=>Pl r.2.2.2.2.2.2.2.2.2.1 r.2.2.2.2.2.2.2.2.2.2.1) (bG (fun(z,A,_,_,_,_,_,_,_,_,_,_,i)=>Pl z A∧0≤i∧i≤(v.length:Int)) (fun(_,_,_,_,_,_,_,_,_,_,_,_,i)=>((v.length:Int) - i).toNat) ⟨f,Int.le_refl _,by simp⟩ fun(z,A,s3,s4,s5,s6,s7,s8,s9,M,N,O,i) ⟨j,u,h3⟩=>?_) fun r e=>aq e
   refine aJ (fun hl=>?_) fun _=>aq j
   rw[dec_lt]at hl;refine aW ⟨u,hl⟩ (ao (e i.toNat (by omega) _ j) fun(X,I,V,Y) e=>ao (Fz _ _ _ _ _ _ _ _ _ _ (by have j:V.length=I.length:=e.1;have u:I.length≤200:=e.2;omega)) fun q B=>ao (P:=fun _=>True) ?_ fun _ _=>ao (P:=fun _=>True) ?_ fun _ _=>ao (P:=fun _=>True) ?_ fun _ _=>?_)
   ·exact aJ (fun _=>ao (yf _ _ _ _ _ _ _ _) fun _ _=>aq trivial) fun _=>aq trivial
   ·exact aJ (fun _=>ao (yf _ _ _ _ _ _ _ _) fun _ _=>aq trivial) fun _=>aq trivial
   ·exact aJ (fun _=>aq trivial) fun _=>aq trivial
   ·rw[bS u (by omega)];exact aq ⟨⟨⟨B.trans e.1,e.2⟩,by(try simp only);omega,by(try simp only);omega⟩,by(try simp only);omega⟩
  ·refine ao (P:=fun r=>Pl r.2.2.2.2.2.2.2.2.2.1 r.2.2.2.2.2.2.2.2.2.2.1) (bG (fun(z,A,_,_,_,_,_,_,_,_,_,_,i)=>Pl z A∧0≤i∧i≤(v.length:Int)) (fun(_,_,_,_,_,_,_,_,_,_,_,_,i)=>((v.length:Int) - i).toNat) ⟨f,Int.le_refl _,by simp⟩ fun(z,A,s3,s4,s5,s6,s7,s8,s9,M,N,O,i) ⟨j,u,h3⟩=>?_) fun r e=>aq e
   refine aJ (fun hl=>?_) fun _=>aq j
   rw[dec_lt]at hl;refine aW ⟨u,hl⟩ (ao (e i.toNat (by omega) _ j) fun(X,I,V,Y) e=>ao (P:=fun _=>True) ?_ fun _ _=>?_)
   ·refine aJ (fun _=>?_) fun _=>?_
    all_goals exact ao (yf _ _ _ _ _ _ _ _) fun _ _=>ao (yf _ _ _ _ _ _ _ _) fun _ _=>aq trivial
   ·rw[bS u (by omega)];exact aq ⟨⟨e,by(try simp only);omega,by(try simp only);omega⟩,by(try simp only);omega⟩
  ·refine ao (P:=fun _=>True) ?_ fun b _=>aJ (fun _=>?_) fun _=>aq f
   ·repeat' split
    all_goals exact aq trivial
   ·refine ao (P:=fun r=>Pl r.1 r.2.1) ?_ fun(C,D,a9,Z,a1,a2,a3,a4,a5,a6,a7,a8) e=>ao (P:=fun r=>r.length=D.length) ?_ fun q B=>ao (P:=fun _=>True) ?_ fun _ _=>aq ⟨B.trans e.1,e.2⟩
    ·refine aJ (fun hl=>?_) fun _=>aq f
     have L:0<(v.length:Int):=by simpa using hl
     exact aW (by omega) (ao (e (0:Int).toNat (by simp only[Int.toNat_zero];omega) _ f) fun(X,I,V,Y) e=>aq e)
    ·refine aJ (fun _=>ao (Fz _ _ _ _ _ _ _ _ _ _ ?_) fun q B=>aq B) fun _=>aq rfl
     have j:D.length=C.length:=e.1;have u:C.length≤200:=e.2;omega
    ·exact aJ (fun _=>aq trivial) fun _=>aq trivial
structure WB(nx:QZ)(ou:QK)(k m:Nat):Prop where
 len:∀r∈nx,r.length=k
 val:∀r∈nx,∀x∈r,0≤x∧x<(nx.length:Int)
 ol:ou.length=nx.length
 ob:∀x∈ou,0≤x∧x<((2 ^ m:Nat):Int)
theorem MP{x y:Int}{m:Nat}(j:m≤24)(e:0≤x∧x<((2 ^ m:Nat):Int))(f:0≤y∧y<((2 ^ m:Nat):Int)):0≤bitsOf .or .u32 x y∧bitsOf .or .u32 x y<((2 ^ m:Nat):Int):=by
 have q:2 ^ m≤2 ^ 24:=Nat.pow_le_pow_right (by decide) j;have u:HD x:=⟨e.1,by have:=e.2;omega⟩;have v:HD y:=⟨f.1,by have:=f.2;omega⟩;rw[Jd u v];have:=Nat.or_lt_two_pow (n:=m) (x:=x.toNat) (y:=y.toNat) (by have:=e.1;have:=e.2;omega) (by have:=f.1;have:=f.2;omega);omega
theorem Mw{k m:Nat}(e:m≤24)(hk:k<m):0≤u32.wrap (1*2 ^ (min k u32.bits))∧u32.wrap (1*2 ^ (min k u32.bits))<((2 ^ m:Nat):Int):=by
 rw[KK (by omega)];exact⟨Int.natCast_nonneg _,Int.ofNat_lt.2 (Nat.pow_lt_pow_right (by decide) hk)⟩
theorem Gg{α:Type}{P:α→Prop}{l:List α}{i:Nat}{x:α}(h:∀y∈l,P y)(e:P x):∀y∈l.set i x,P y:=fun y f=>by
 rcases List.mem_or_eq_of_mem_set f with q | q
 ·exact h y q
 ·rw[q];exact e
theorem vE{l:XZ}(hl:∀x∈l,Dp 100 x)(n:Nat):Ho (nt l (n:Int)) (fun r=>r.2=0→(0<r.1.1.length∧r.1.1.length≤300)∧WB r.1.1 r.1.2 n l.length):=by
 refine ao (P:=fun b=>b=true∨(n≤24∧l.length≤24)) ?_ fun b hb=>aJ (fun _=>aq fun h=>by cases h) fun a5=>?_
 ·refine aJ (fun _=>aq (.inl rfl)) fun _=>aJ (fun _=>aq (.inl rfl)) fun z=>aq ?_
  by_cases J:(l.length:Int) > 24
  ·exact .inl (by simpa using J)
  ·exact .inr ⟨by simp only[decide_eq_true_eq]at z;omega,by omega⟩
 obtain⟨hn,hm⟩:=hb.resolve_left a5;refine ao (P:=fun(s,f,full,B)=>Pl s f∧B.length=l.length) (bG (fun(s,f,_,B,i)=>Pl s f∧0≤i∧i≤(l.length:Int)∧(B.length:Int)=i) (fun(_,_,_,_,i)=>((l.length:Int) - i).toNat) ⟨⟨rfl,by decide⟩,Int.le_refl _,by omega,rfl⟩ fun(s,f,b,B,i) ⟨z,J,h3,h4⟩=>?_) ?_
 ·refine aJ (fun hi=>?_) fun hi=>aq ⟨z,by rw[dec_lt]at hi;omega⟩
  rw[dec_lt]at hi;refine aW ⟨J,hi⟩ (ao (Lb 1000 _ ((Dp.getD hl (by omega) (Tree.node 0 0 [])).mono (by omega)) b z) fun(r,s',f',b') C=>aW (by simp only[List.length_singleton];omega) ?_);rw[bS J (by omega)];exact aq ⟨⟨C,by omega,by omega,by simp only[List.length_append,List.length_singleton];omega⟩,by(try simp only);omega⟩
 rintro⟨s,f,full,B⟩ ⟨E,a8⟩;refine aJ (fun _=>aq fun h=>by cases h) fun _=>?_
 refine ao (P:=fun _=>True) (bG (fun(_,_,_,_,i)=>0≤i∧i≤(B.length:Int)) (fun(_,_,_,_,i)=>((B.length:Int) - i).toNat) ⟨Int.le_refl _,by omega⟩ fun(a,b,c,d,i) ⟨z,J⟩=>?_) ?_
 ·refine aJ (fun hi=>?_) fun _=>aq trivial
  rw[dec_lt]at hi;refine aW ⟨z,hi⟩ (aW (by omega) (ao (yf _ _ _ _ _ _ _ _) fun r _=>?_));rw[bS z (by omega)];exact aq ⟨⟨by omega,by omega⟩,by(try simp only);omega⟩
 rintro⟨m1,m2,m3,m4⟩ _;refine ao (P:=Lp (fun(nx,ou)=>(0<nx.length∧nx.length≤300)∧WB nx ou n l.length) fun e=>e.2≠0) ?_ ?_
 rotate_left
 ·rintro(⟨nx,ou⟩ | ⟨e,c⟩) h
  ·exact aq fun _=>h
  ·exact aq fun hc=>absurd hc h
 refine bG (fun(nx,ou,st,mp,i)=>0≤i∧i≤(st.length:Int)∧(0<st.length∧st.length≤300)∧(nx.length:Int)=i∧ou.length=nx.length∧(∀r∈nx,r.length=n∧∀x∈r,0≤x∧x<(st.length:Int))∧(∀x∈ou,0≤x∧x<((2 ^ l.length:Nat):Int))∧∀p∈mp,0≤p.2∧p.2<(st.length:Int))
  (fun(_,_,_,_,i)=>(300 - i).toNat) ⟨Int.le_refl _,by decide,⟨by decide,by decide⟩,rfl,rfl,fun _ h=>(by cases h),fun _ h=>(by cases h),fun p E=>(by rcases mem_set E with e | e;exact(by rw[e];exact⟨Int.le_refl _,(by decide:(0:Int)<1)⟩);cases e)⟩ fun(nx,ou,st,mp,i) ⟨z,J,h3,h4,h5,M,h7,h8⟩=>?_
 refine aJ (fun hi=>?_) fun hi=>?_
 rotate_left
 ·rw[dec_lt]at hi;have e:nx.length=st.length:=by omega
  exact aq ⟨by rw[e];exact h3,fun r C=>(M r C).1,fun r C=>by rw[e];exact(M r C).2,h5,h7⟩
 rw[dec_lt]at hi;refine aW ⟨z,hi⟩ (aW (by omega) (ao (P:=fun _=>True) (bG (fun(_,_,_,_,j)=>0≤j∧j≤(f.length:Int)) (fun(_,_,_,_,j)=>((f.length:Int) - j).toNat) ⟨Int.le_refl _,by omega⟩ fun(a,b,c,d,j) ⟨A,k2⟩=>?_) fun(a1,a2,a3,a4) _ =>
  ao (P:=fun x=>0≤x∧x<((2 ^ l.length:Nat):Int)) (bG (fun(x,j)=>0≤j∧j≤(B.length:Int)∧0≤x∧x<((2 ^ l.length:Nat):Int)) (fun(_,j)=>((B.length:Int) - j).toNat) ⟨Int.le_refl _,by omega,Int.le_refl _,by have:=Nat.two_pow_pos l.length;omega⟩ fun(x,j) ⟨A,k2,N⟩=>?_) fun x I=>aW ⟨by omega,Int.le_refl _,by omega,by omega⟩ ?_))
 ·have a9:f.length≤200:=by have:=E.1;have:=E.2;omega
  refine aJ (fun D=>?_) fun _=>aq trivial
  rw[dec_lt]at D;refine ao (Ez A (by omega) _ _ _ _) fun b _=>ao (P:=fun _=>True) (aJ (fun _=>aW ⟨A,D⟩ (aW (by omega) (ao (yf _ _ _ _ _ _ _ _) fun r _=>aq trivial))) fun _=>aq trivial) fun(q1,q2,q3,q4) _=>?_
  rw[bS A (by omega)];exact aq ⟨⟨by omega,by omega⟩,by(try simp only);omega⟩
 ·refine aJ (fun D=>?_) fun _=>aq N
  rw[dec_lt]at D;refine aW ⟨A,D⟩ (aW (by omega) (ao (P:=fun _=>True) (aJ (fun _=>aq trivial) fun _=>ao (Jz _ _ _ _ _ _ _ _) fun r _=>aq trivial) fun b _=>ao (P:=fun y=>0≤y∧y<((2 ^ l.length:Nat):Int)) (aJ (fun _=>aW A (aq (MP hm N (Mw hm (by omega))))) fun _=>aq N) fun y V=>?_));rw[bS A (by omega)];exact aq ⟨⟨by omega,by omega,V⟩,by(try simp only);omega⟩
 ·-- class by class
  refine ao (P:=Lp (fun(q,u,row)=>st.length≤q.length∧q.length≤300∧(row.length=n∧∀x∈row,0≤x∧x<(q.length:Int))∧∀p∈u,0≤p.2∧p.2<(q.length:Int)) fun e=>e.2≠0) ?_ ?_
  rotate_left
  ·rintro(⟨q,u,row⟩ | ⟨e,c⟩) h
   ·obtain⟨g1,g2,g3,g4⟩:=h;have a6:∀x:Int,x<(st.length:Int)→x<(q.length:Int):=fun x I=>by omega
    refine aW (by simp only[List.length_singleton];omega) (aW (by simp only[List.length_singleton];omega) ?_);rw[bS z (by omega)];exact aq ⟨⟨by omega,by omega,⟨by omega,g2⟩,by simp only[List.length_append,List.length_singleton];omega,by simp only[List.length_append,List.length_singleton];omega,eI (fun r C=>⟨(M r C).1,fun x I=>⟨((M r C).2 x I).1,a6 x ((M r C).2 x I).2⟩⟩) g3,eI h7 I,g4⟩,by(try simp only);omega⟩
   ·exact aq h
  refine bG (fun(q,u,row,c)=>0≤c∧c≤(n:Int)∧st.length≤q.length∧q.length≤300∧(row.length=n∧∀x∈row,0≤x∧x<(q.length:Int))∧∀p∈u,0≤p.2∧p.2<(q.length:Int)) (fun(_,_,_,c)=>((n:Int) - c).toNat)
   ⟨Int.le_refl _,by omega,Nat.le_refl _,h3.2,⟨by simp,fun x I=>by rw[List.eq_of_mem_replicate I];omega⟩,h8⟩ fun(q,u,row,c) ⟨A,k2,N,k4,L,X⟩=>?_
  refine aJ (fun hc=>?_) fun _=>aq ⟨N,k4,L,X⟩
  rw[dec_lt]at hc;refine ao (P:=fun _=>True) (bG (fun(_,_,_,_,j)=>0≤j∧j≤(s.length:Int)) (fun(_,_,_,_,j)=>((s.length:Int) - j).toNat) ⟨Int.le_refl _,by omega⟩ fun(b1,b2,b3,b4,j) ⟨Y,f2⟩=>?_) fun(t1,t2,t3,t4) _=>?_
  ·have aa:=E.2;refine aJ (fun D=>?_) fun _=>aq trivial
   rw[dec_lt]at D;refine aW ⟨Y,D⟩ (aW (by omega) (ao (P:=fun _=>True) (ao (Ez Y (by omega) _ _ _ _) fun b _=>aJ (fun _=>aW A (aq trivial)) fun _=>aq trivial) fun b _=>ao (P:=fun _=>True) (aJ (fun _=>ao (Kd Y (by omega) _ _ _ _) fun(q1,q2,q3,q4) _=>aq trivial) fun _=>aq trivial) fun(q1,q2,q3,q4) _=>?_));rw[bS Y (by omega)];exact aq ⟨⟨by omega,by omega⟩,by(try simp only);omega⟩
  ·refine ao (P:=Lp (fun(v,O,x)=>q.length≤v.length∧v.length≤300∧(0≤x∧x<(v.length:Int))∧∀p∈O,0≤p.2∧p.2<(v.length:Int)) fun e=>e.2≠0) ?_ ?_
   ·refine aJ (fun _=>aJ (fun _=>aq (show(27:Int)≠0 by decide)) fun Z=>aW (by simp only[List.length_singleton];omega) (aq ⟨by simp,?_,?_,fun p E=>?_⟩)) fun Z=>aq ⟨Nat.le_refl _,k4,?_,X⟩
    ·simp only[decide_eq_true_eq]at Z;simp only[List.length_append,List.length_singleton];omega
    ·simp only[List.length_append,List.length_singleton];omega
    ·simp only[List.length_append,List.length_singleton];rcases mem_set E with e | e
     ·rw[e];simp only;omega
     ·have:=X p e;omega
    ·cases hf:aT mI u (t1,t2,t3,t4)with
     | none=>rw[hf]at Z;exact absurd rfl Z
     | some x =>
      obtain⟨k',a7⟩:=tg hf;exact X _ a7
   ·rintro(⟨v,O,x⟩ | ⟨e,c⟩) h
    ·obtain⟨g1,g2,g3,g4⟩:=h;refine aW (by have:=L.1;omega) (aW (by have:=L.1;omega) ?_);rw[bS A (by omega)];exact aq ⟨⟨by omega,by omega,by omega,g2,⟨by rw[List.length_set];exact L.1,Gg (fun y V=>⟨(L.2 y V).1,by have:=(L.2 y V).2;omega⟩) g3⟩,g4⟩,by(try simp only);omega⟩
    ·exact aq h
end Go.Proofs.YtbedjpdfkmfplaaGreatDoor.T
