import Derived.Test.YtobbjfkfmdiklaaGreatDoorTv50gdm
import Derived.Test.YtobbjfkfmdiklaaGreatDoorTv50fm
import Derived.Lib.TrailingZeros
import Derived.Test.YtobbjfkfmdiklaaGreatDoorTv50im
import Derived.Test.YtobbjfkfmdiklaaGreatDoorTv50um
namespace Go.Proofs.YtobbjfkfmdiklaaGreatDoor.T
open Go Go.Tv Go.Proofs
open Go.IntKind (i64 u32 u64)
noncomputable section
theorem Jt:∀i,i<32→JM.getD i 0=((Lib.deBruijn32tab.getD i 0:Nat):Int):=by decide +kernel
theorem LZ{n m:Nat}(hm:m≤24)(u:0<n)(hn:n<2 ^ m):0≤pX (n:Int)∧pX (n:Int)<(m:Int):=by
 have j:2 ^ m≤2 ^ 24:=Nat.pow_le_pow_right (by decide) hm;have f:n<2 ^ 32:=Nat.lt_of_lt_of_le hn (Nat.le_trans j (by decide));obtain⟨v,x⟩:=Lib.lowest_bit 32 n (by omega) f;have A:Lib.ctz 32 n=Lib.ctzFrom 32 n:=by simp[Lib.ctz,Nat.ne_of_gt u]
 obtain⟨q,p,_⟩:=Lib.ctzFrom_spec 32 n (by omega) f;rw[←A]at p;generalize Lib.ctz 32 n=k at v x p;have hk:k<m:=by
  rcases Nat.lt_or_ge k m with h | h
  ·exact h
  ·have h1:2 ^ m≤2 ^ k:=Nat.pow_le_pow_right (by decide) h;have h2:2 ^ k≤n:=Nat.le_of_dvd u (by rw[p];exact Nat.dvd_mul_right _ _);omega
 have hb:bits BinOp.and u32 (n:Int) (-(n:Int) % 4294967296)=((2 ^ k:Nat):Int):=by
  have B : -(n:Int) % 4294967296=((2 ^ 32 - n:Nat):Int):=by
   have e:(2:Nat) ^ 32=4294967296:=by decide
   omega
  rw[B];have C:F2 (n:Int):=⟨by omega,by omega⟩;have h2:F2 ((2 ^ 32 - n:Nat):Int):=by
   have e:(2:Nat) ^ 32=4294967296:=by decide
   exact⟨by omega,by omega⟩
  have:=Eu C h2;rw[Int.toNat_natCast,Int.toNat_natCast,v]at this;exact this
 obtain⟨D,E⟩:=Lib.deBruijn32_at k x;have key:pX (n:Int)=(k:Int):=by
  unfold pX;rw[if_neg (by rw[beq_iff_eq];omega),hb];have e:(((2 ^ k:Nat):Int)*125613361 % 4294967296 / 134217728).toNat=2 ^ k*125613361 % 4294967296 / 134217728:=by generalize (2 ^ k:Nat)=q;rw[show((q:Nat):Int)*125613361=((q*125613361:Nat):Int) by rw[Int.natCast_mul];rfl];generalize q*125613361=z;omega
  rw[e,Jt _ D,E]
 rw[key];exact⟨by omega,by omega⟩
theorem DS:∀(n f:Nat) (x:Tree),n≤f→Dp n x→Ho (lf f x.op x.set x.kids) (Dp n)
 | 0,_,_,_,h=>h.elim
 | n+1,0,_,hl,_=>absurd hl (by omega)
 | n+1,f+1,.node o s p,hl,h=>by
  obtain⟨hk,q⟩:=h;have u:=fun(i:Nat) (hi:i<p.length)=>DS n f _ (by omega) (Dp.getD q hi (Tree.node 0 0 []))
  simp only[lf,Tree.op,Tree.set,Tree.kids];unfold mv;refine ao (P:=fun l=>l.length≤1000000∧∀k∈l,Dp n k) (bH (fun(l,i)=>0≤i∧i≤(p.length:Int)∧(l.length:Int)=i∧∀k∈l,Dp n k) (fun(_,i)=>((p.length:Int) - i).toNat) ⟨Int.le_refl _,by simp,rfl,fun k hk=>by cases hk⟩ fun(l,i) ⟨h1,h2,A,v⟩=>?_) fun l hl=>aq hl
  refine aI (fun hi=>?_) fun _=>aq ⟨by omega,v⟩
  rw[dec_lt]at hi;refine aU ⟨h1,hi⟩ (ao (P:=fun x=>∃j,j<p.length∧x=((p.getD j (Tree.node 0 0 [])).op,(p.getD j (Tree.node 0 0 [])).set,(p.getD j (Tree.node 0 0 [])).kids)) ?_ ?_)
  ·refine aI (fun _=>?_) fun _=>aq ⟨i.toNat,by omega,rfl⟩
   rw[wrap_i64 (x:=(p.length:Int) - 1) (by omega) (by omega),wrap_i64 (by omega) (by omega)];exact aU (by omega) (aq ⟨_,by omega,rfl⟩)
  ·rintro⟨a,b,c⟩ ⟨j,z,e⟩;cases e;refine ao (u j z) fun r u=>aU (by simp only[List.length_singleton];omega) ?_
   rw[bU h1 (by omega)];exact aq ⟨⟨by(try simp only);omega,by(try simp only);omega,by simp only[List.length_append,List.length_singleton];omega,dW v (by rw[tG];exact u)⟩,by(try simp only);omega⟩
theorem WB.wa{nx:QZ}{ou:QK}{k m:Nat}(h:WB nx ou k m)(hp:0<nx.length):WA nx k:=by
 refine⟨hp,fun i hi=>by rw[(h.row hi).1];exact Nat.le_refl _,fun i c hi hc=>?_⟩;obtain⟨h1,h2⟩:=h.row hi;exact h2 _ (bS (by omega) 0)
def Mk(m:Option Z5)(c:Int):Prop:=(c=0∧∃x,m=some x∧Mo x x.1.1.length∧x.1.1.length≤24)∨(c≠0∧m=none)
theorem DP{cl:QQ}{M N:Int}{tr:QK}{f:XJ}(h:Eh cl tr f):Ho (sG cl M N tr f) (fun r=>Mk r.1 r.2):=by
 refine aI (fun _=>aq (.inr ⟨by decide,rfl⟩)) fun O=>?_
 have A:0<cl.length:=by simp only[beq_iff_eq]at O;omega
 have j:=h.rl;refine ao (P:=fun(a,b)=>(a.length=f.length∧b.length=f.length)∧(∀x∈a,Dp 100 x)∧∀x∈b,Dp 100 x) (bH (fun(a,b,i)=>0≤i∧i≤(f.length:Int)∧((a.length:Int)=i∧(b.length:Int)=i)∧(∀x∈a,Dp 100 x)∧∀x∈b,Dp 100 x) (fun(_,_,i)=>((f.length:Int) - i).toNat) ⟨Int.le_refl _,by omega,⟨rfl,rfl⟩,fun _ h=>(by cases h),fun _ h=>(by cases h)⟩ fun(a,b,i) ⟨h1,h2,h3,I,J⟩=>?_) ?_
 ·refine aI (fun hi=>?_) fun hi=>aq ⟨by rw[dec_lt]at hi;omega,I,J⟩
  rw[dec_lt]at hi;obtain⟨_,B,C⟩:=h.rk _ (bS (i:=i.toNat) (by omega) (0,(Tree.node 0 0 []),(Tree.node 0 0 [])));refine aU ⟨h1,hi⟩ (aU (by simp only[List.length_singleton];omega) (ao (DS 100 1000 _ (by omega) C) fun r D=>aU (by simp only[List.length_singleton];omega) ?_));rw[bU h1 (by omega)];exact aq ⟨⟨by(try simp only);omega,by(try simp only);omega,by simp only[List.length_append,List.length_singleton];omega,dW I (by rw[tG];exact B),dW J (by rw[tG];exact D)⟩,by(try simp only);omega⟩
 rintro⟨a,b⟩ ⟨⟨V,X⟩,Y,Z⟩;refine ao (tN Y cl.length) fun(r,c) D=>aI (fun hc=>aq (.inr ⟨by simpa using hc,rfl⟩)) fun hc=>?_
 obtain⟨r1,r2⟩:=D (by simpa using hc);refine ao (tN Z cl.length) fun(q,d) hq=>aI (fun hd=>aq (.inr ⟨by simpa using hd,rfl⟩)) fun hd=>?_
 obtain⟨B,C⟩:=hq (by simpa using hd);refine ao (qV r2 r1 h.Kl) fun(v,v') hv=>ao (qV C B h.Kl) fun(u,u') hu=>aq (.inl ⟨rfl,_,rfl,?_,h.Kl⟩)
 obtain⟨v1,p⟩:=hv;obtain⟨u1,z⟩:=hu;rw[V]at p;rw[X]at z;refine⟨A,Nat.le_of_eq h.tl.symm,fun i hi=>h.tc _ (bS hi 0),p.wa v1.1,Nat.le_of_eq p.ol.symm,z.wa u1.1,Nat.le_of_eq z.ol.symm,fun s t L ht hb=>?_,I8 fun x hx=>(h.rk x hx).1⟩;simp only at L ht hb ⊢;obtain⟨x0,x1⟩:=p.ob _ (bS (l:=v.2) (i:=s) (by rw[p.ol];exact L) 0);obtain⟨y0,y1⟩:=z.ob _ (bS (l:=u.2) (i:=t) (by rw[z.ol];exact ht) 0);generalize v.2.getD s 0=x at *;generalize u.2.getD t 0=y at *;have a3:2 ^ f.length≤2 ^ 24:=Nat.pow_le_pow_right (by decide) j;rw[Eu ⟨x0,by omega⟩ ⟨y0,by omega⟩]at hb ⊢;have E:=Nat.and_lt_two_pow (n:=f.length) x.toNat (y:=y.toNat) (by omega);refine LZ j ?_ E;simp only[bne_iff_ne,ne_eq]at hb;omega
theorem vZ(t:QX):Ho (ja t) (fun r=>Mk r.1 r.2.1):=by
 refine ao (G6 t) fun(p,c) hp=>aI (fun hc=>aq (.inr ⟨by simpa using hc,rfl⟩)) fun _=>ao (DP hp) fun(r,d) f=>aq f
theorem yP(c:Int):∃b,jI c=some b:=by
 unfold jI
 repeat' split
 all_goals exact⟨_,rfl⟩
theorem uB{l:XK}(hl:l.length≤4096):Ho (hH l) (fun _=>True):=by
 refine ao (P:=fun _=>True) (ao (P:=fun _=>True) (ao (P:=fun _=>True) (bH (fun i=>0≤i∧i≤(l.length:Int)) (fun i=>((l.length:Int) - i).toNat) ⟨Int.le_refl _,by omega⟩ fun i ⟨h1,h2⟩=>?_) ?_) fun _ _=>aq trivial) fun _ _=>aq trivial
 ·refine aI (fun hi=>?_) fun _=>aq trivial
  rw[dec_lt]at hi;refine aU ⟨h1,hi⟩ (aI (fun _=>aq trivial) fun _=>?_);rw[bU h1 (by omega)];exact aq ⟨⟨by(try simp only);omega,by(try simp only);omega⟩,by(try simp only);omega⟩
 ·rintro(_ | r) _
  ·exact aq trivial
  ·exact aq trivial
def Pt(x:QK×QK):Prop:=x.2.length=x.1.length+1∧x.1.length≤24
theorem FF{d:XK}(hd:d.length≤4096):Ho (rB d) (fun r=>r.2=true→Pt r.1):=by
 refine ao (uB hd) fun h _=>ao (P:=Lp (fun(l,v,n)=>v.length=l.length+1∧l.length≤d.length) fun r=>r.2=false) (bH (fun(l,v,_,n,i)=>0≤i∧i≤(d.length:Int)∧(l.length:Int)≤i∧v.length=l.length+1) (fun(_,_,_,_,i)=>((d.length:Int) - i).toNat) ⟨Int.le_refl _,by omega,Int.le_refl _,rfl⟩ fun(l,v,b,n,i) ⟨h1,h2,u,j⟩=>?_) ?_
 ·refine aI (fun hi=>?_) fun _=>aq ⟨j,by omega⟩
  rw[dec_lt]at hi;refine aU ⟨h1,hi⟩ (aI (fun _=>aq rfl) fun _=>ao (P:=fun _=>True) ?_ fun x _=>ao (P:=Lp (fun(l,v,_,n)=>(l.length:Int)≤i+1∧v.length=l.length+1) fun r=>r.2=false) ?_ ?_)
  ·refine aI (fun _=>aq trivial) fun _=>aI (fun _=>aq trivial) fun _=>aq trivial
  ·refine aI (fun _=>ao (P:=fun _=>True) ?_ fun p _=>aI (fun _=>aq rfl) fun _=>aU (by omega) (aU (by omega) (aI (fun _=>aU (by rw[List.length_set];omega) (aU (by rw[List.length_set];omega) (aq ⟨by(try simp only);omega,by simp only[List.length_set];exact j⟩))) fun _=>aq ⟨by(try simp only);omega,by simp only[List.length_set];exact j⟩))) fun _=>aI (fun _=>ao (P:=fun _=>True) ?_ fun p _=>aI (fun _=>aq rfl) fun _=>?_) fun _=>?_
   ·repeat' split
    all_goals exact aq trivial
   ·repeat' split
    all_goals exact aq trivial
   ·exact aU (by simp only[List.length_singleton];omega) (aU (by simp only[List.length_singleton];omega) (aq ⟨by simp only[List.length_append,List.length_singleton];omega,by simp only[List.length_append,List.length_singleton];omega⟩))
   ·exact aU (by simp only[List.length_singleton];omega) (aU (by simp only[List.length_singleton];omega) (aq ⟨by simp only[List.length_append,List.length_singleton];omega,by simp only[List.length_append,List.length_singleton];omega⟩))
  ·rintro(⟨z,A,q,B⟩ | ⟨r,q⟩) f
   ·dsimp only;rw[bU h1 (by omega)];exact aq ⟨⟨by(try simp only);omega,by(try simp only);omega,f.1,f.2⟩,by(try simp only);omega⟩
   ·exact aq f
 ·rintro(⟨l,v,n⟩ | ⟨r,b⟩) f
  ·refine ao (P:=fun b=>b=true→l.length≤24) (aI (fun _=>aq fun h=>?_) fun _=>aq fun h=>(by cases h)) fun b hb=>aq fun h=>⟨f.1,hb h⟩
   have:=of_decide_eq_true h;omega
  ·exact aq fun h=>by rw[show b=false from f]at h;cases h
theorem Cp{a b:QK}(ha:a.length≤1000000):Ho (cu a b) (fun r=>r=true→a.length=b.length):=by
 refine aI (fun _=>aq fun h=>by cases h) fun hl=>?_
 have f:a.length=b.length:=by simp only[bne_iff_ne,ne_eq,Decidable.not_not]at hl;omega
 refine ao (P:=fun _=>True) (bH (fun i=>0≤i∧i≤(a.length:Int)) (fun i=>((a.length:Int) - i).toNat) ⟨Int.le_refl _,by omega⟩ fun i ⟨h1,h2⟩=>?_) ?_
 ·refine aI (fun hi=>?_) fun _=>aq trivial
  rw[dec_lt]at hi;refine aU ⟨h1,hi⟩ (aU (by omega) (aI (fun _=>aq trivial) fun _=>?_));rw[bU h1 (by omega)];exact aq ⟨⟨by(try simp only);omega,by(try simp only);omega⟩,by(try simp only);omega⟩
 ·rintro(_ | r) _
  ·exact aq fun _=>f
  ·exact aq fun _=>f
def qC(l:List (QK×QK)):Prop:=l.length≤256∧∀x∈l,Pt x
theorem qC.nil:qC []:=⟨by decide,fun _ h=>by cases h⟩
theorem Da{l:List (QK×QK)}(hl:qC l)(a b:QK):Ho (mi l a b) (fun _=>True):=by
 have f:=hl.1;refine ao (P:=fun _=>True) (ao (P:=fun _=>True) (bH (fun i=>0≤i∧i≤(l.length:Int)) (fun i=>((l.length:Int) - i).toNat) ⟨Int.le_refl _,by omega⟩ fun i ⟨h1,h2⟩=>?_) ?_) fun _ _=>aq trivial
 ·refine aI (fun hi=>?_) fun _=>aq trivial
  rw[dec_lt]at hi;refine aU ⟨h1,hi⟩ (ao (P:=fun _=>True) (ao (P:=fun _=>True) (EB (Cp (by have:=(hl.2 _ (bS (i:=i.toNat) (by omega) ([],([]:QK)))).2;omega)) fun _ _=>trivial) fun _ _=>aq trivial) fun r _=>aI (fun _=>aq trivial) fun _=>?_);rw[bU h1 (by omega)];exact aq ⟨⟨by(try simp only);omega,by(try simp only);omega⟩,by(try simp only);omega⟩
 ·rintro(_ | r) _
  ·exact aq trivial
  ·exact aq trivial
theorem qC.snoc{l:List (QK×QK)}(h:qC l)(hl:l.length<256){x:QK×QK}(f:Pt x):qC (l++[x]):=⟨by simp only[List.length_append,List.length_singleton];omega,dW h.2 f⟩
theorem zR(t:QX):Ho (nK t) (fun r=>qC r.1.1∧qC r.1.2):=by
 refine aI (fun _=>aq ⟨qC.nil,qC.nil⟩) fun hl=>?_
 have B:(bZ t).length≤4096:=by
  have:(bZ t).length=t.length:=by simp[bZ]
  simp only[decide_eq_true_eq]at hl;omega
 obtain⟨s,e,hc,V⟩:=HW (b:=bZ t) (fun x M=>by
  obtain⟨y,_,rfl⟩:=List.mem_map.1 M;have:=y.toNat_lt;omega) B
 rw[e];refine ao (P:=Lp (fun r=>qC r.1∧qC r.2) fun r=>qC r.1.1∧qC r.1.2) (bH (fun(a,b,i)=>0≤i∧i≤(s.length:Int)∧a.length+b.length≤256∧qC a∧qC b) (fun(_,_,i)=>((s.length:Int) - i).toNat) ⟨Int.le_refl _,by omega,by decide,qC.nil,qC.nil⟩ fun(a,b,i) ⟨h1,h2,N,z,p⟩=>?_) ?_
 rotate_left
 ·rintro(⟨a,b⟩ | r) h
  ·exact aq h
  ·exact aq h
 refine aI (fun hi=>?_) fun _=>aq ⟨z,p⟩
 rw[dec_lt]at hi;obtain⟨c,f⟩:=yP (s.getD i.toNat (0,0,0)).1;refine aU ⟨h1,hi⟩ ?_;rw[f];refine aI (fun _=>?_) fun C=>?_
 ·rw[bU h1 (by omega)];exact aq ⟨⟨by(try simp only);omega,by(try simp only);omega,N,z,p⟩,by(try simp only);omega⟩
 have first:iter (ig s) i=iter (ig s) (i+1):=by refine fm ?_;unfold ig;rw[if_pos (by simpa using hi),if_pos ⟨h1,hi⟩,f];rw[bU h1 (by omega)];simp[C]
 rw[first];refine ao (P:=fun j=>i<j∧j≤(s.length:Int)) (bH (fun j=>i<j∧j≤(s.length:Int)) (fun j=>((s.length:Int) - j).toNat) ⟨by omega,by omega⟩ fun j ⟨J,g2⟩=>?_) fun j ⟨J,g2⟩=>?_
 ·refine ao (P:=fun b=>b=true→j<(s.length:Int)) (aI (fun D=>?_) fun _=>aq fun h=>(by cases h)) fun b hb=>aI (fun E=>?_) fun _=>aq ⟨J,g2⟩
  ·rw[dec_lt]at D;obtain⟨c,f⟩:=yP (s.getD j.toNat (0,0,0)).1;refine aU ⟨by omega,D⟩ ?_;rw[f];exact aq fun _=>D
  ·have:=hb E;rw[bU (by omega) (by omega)];exact aq ⟨⟨by(try simp only);omega,by(try simp only);omega⟩,by(try simp only);omega⟩
 ·refine aU ⟨h1,hi⟩ (aI (fun _=>aq ⟨qC.nil,qC.nil⟩) fun q=>aU ⟨h1,by omega,Int.le_refl _,g2⟩ ?_);rw[wrap_i64 (by omega) (by omega)]at q;have L:a.length+b.length<256:=by simp only[decide_eq_true_eq]at q;omega
  have u:((s.take j.toNat).drop i.toNat).length≤4096:=by simp only[List.length_drop,List.length_take];omega
  refine ao (FF u) fun(w,ok) O=>aI (fun _=>aq ⟨qC.nil,qC.nil⟩) fun I=>?_
  have v:Pt w:=O (by simpa using I);refine ao (uB u) fun h _=>ao (P:=Lp (fun(a,b)=>a.length+b.length≤256∧qC a∧qC b) fun r=>qC r.1.1∧qC r.1.2) ?_ ?_
  ·refine aI (fun _=>aU (by simp only[List.length_singleton];omega) (aq ⟨by simp only[List.length_append,List.length_singleton];omega,z.snoc (by omega) v,p⟩)) fun _=>ao (Da p _ _) fun r _=>aI (fun _=>aq ⟨qC.nil,qC.nil⟩) fun _=>aU (by simp only[List.length_singleton];omega) (aq ⟨by simp only[List.length_append,List.length_singleton];omega,z,p.snoc (by omega) v⟩)
  ·rintro(⟨X,Y⟩ | r) A
   ·exact aq ⟨⟨by(try simp only);omega,g2,A.1,A.2.1,A.2.2⟩,by(try simp only);omega⟩
   ·exact aq A
theorem EF(f:List Nd)(i:Nat):jq f i=f:=by
 refine List.ext_getElem (by simp) fun j h1 h2=>?_
 rw[List.getElem_set];split
 ·rename_i e;subst e;rw[List.getD_eq_getElem?_getD,List.getElem?_eq_getElem h2];rfl
 ·rfl
def TN(m:Nat)(j:List Nd):Prop:=∀f∈j,(∀p∈f.2.1,0≤p.2∧p.2<(m:Int))∧f.2.2.length≤25
theorem TN.mono{m n:Nat}{j:List Nd}(h:TN m j)(hm:m≤n):TN n j:=fun z hn=>⟨fun p hp=>by have:=(h z hn).1 p hp;omega,(h z hn).2⟩
theorem TN.set{m i:Nat}{f:List Nd}{x:Nd}(h:TN m f)(h1:∀p∈x.2.1,0≤p.2∧p.2<(m:Int))(h2:x.2.2.length≤25):TN m (f.set i x):=D9 h ⟨h1,h2⟩
section
variable{d:List (QK×QK)}(hd:qC d)
include hd
theorem JR{i:Int}(f:0≤i)(h:i<(d.length:Int)):Pt (d.getD i.toNat ([],[])):=hd.2 _ (bS (by omega) _)
theorem Gm{v:Int}(O:0≤v∧v<(d.length:Int)){u:List Nd}(hn:TN u.length u)(hp:0<u.length)(hl:u.length≤100000):
  Ho (iter (kP d v) (u,0,0)) (fun(q,k)=>(0≤k∧k<(q.length:Int))∧TN q.length q∧q.length≤u.length+24):=by
 have D:=JR hd O.1 O.2;generalize hx:d.getD v.toNat ([],[])=x at D;have a1:=D.2;refine EB (P:=fun(q,k)=>∃j:Int,j≤(x.1.length:Int)∧(0≤k∧k<(q.length:Int))∧TN q.length q∧(q.length:Int)≤u.length+j) (bH (fun(q,k,j)=>0≤j∧j≤(x.1.length:Int)∧(0≤k∧k<(q.length:Int))∧TN q.length q∧(q.length:Int)≤u.length+j) (fun(_,_,j)=>((x.1.length:Int) - j).toNat) ⟨Int.le_refl _,by omega,⟨Int.le_refl _,by omega⟩,hn,by omega⟩ fun(q,k,j) ⟨h1,h2,⟨E,J⟩,I,h6⟩=>?_) (fun(q,k) ⟨j,V,M,N,q4⟩=>⟨M,N,by(try simp only at q4 ⊢);omega⟩);unfold kP;simp only[EF,hx];refine aI (fun X=>?_) fun _=>aq ⟨j,h2,⟨E,J⟩,I,h6⟩
 rw[dec_lt]at X;have hk:k.toNat<q.length:=by omega
 refine aU ⟨h1,X⟩ (aU hk (aU ⟨E,J⟩ (ao (P:=fun(f,L)=>(0≤L∧L<(f.length:Int))∧TN f.length f∧(f.length:Int)≤u.length+(j+1)) ?_ ?_)))
 rotate_left
 ·rintro⟨f,L⟩ ⟨V,M,N⟩;dsimp only;rw[bU h1 (by omega)];exact aq ⟨⟨by(try simp only);omega,by(try simp only);omega,V,M,N⟩,by(try simp only);omega⟩
 have C:=I _ (bS hk Nd.z);generalize hy:q.getD k.toNat Nd.z=y at C;generalize hc:x.1.getD j.toNat 0=c;refine aI (fun _=>?_) fun Y=>?_
 rotate_left
 ·cases e:bg (α:=Int) (.int .i32) y.2.1 c with
  | none=>rw[e]at Y;exact absurd rfl Y
  | some t =>obtain⟨L,A⟩:=rZ e;exact aq ⟨C.1 _ A,I,by omega⟩
 refine aU hk (aU ⟨E,J⟩ (ao (P:=fun f=>f.length=q.length∧(f.getD k.toNat Nd.z).1=true∧TN q.length f) ?_ fun f ⟨g1,g2,g3⟩=>?_))
 ·refine aI (fun _=>aU ⟨E,J⟩ (aU hk (aq ⟨by simp,?_,I.set (fun p hp=>by cases hp) C.2⟩))) fun hb=>aq ⟨rfl,?_,I⟩
  ·rw[List.getD_eq_getElem?_getD,List.getElem?_set_self hk];rfl
  ·rw[hy];simpa using hb
 ·have A:k.toNat<f.length:=by omega
  have B:=g3 _ (bS A Nd.z);refine aU A (aU ⟨E,by omega⟩ (aU g2 (aU (by rw[List.length_set];omega) (aq ⟨?_,?_,?_⟩))))
  ·simp only[List.length_append,List.length_singleton,List.length_set];omega
  ·simp only[List.length_append,List.length_singleton,List.length_set];refine dW (P:=fun Z:Nd=>(∀p∈Z.2.1,0≤p.2∧p.2<((f.length+1:Nat):Int))∧Z.2.2.length≤25) (TN.set (g3.mono (by omega)) (fun p hp=>?_) B.2) ⟨fun p hp=>(by cases hp),by decide⟩;rcases mem_set hp with e | e
   ·rw[e];exact⟨by(try simp only);omega,by(try simp only);omega⟩
   ·have:=B.1 p e;omega
  ·simp only[List.length_append,List.length_singleton,List.length_set];omega
theorem Hs{v:Int}(I:0≤v∧v<(d.length:Int)){C:List Nd}(hn:TN C.length C){k:Int}(hk:0≤k∧k<(C.length:Int)):
  Ho (iter (kT d v k) (C,0)) (fun f=>TN f.length f∧f.length=C.length):=by
 have A:=JR hd I.1 I.2;generalize L:d.getD v.toNat ([],[])=x at A;have M:=A.2;have N:=A.1;refine bH (fun(f,j)=>0≤j∧j≤(x.2.length:Int)∧TN f.length f∧f.length=C.length∧j≤((f.getD k.toNat Nd.z).2.2.length:Int)) (fun(_,j)=>((x.2.length:Int) - j).toNat) ⟨Int.le_refl _,by omega,hn,rfl,by omega⟩ fun(f,j) ⟨h1,h2,D,O,Y⟩=>?_
 unfold kT;simp only[EF,L];refine aI (fun J=>?_) fun _=>aq ⟨D,O⟩
 rw[dec_lt]at J;have q:k.toNat<f.length:=by omega
 have E:=D _ (bS q Nd.z);refine aU ⟨h1,J⟩ (aU q (ao (P:=fun p=>p.length=f.length∧TN f.length p∧j<((p.getD k.toNat Nd.z).2.2.length:Int)) ?_ fun p ⟨V,g2,g3⟩=>?_))
 ·refine aI (fun hc=>?_) fun hc=>aq ⟨rfl,D,by simpa using hc⟩
  have X:((f.getD k.toNat Nd.z).2.2.length:Int)≤j:=by simpa using hc
  refine aU q (aU (by simp only[List.length_singleton];omega) (aq ⟨by simp,D.set E.1 (by simp only[List.length_append,List.length_singleton];omega),?_⟩));rw[List.getD_eq_getElem?_getD,List.getElem?_set_self q];simp only[Option.getD_some,List.length_append,List.length_singleton];omega
 ·have B:k.toNat<p.length:=by omega
  have u:=g2 _ (bS B Nd.z);refine aU B (aU ⟨h1,g3⟩ (aU (by omega) (aU ⟨h1,g3⟩ (aU (by omega) ?_))));rw[bU h1 (by omega)];refine aq ⟨⟨by(try simp only);omega,by(try simp only);omega,?_,by simp only[List.length_set];omega,?_⟩,by(try simp only);omega⟩
  ·simp only[List.length_set,V];exact g2.set u.1 (by simp only[List.length_set];exact u.2)
  ·simp only;rw[List.getD_eq_getElem?_getD,List.getElem?_set_self B];simp only[Option.getD_some,List.length_set];omega
def MT(t:Option HY):Prop:=∀x,t=some x→0<x.1.length∧∀f∈x.1,(∀p∈f.1,0≤p.2∧p.2<(x.1.length:Int))∧f.2.length≤25
theorem A3:Ho (pH d) (fun t=>t.isSome=true∧MT t):=by
 have hl:=hd.1;refine aU (by decide) (ao (P:=fun f=>0<f.length∧TN f.length f) (bH (fun(f,i)=>0≤i∧i≤(d.length:Int)∧0<f.length∧TN f.length f∧(f.length:Int)≤1+24*i) (fun(_,i)=>((d.length:Int) - i).toNat) ⟨Int.le_refl _,by omega,by decide,fun v h=>?_,by decide⟩ fun(f,i) ⟨h1,h2,q,u,E⟩=>?_) fun f ⟨h1,h2⟩=>aq ⟨rfl,fun x z=>?_⟩)
 ·cases List.mem_singleton.1 h;exact⟨fun p hp=>(by cases hp),by decide⟩
 ·refine aI (fun hi=>?_) fun _=>aq ⟨q,u⟩
  rw[dec_lt]at hi;refine aU ⟨h1,hi⟩ (ao (Gm hd ⟨h1,hi⟩ u q (by omega)) fun(A,k) ⟨j,B,I⟩=>aU j (ao (Hs hd ⟨h1,hi⟩ B j) fun J ⟨C,L⟩=>?_));rw[bU h1 (by omega)];have:k<(A.length:Int):=j.2;exact aq ⟨⟨by(try simp only);omega,by(try simp only);omega,by(try simp only);omega,C,by(try simp only);omega⟩,by(try simp only);omega⟩
 ·cases z;refine⟨by simpa using h1,fun v hn=>?_⟩;obtain⟨y,D,rfl⟩:=List.mem_map.1 hn;simp only[List.length_map];exact h2 y D
end
theorem E9{t:Option HY}(ht:MT t){w:QK}(hw:w.length≤4096):Ho (fA t w) (fun v=>v.length=w.length+1):=by
 have A:i64.wrap ((w.length:Int)+1)=((w.length+1:Nat):Int):=bD (by omega);unfold fA;rw[A];refine aU ⟨by omega,by omega,by omega,by omega⟩ (aI (fun _=>aq (by simp)) fun X=>aU (by simp only[List.length_singleton];omega) (aU (by simp only[List.length_append,List.length_singleton];omega) ?_));cases t with
 | none=>exact absurd rfl X
 | some x =>
 obtain⟨x0,Y⟩:=ht x rfl;have f:((([46]:QK)++w)++([46]:QK)).length=w.length+2:=by simp
 refine ao (P:=fun v=>v.length=w.length+1) (bH (fun(v,i)=>0≤i∧i≤((w.length+2:Nat):Int)∧v.length=w.length+1) (fun(_,i)=>(((w.length+2:Nat):Int) - i).toNat) ⟨Int.le_refl _,by omega,by simp⟩ fun(v,i) ⟨h1,h2,L⟩=>?_) fun v p=>aq p
 refine aI (fun hi=>?_) fun _=>aq L
 rw[dec_lt,f]at hi;refine ao (P:=fun v=>v.length=w.length+1) (bH (fun(v,k,j)=>(0≤k∧k<(x.1.length:Int))∧0≤j∧j≤((w.length+2:Nat):Int)∧v.length=w.length+1) (fun(_,_,j)=>(((w.length+2:Nat):Int) - j).toNat) ⟨⟨Int.le_refl _,by omega⟩,h1,by omega,L⟩ fun(v,k,j) ⟨⟨M,g2⟩,g3,g4,Z⟩=>?_) fun v p=>?_
 rotate_left
 ·rw[bU h1 (by omega)];exact aq ⟨⟨by(try simp only);omega,by(try simp only);omega,p⟩,by(try simp only);omega⟩
 have u:=Y _ (bS (i:=k.toNat) (by omega) ([],([]:QK)));refine(aU ⟨M,g2⟩ (ao (P:=fun v=>v.length=w.length+1) (bH (fun(v,l)=>0≤l∧l≤(((x.1.getD k.toNat ([],([]:QK))).2.length:Nat):Int)∧v.length=w.length+1) (fun(_,l)=>((((x.1.getD k.toNat ([],([]:QK))).2.length:Nat):Int) - l).toNat) ⟨Int.le_refl _,by omega,Z⟩ fun(v,l) ⟨N,e2,B⟩=>?_) fun v p=>?_))
 ·refine aI (fun hl=>?_) fun _=>aq B
  have C:l<(((x.1.getD k.toNat ([],([]:QK))).2.length:Nat):Int):=by simpa using hl
  have e4:=u.2;have e5:i64.wrap (i64.wrap (i+l) - 1)=i+l - 1:=by rw[wrap_i64 (x:=i+l) (by omega) (by omega),wrap_i64 (by omega) (by omega)]
  refine aU ⟨N,C⟩ ?_;rw[e5];refine ao (P:=fun b=>b=true→0≤i+l - 1∧i+l - 1<(v.length:Int)) (aI (fun ha=>aq fun hb=>⟨of_decide_eq_true ha,of_decide_eq_true hb⟩) fun _=>aq fun h=>(by cases h)) fun b hb=>ao (P:=fun v=>v.length=w.length+1) (aI (fun D=>?_) fun _=>aq B) fun v' E=>?_
  ·obtain⟨O,V⟩:=hb D;exact aU ⟨O,V⟩ (aU (by omega) (aU ⟨O,V⟩ (aU (by omega) (aq (by simpa using B)))))
  ·rw[bU N (by omega)];exact aq ⟨⟨by(try simp only);omega,by(try simp only);omega,E⟩,by(try simp only);omega⟩
 ·rw[f];refine aI (fun _=>aq p) fun I=>?_
  have z:j<((w.length+2:Nat):Int):=by simp only[beq_iff_eq]at I;omega
  refine aU rfl (aU ⟨M,g2⟩ (aU ⟨g3,z⟩ (aU (by omega) (aI (fun _=>aq p) fun hf=>?_))));rw[bU g3 (by omega)];refine aq ⟨⟨?_,by(try simp only);omega,by(try simp only);omega,p⟩,by(try simp only);omega⟩;show 0≤(bg (α:=Int) (.int .i32) (x.1.getD k.toNat ([],([]:QK))).1 _).getD 0∧(bg (α:=Int) (.int .i32) (x.1.getD k.toNat ([],([]:QK))).1 _).getD 0<_;cases e:bg (α:=Int) (.int .i32) (x.1.getD k.toNat ([],([]:QK))).1 (((([46]:QK)++w)++([46]:QK)).getD j.toNat 0)with
  | none=>exact⟨Int.le_refl _,by simp only[Option.getD_none];omega⟩
  | some q =>
   obtain⟨k',J⟩:=rZ e;exact u.1 _ J
def RH(h:Option Z3):Prop:=∀x,h=some x→x.1.length≤256∧MT x.2.1∧qC x.2.2.1∧(1≤x.2.2.2.1∧x.2.2.2.1≤24)∧1≤x.2.2.2.2∧x.2.2.2.2≤24
theorem HM{α:Type}(x:α):(some x).isSome=true:=rfl
theorem Lj{a b:Int}(j:0≤a)(h:a<b)(hb:b≤1000000):a≤(i64.wrap (Int.fdiv (u64.wrap (i64.wrap (a+b))) (2 ^ (min (1:Int).toNat u64.bits))))∧(i64.wrap (Int.fdiv (u64.wrap (i64.wrap (a+b))) (2 ^ (min (1:Int).toNat u64.bits))))<b:=by
 rw[wrap_i64 (x:=a+b) (by omega) (by omega),FI];have e:(a+b) % 18446744073709551616=a+b:=by omega
 rw[e];have f:(2:Int) ^ (min (1:Int).toNat u64.bits)=2:=by decide
 rw[f,Int.fdiv_eq_ediv_of_nonneg _ (by omega),wrap_i64 (by omega) (by omega)];omega
theorem CO{h:Option Z3}(p:RH h)(r:Int):Ho (dI h r) (fun _=>True):=by
 cases h with
 | none=>exact aq trivial
 | some x =>
 obtain⟨u,_⟩:=p x rfl;unfold dI;rw[if_neg (by simp),if_pos (HM x)];refine ao (P:=fun k=>0≤k∧k≤(x.1.length:Int)) (ao (P:=fun k=>0≤k∧k≤(x.1.length:Int)) (bH (fun(a,b)=>0≤a∧a≤b∧b≤(x.1.length:Int)) (fun(a,b)=>(b - a).toNat) ⟨Int.le_refl _,Int.natCast_nonneg _,Int.le_refl _⟩ fun(a,b) ⟨h1,h2,v⟩=>?_) fun k hk=>aq hk) fun k ⟨h1,h2⟩=>ao (P:=fun b=>b=false→k<(x.1.length:Int)) ?_ fun b hb=>aI (fun _=>aq trivial) fun q=>?_
 ·refine aI (fun f=>?_) fun _=>aq ⟨h1,by omega⟩
  rw[dec_lt]at f;obtain⟨z,A⟩:=Lj h1 f (by omega);refine aU (by decide) (ao (P:=fun _=>True) ?_ fun b _=>aI (fun _=>?_) fun _=>?_)
  ·unfold eg;rw[if_pos (HM x)];exact aU ⟨by omega,by simp only[Option.getD_some];omega⟩ (aq trivial)
  ·rw[bU (by omega) (by omega)];exact aq ⟨⟨by(try simp only);omega,by(try simp only);omega,by(try simp only);omega⟩,by(try simp only);omega⟩
  ·exact aq ⟨⟨by(try simp only);omega,by(try simp only);omega,by(try simp only);omega⟩,by(try simp only);omega⟩
 ·rw[if_pos (HM x)];refine aI (fun _=>aq fun h=>by cases h) fun j=>?_
  have f:k<(x.1.length:Int):=by simp only[Option.getD_some,beq_iff_eq]at j;omega
  rw[if_pos (HM x)];exact aU ⟨h1,f⟩ (aq fun _=>f)
 ·have f:=hb (by simpa using q);rw[if_pos (HM x)];refine aU ⟨h1,f⟩ ?_;rw[if_pos (HM x)];exact aU ⟨h1,f⟩ (aq trivial)
theorem AE{l:List (QK×QK)}(hl:qC l)(w:QK):Ho (iZ l w) (fun r=>0≤r→r<(l.length:Int)∧(l.getD r.toNat ([],[])).2.length=w.length+1):=by
 have p:=hl.1;refine ao (P:=Lp (fun _=>True) fun r=>0≤r→r<(l.length:Int)∧(l.getD r.toNat ([],[])).2.length=w.length+1) (bH (fun i=>0≤i∧i≤(l.length:Int)) (fun i=>((l.length:Int) - i).toNat) ⟨Int.le_refl _,by omega⟩ fun i ⟨h1,h2⟩=>?_) ?_
 ·refine aI (fun hi=>?_) fun _=>aq trivial
  rw[dec_lt]at hi;have f:=hl.2 _ (bS (i:=i.toNat) (by omega) ([],([]:QK)));refine aU ⟨h1,hi⟩ (ao (P:=fun r=>r=true→(l.getD i.toNat ([],([]:QK))).1.length=w.length) (ao (Cp (by have:=f.2;omega)) fun r j=>aq j) fun r j=>aI (fun ht=>aq fun _=>⟨hi,by rw[f.1,j ht]⟩) fun _=>?_);rw[bU h1 (by omega)];exact aq ⟨⟨by(try simp only);omega,by(try simp only);omega⟩,by(try simp only);omega⟩
 ·rintro(_ | r) h
  ·exact aq fun h=>absurd h (by decide)
  ·exact aq h
theorem Ia{h:Option Z3}(u:RH h){w:QK}(z:w.length≤4096):Ho (eM h w) (fun r=>r.length=w.length+1):=by
 have j:i64.wrap ((w.length:Int)+1)=((w.length+1:Nat):Int):=bD (by omega);unfold eM;rw[j];refine aU ⟨by omega,by omega,by omega,by omega⟩ (aI (fun _=>aq (by simp)) fun A=>?_);cases h with
 | none=>exact absurd rfl A
 | some x =>
 obtain⟨_,B,C,⟨I,_⟩,J,L⟩:=u x rfl;rw[if_pos (HM x)];refine ao (E9 B z) fun v p=>?_
 rw[if_pos (HM x)];refine ao (AE C w) fun r q=>ao (P:=fun v=>v.length=w.length+1) ?_ fun v p=>?_
 ·refine aI (fun D=>?_) fun _=>aq p
  have f:0≤r:=of_decide_eq_true D;rw[if_pos (HM x)];exact aU ⟨f,(q f).1⟩ (aq (q f).2)
 ·rw[if_pos (HM x)];refine ao (P:=fun o=>o.length=w.length+1) (bH (fun(o,i)=>0≤i∧o.length=w.length+1) (fun(_,i)=>((w.length:Int)+1 - i).toNat) ⟨by simp only[Option.getD_some];omega,by simp⟩ fun(o,i) ⟨h1,h2⟩=>?_) fun o ho=>aq ho
  unfold gC;dsimp only;rw[if_pos (HM x)];refine aI (fun hi=>?_) fun _=>aq h2
  have E:i≤(w.length:Int) - x.2.2.2.2:=by have:=of_decide_eq_true hi;simp only[Option.getD_some]at this;rwa [wrap_i64 (by omega) (by omega)]at this
  refine aU ⟨h1,by omega⟩ (aU (by decide) (aU ⟨h1,by omega⟩ (aU (by omega) ?_)));rw[bU h1 (by omega)];exact aq ⟨⟨by(try simp only);omega,by simpa using h2⟩,by(try simp only);omega⟩
theorem FY{h:Option Z3}(q:RH h){l:XK}(hl:l.length≤4096):Ho (dF h l) (fun _=>True):=by
 have f:i64.wrap ((l.length:Int)+1)=((l.length+1:Nat):Int):=bD (by omega);unfold dF;rw[f];refine aU ⟨by omega,by omega,by omega,by omega⟩ (ao (P:=fun _=>True) (bH (fun(o,i)=>0≤i∧o.length=l.length+1) (fun(_,i)=>((l.length:Int)+1 - i).toNat) ⟨Int.le_refl _,by simp⟩ fun(o,i) ⟨h1,h2⟩=>?_) fun _ _=>aq trivial);refine aI (fun hi=>?_) fun _=>aq trivial
 rw[dec_lt]at hi;refine ao (P:=fun(j,w)=>i≤j∧j≤(l.length:Int)∧(w.length:Int)=j - i) (bH (fun(j,w)=>i≤j∧j≤(l.length:Int)∧(w.length:Int)=j - i) (fun(j,_)=>((l.length:Int) - j).toNat) ⟨Int.le_refl _,by omega,by simp⟩ fun(j,w) ⟨p,g2,g3⟩=>?_) fun(j,w) ⟨p,g2,g3⟩=>?_
 ·refine aI (fun u=>?_) fun _=>aq ⟨p,g2,g3⟩
  rw[dec_lt]at u;refine aU ⟨by omega,u⟩ (ao (CO q _) fun(c,ok) _=>aI (fun _=>aq ⟨p,g2,g3⟩) fun _=>aU (by simp only[List.length_singleton];omega) ?_);rw[bU (by omega) (by omega)];exact aq ⟨⟨by(try simp only);omega,by(try simp only);omega,by simp only[List.length_append,List.length_singleton];omega⟩,by(try simp only);omega⟩
 ·refine aU ⟨h1,by omega⟩ (ao (Ia q (by omega)) fun r v=>aU ⟨by decide,by omega,by omega⟩ ?_);rw[bU (by omega) (by omega)];refine aq ⟨⟨by(try simp only);omega,?_⟩,by(try simp only);omega⟩;simp only[List.length_append,List.length_take,List.length_drop];omega
theorem zi(l:XK):Ho (nP l) (fun b=>b=true→l.length≤256):=by
 refine aI (fun _=>aq fun h=>by cases h) fun hl=>?_
 have f:l.length≤256:=by simp only[decide_eq_true_eq]at hl;omega
 refine ao (P:=fun _=>True) (bH (fun(_,i)=>0≤i∧i≤(l.length:Int)) (fun(_,i)=>((l.length:Int) - i).toNat) ⟨Int.le_refl _,by omega⟩ fun(q,i) ⟨h1,h2⟩=>?_) ?_
 ·refine aI (fun hi=>?_) fun _=>aq trivial
  rw[dec_lt]at hi;refine aU ⟨h1,hi⟩ (ao (P:=fun _=>True) ?_ fun b _=>aI (fun _=>aq trivial) fun _=>?_)
  ·repeat' split
   all_goals exact aq trivial
  ·rw[bU h1 (by omega)];exact aq ⟨⟨by(try simp only);omega,by(try simp only);omega⟩,by(try simp only);omega⟩
 ·rintro(_ | r) _
  ·exact aq fun _=>f
  ·exact aq fun _=>f
theorem DE(t:QX)(l:XK)(a b:Int):Ho (m5 t l a b) (fun r=>r.2.1=0∧RH r.1∨r.2.1≠0∧r.1=none):=by
 refine ao (zi l) fun ok f=>aI (fun _=>aq (.inr ⟨by decide,rfl⟩)) fun hk=>ao (P:=fun c=>c=false→(1≤a∧a≤24)∧1≤b∧b≤24) ?_ fun c hc=>aI (fun _=>aq (.inr ⟨by decide,rfl⟩)) fun j=>ao (zR t) fun(p,c) hp=>aI (fun h=>aq (.inr ⟨by simpa using h,rfl⟩)) fun _=>?_
 ·refine aI (fun _=>aq fun h=>by cases h) fun h1=>aI (fun _=>aq fun h=>by cases h) fun h2=>aI (fun _=>aq fun h=>by cases h) fun q=>aq fun u=>?_
  simp only[decide_eq_true_eq,decide_eq_false_iff_not]at h1 h2 q u;omega
 ·have hl:=f (by simpa using hk);refine ao (P:=fun r=>r=l) ?_ fun r v=>ao (A3 hp.1) fun t ⟨_,ht⟩=>aq (.inl ⟨rfl,fun x z=>?_⟩)
  ·refine aI (fun h=>aq (List.isEmpty_iff.1 h).symm) fun _=>aU (by simp only[List.length_nil];omega) (aq rfl)
  ·cases z;subst v;exact⟨hl,ht,hp.2,hc (by simpa using j)⟩
structure RB(b:Option Z1):Prop where
 para:∀x,Bytes x→x.length≤4096→∃p,aZ b x=some (p,0)∧PM (x.length:Int) p
 MS:∀x:QK,4096<x.length→aZ b x=some (([],[]),3)
theorem LU{v z:Z5}{L M:Nat}{A B q:Option Ae}{C D N:Int→Int}{h:Option Z3}(h1:Mo v L)(h2:Mo z M)(O:ot A C)(g2:ot B D)(g3:ot q N)(V:RH h):RB (some (some v,some z,A,B,q,h)) where
 para x hb hl:=by
  obtain⟨s,X,hc,Y⟩:=HW hb hl;have hr:=hc.range;have p:s.length≤4096:=by omega
  obtain⟨o1,Z,a1⟩:=ye h1 (w:=s.map fun x=>C x.1) (by simpa using p);obtain⟨o2,e3,E⟩:=ye h2 (w:=s.map fun x=>D x.1) (by simpa using p);rw[List.length_map]at E;obtain⟨I,e6,_⟩:=FY V p;obtain⟨⟨cl,st⟩,e4,f⟩:=E1 g3 hc (by omega) o1;simp only at f;obtain⟨o,e5,J⟩:=Gt p E I (st:=st) (by have:=f.len;have:=f.le;omega) (fun i hi=>f.at_ i hi) (fun h=>f.zero (by have:=f.len;omega));rw[f.len]at J;have a2:=f.le;refine⟨(cl,o),?_,⟨f.KD,by simp only;omega,fun h=>f.some_ (by omega),J⟩⟩;have j:¬((x.length:Int) > 4096):=by omega
  have u:gz s o1 o2 I q=some (cl,o):=by unfold gz lS;simp only[e4,Option.bind];rw[if_pos (by have:=f.len;simp;omega)];simp only[e5]
  unfold aZ;simp only[Option.getD,Option.isNone,Option.isSome,j,decide_false,Bool.false_eq_true,if_false,if_true,Option.bind,X,ED O p,ED g2 p,Z,e3,e6,u]
 MS x hx:=by
  have j:(x.length:Int) > 4096:=by omega
  unfold aZ;simp only[Option.isNone,Bool.false_eq_true,if_false,j,decide_true,if_true]
theorem oL(l:XK)(j:Int):Ho (fX l j) (fun r=>r.2=0∧(∃f,ot r.1 f)∨r.2≠0):=by
 rcases ui l j with⟨e,_⟩ | ⟨t,e,_,h⟩
 ·exact⟨_,e,.inr (by decide)⟩
 ·exact⟨_,e,.inl ⟨rfl,_,h⟩⟩
theorem Ec{m:Option Z5}:Ho (ck m) (fun _=>True):=by
 cases m with
 | none=>exact aq trivial
 | some x=>exact⟨_,rfl,trivial⟩
theorem CL(v x z A:XK)(B C D:QX)(E I:Int):Ho (jT v x z A B C D E I) (fun r=>r.2.1=0∧RB r.1∨r.2.1≠0∧r.1=none):=by
 refine ao (vZ B) fun(m1,M) f=>aI (fun h=>aq (.inr ⟨by simpa using h,rfl⟩)) fun h1=>ao (vZ C) fun(m2,N) j=>aI (fun h=>aq (.inr ⟨by simpa using h,rfl⟩)) fun h2=>ao Ec fun O _=>ao Ec fun V _=>aU (by decide) (ao (oL v O) fun(t1,X) p=>aI (fun h=>aq (.inr ⟨by simpa using h,rfl⟩)) fun Y=>aU (by decide) (ao (oL x V) fun(t2,Z) q=>aI (fun h=>aq (.inr ⟨by simpa using h,rfl⟩)) fun h4=>aU (by decide) (ao (oL z 3) fun(t3,e3) u=>aI (fun h=>aq (.inr ⟨by simpa using h,rfl⟩)) fun h5=>ao (DE D A E I) fun(hy,e4) hh=>aI (fun h=>aq (.inr ⟨by simpa using h,rfl⟩)) fun h6=>aq (.inl ⟨rfl,?_⟩))))
 have z1:M.1=0:=by simpa using h1
 have z2:N.1=0:=by simpa using h2
 have z3:X=0:=by simpa using Y
 have z4:Z=0:=by simpa using h4
 have z5:e3=0:=by simpa using h5
 have z6:e4.1=0:=by simpa using h6
 obtain⟨_,x1,J,r1,_⟩:=f.resolve_right fun h=>h.1 z1
 obtain⟨_,x2,L,r2,_⟩:=j.resolve_right fun h=>h.1 z2
 obtain⟨_,f1,g1⟩:=p.resolve_right fun h=>h z3
 obtain⟨_,f2,g2⟩:=q.resolve_right fun h=>h z4
 obtain⟨_,f3,g3⟩:=u.resolve_right fun h=>h z5
 obtain⟨_,rh⟩:=hh.resolve_right fun h=>h.1 z6
 simp only at J L;rw[J,L];exact LU r1 r2 g1 g2 g3 rh
def NZ(b:Option Z1):Prop:=∀x,aZ b x=aZ Ng x
theorem Li:∃b,jT [] ka mg [] H4 G1 [] 2 2=some (b,0,0)∧NZ b:=by
 obtain⟨q,u,v,e,f,j,p⟩:=L7;exact⟨_,e,Ko f j p⟩
theorem pb{j f u v x:Int}{z:QJ}(h:iA j f u v x z=some true):1≤f∧f≤64:=by
 unfold iA at h;by_cases h1:j≥1
 case neg=>simp[h1]at h
 by_cases h2:j≤1048576
 case neg=>simp[h1,h2]at h
 by_cases p:f≥1
 case neg=>simp[h1,h2,p]at h
 by_cases q:f≤64
 case neg=>simp[h1,h2,p,q]at h
 exact⟨p,q⟩
structure N3(b:Option Z1)(c:Wy)(x:QK)(p:Qw×QK)(kn:Kn):Prop where
 Lw:Bytes x
 len:x.length≤4096
 para:aZ b x=some (p,0)
 pm:PM (x.length:Int) p
 wy:vP c
 N2:Lo c kn
theorem zt(l:QX):Bytes (bZ l):=fun x f=>by
 unfold bZ at f;obtain⟨b,_,rfl⟩:=List.mem_map.1 f;have:=b.toNat_lt;omega
end
end Go.Proofs.YtobbjfkfmdiklaaGreatDoor.T
