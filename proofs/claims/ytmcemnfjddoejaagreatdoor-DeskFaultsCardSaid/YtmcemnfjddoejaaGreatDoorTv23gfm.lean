import Derived.Test.YtmcemnfjddoejaaGreatDoorTv23gdm
import Derived.Test.YtmcemnfjddoejaaGreatDoorTv23fm
import Derived.Lib.TrailingZeros
namespace Go.Proofs.YtmcemnfjddoejaaGreatDoor.T
open Go Go.Tv Go.Proofs
noncomputable section
theorem Kp:∀i,i<32→K6.getD i 0=((Lib.deBruijn32tab.getD i 0:Nat):Int):=by decide +kernel
theorem M0{n m:Nat}(A:m≤24)(p:0<n)(hn:n<2 ^ m):0≤qy (n:Int)∧qy (n:Int)<(m:Int):=by
 have f:2 ^ m≤2 ^ 24:=Nat.pow_le_pow_right (by decide) A;have c:n<2 ^ 32:=Nat.lt_of_lt_of_le hn (Nat.le_trans f (by decide));obtain⟨u,v⟩:=Lib.lowest_bit 32 n (by omega) c;have B:Lib.ctz 32 n=Lib.ctzFrom 32 n:=by simp[Lib.ctz,Nat.ne_of_gt p]
 obtain⟨q,j,_⟩:=Lib.ctzFrom_spec 32 n (by omega) c;rw[←B]at j;generalize Lib.ctz 32 n=k at u v j;have hk:k<m:=by
  rcases Nat.lt_or_ge k m with h | h
  ·exact h
  ·have J:2 ^ m≤2 ^ k:=Nat.pow_le_pow_right (by decide) h;have x:2 ^ k≤n:=Nat.le_of_dvd p (by rw[j];exact Nat.dvd_mul_right _ _);omega
 have hb:bits BinOp.and IntKind.u32 (n:Int) (-(n:Int) % 4294967296)=((2 ^ k:Nat):Int):=by
  have C : -(n:Int) % 4294967296=((2 ^ 32 - n:Nat):Int):=by
   have e:(2:Nat) ^ 32=4294967296:=by decide
   omega
  rw[C];have D:HC (n:Int):=⟨by omega,by omega⟩;have x:HC ((2 ^ 32 - n:Nat):Int):=by
   have e:(2:Nat) ^ 32=4294967296:=by decide
   exact⟨by omega,by omega⟩
  have:=FX D x;rw[Int.toNat_natCast,Int.toNat_natCast,u]at this;exact this
 obtain⟨E,I⟩:=Lib.deBruijn32_at k v;have key:qy (n:Int)=(k:Int):=by
  unfold qy;rw[if_neg (by rw[beq_iff_eq];omega),hb];have e:(((2 ^ k:Nat):Int)*125613361 % 4294967296 / 134217728).toNat=2 ^ k*125613361 % 4294967296 / 134217728:=by generalize (2 ^ k:Nat)=q;rw[show((q:Nat):Int)*125613361=((q*125613361:Nat):Int) by rw[Int.natCast_mul];rfl];generalize q*125613361=z;omega
  rw[e,Kp _ E,I]
 rw[key];exact⟨by omega,by omega⟩
theorem FD:∀(n f:Nat) (x:Tree),n≤f→Dp n x→Ho (lj f x.op x.set x.kids) (Dp n)
 | 0,_,_,_,h=>h.elim
 | n+1,0,_,hl,_=>absurd hl (by omega)
 | n+1,f+1,.node o s p,hl,h=>by
  obtain⟨hk,q⟩:=h;have u:=fun(i:Nat) (hi:i<p.length)=>FD n f _ (by omega) (Dp.getD q hi (Tree.node 0 0 []))
  simp only[lj,Tree.op,Tree.set,Tree.kids];unfold my;refine aq (P:=fun l=>l.length≤1000000∧∀k∈l,Dp n k) (bF (fun(l,i)=>0≤i∧i≤(p.length:Int)∧(l.length:Int)=i∧∀k∈l,Dp n k) (fun(_,i)=>((p.length:Int) - i).toNat) ⟨Int.le_refl _,by simp,rfl,fun k hk=>by cases hk⟩ fun(l,i) ⟨v,B,C,z⟩=>?_) fun l hl=>av hl
  refine aK (fun hi=>?_) fun _=>av ⟨by omega,z⟩
  rw[dec_lt]at hi;refine aW ⟨v,hi⟩ (aq (P:=fun x=>∃j,j<p.length∧x=((p.getD j (Tree.node 0 0 [])).op,(p.getD j (Tree.node 0 0 [])).set,(p.getD j (Tree.node 0 0 [])).kids)) ?_ ?_)
  ·refine aK (fun _=>?_) fun _=>av ⟨i.toNat,by omega,rfl⟩
   rw[wrap_i64 (x:=(p.length:Int) - 1) (by omega) (by omega),wrap_i64 (by omega) (by omega)];exact aW (by omega) (av ⟨_,by omega,rfl⟩)
  ·rintro⟨a,b,c⟩ ⟨j,A,e⟩;cases e;refine aq (u j A) fun r u=>aW (by simp <;> omega) ?_
   rw[bQ v (by omega)];exact av ⟨⟨by(try simp only);omega,by(try simp only);omega,by simp <;> omega,dZ z (by rw[uD];exact u)⟩,by(try simp only);omega⟩
theorem WB.wa{nx:QZ}{ou:QK}{k m:Nat}(h:WB nx ou k m)(e:0<nx.length):WA nx k:=by
 refine⟨e,fun i hi=>by rw[(h.row hi).1];exact Nat.le_refl _,fun i c hi j=>?_⟩;obtain⟨p,f⟩:=h.row hi;exact f _ (bS (by omega) 0)
def Mk(m:Option Z6)(c:Int):Prop:=(c=0∧∃x,m=some x∧Mo x x.1.1.length∧x.1.1.length≤24)∨(c≠0∧m=none)
theorem EV{f:QQ}{O V:Int}{tr:QK}{e:XJ}(h:FF f tr e):Ho (sK f O V tr e) (fun r=>Mk r.1 r.2):=by
 refine aK (fun _=>av (.inr ⟨by decide,rfl⟩)) fun X=>?_
 have A:0<f.length:=by simp only[beq_iff_eq]at X;omega
 have j:=h.rl;refine aq (P:=fun(a,b)=>(a.length=e.length∧b.length=e.length)∧(∀x∈a,Dp 100 x)∧∀x∈b,Dp 100 x) (bF (fun(a,b,i)=>0≤i∧i≤(e.length:Int)∧((a.length:Int)=i∧(b.length:Int)=i)∧(∀x∈a,Dp 100 x)∧∀x∈b,Dp 100 x) (fun(_,_,i)=>((e.length:Int) - i).toNat) ⟨Int.le_refl _,by omega,⟨rfl,rfl⟩,fun _ h=>(by cases h),fun _ h=>(by cases h)⟩ fun(a,b,i) ⟨J,h2,h3,L,M⟩=>?_) ?_
 ·refine aK (fun hi=>?_) fun hi=>av ⟨by rw[dec_lt]at hi;omega,L,M⟩
  rw[dec_lt]at hi;obtain⟨_,B,C⟩:=h.rk _ (bS (i:=i.toNat) (by omega) (0,(Tree.node 0 0 []),(Tree.node 0 0 [])));refine aW ⟨J,hi⟩ (aW (by simp <;> omega) (aq (FD 100 1000 _ (by omega) C) fun r D=>aW (by simp <;> omega) ?_));rw[bQ J (by omega)];exact av ⟨⟨by(try simp only);omega,by(try simp only);omega,by simp <;> omega,dZ L (by rw[uD];exact B),dZ M (by rw[uD];exact D)⟩,by(try simp only);omega⟩
 rintro⟨a,b⟩ ⟨⟨Y,Z⟩,a2,b2⟩;refine aq (vl a2 f.length) fun(r,c) D=>aK (fun E=>av (.inr ⟨by simpa using E,rfl⟩)) fun E=>?_
 obtain⟨r1,r2⟩:=D (by simpa using E);refine aq (vl b2 f.length) fun(q,d) hq=>aK (fun hd=>av (.inr ⟨by simpa using hd,rfl⟩)) fun hd=>?_
 obtain⟨B,C⟩:=hq (by simpa using hd);refine aq (sU r2 r1 h.Mq) fun(v,v') hv=>aq (sU C B h.Mq) fun(u,u') hu=>av (.inl ⟨rfl,_,rfl,?_,h.Mq⟩)
 obtain⟨v1,p⟩:=hv;obtain⟨u1,z⟩:=hu;rw[Y]at p;rw[Z]at z;refine⟨A,Nat.le_of_eq h.tl.symm,fun i hi=>h.tc _ (bS hi 0),p.wa v1.1,Nat.le_of_eq p.ol.symm,z.wa u1.1,Nat.le_of_eq z.ol.symm,fun s t N ht hb=>?_,KH fun x hx=>(h.rk x hx).1⟩;simp only at N ht hb ⊢;obtain⟨x0,x1⟩:=p.ob _ (bS (l:=v.2) (i:=s) (by rw[p.ol];exact N) 0);obtain⟨y0,y1⟩:=z.ob _ (bS (l:=u.2) (i:=t) (by rw[z.ol];exact ht) 0);generalize v.2.getD s 0=x at *;generalize u.2.getD t 0=y at *;have a3:2 ^ e.length≤2 ^ 24:=Nat.pow_le_pow_right (by decide) j;rw[FX ⟨x0,by omega⟩ ⟨y0,by omega⟩]at hb ⊢;have I:=Nat.and_lt_two_pow (n:=e.length) x.toNat (y:=y.toNat) (by omega);refine M0 j ?_ I;simp only[bne_iff_ne,ne_eq]at hb;omega
theorem xX(t:QX):Ho (iY t) (fun r=>Mk r.1 r.2.1):=by
 refine aq (Ip t) fun(p,c) e=>aK (fun f=>av (.inr ⟨by simpa using f,rfl⟩)) fun _=>aq (EV e) fun(r,d) j=>av j
theorem zC(c:Int):∃b,jy c=some b:=by
 unfold jy
 repeat' split
 all_goals exact⟨_,rfl⟩
theorem vw{l:XZ}(hl:l.length≤4096):Ho (hY l) (fun _=>True):=by
 refine aq (P:=fun _=>True) (aq (P:=fun _=>True) (aq (P:=fun _=>True) (bF (fun i=>0≤i∧i≤(l.length:Int)) (fun i=>((l.length:Int) - i).toNat) ⟨Int.le_refl _,by omega⟩ fun i ⟨c,e⟩=>?_) ?_) fun _ _=>av trivial) fun _ _=>av trivial
 ·refine aK (fun hi=>?_) fun _=>av trivial
  rw[dec_lt]at hi;refine aW ⟨c,hi⟩ (aK (fun _=>av trivial) fun _=>?_);rw[bQ c (by omega)];exact av ⟨⟨by(try simp only);omega,by(try simp only);omega⟩,by(try simp only);omega⟩
 ·rintro(_ | r) _
  ·exact av trivial
  ·exact av trivial
def Pt(x:QK×QK):Prop:=x.2.length=x.1.length+1∧x.1.length≤24
theorem G5{d:XZ}(hd:d.length≤4096):Ho (tg d) (fun r=>r.2=true→Pt r.1):=by
 refine aq (vw hd) fun h _=>aq (P:=Lp (fun(l,v,n)=>v.length=l.length+1∧l.length≤d.length) fun r=>r.2=false) (bF (fun(l,v,_,n,i)=>0≤i∧i≤(d.length:Int)∧(l.length:Int)≤i∧v.length=l.length+1) (fun(_,_,_,_,i)=>((d.length:Int) - i).toNat) ⟨Int.le_refl _,by omega,Int.le_refl _,rfl⟩ fun(l,v,b,n,i) ⟨f,q,u,e⟩=>?_) ?_
 ·refine aK (fun hi=>?_) fun _=>av ⟨e,by omega⟩
  rw[dec_lt]at hi;refine aW ⟨f,hi⟩ (aK (fun _=>av rfl) fun _=>aq (P:=fun _=>True) ?_ fun x _=>aq (P:=Lp (fun(l,v,_,n)=>(l.length:Int)≤i+1∧v.length=l.length+1) fun r=>r.2=false) ?_ ?_)
  ·refine aK (fun _=>av trivial) fun _=>aK (fun _=>av trivial) fun _=>av trivial
  ·refine aK (fun _=>aq (P:=fun _=>True) ?_ fun j _=>aK (fun _=>av rfl) fun _=>aW (by omega) (aW (by omega) (aK (fun _=>aW (by rw[List.length_set];omega) (aW (by rw[List.length_set];omega) (av ⟨by(try simp only);omega,by simp only[List.length_set];exact e⟩))) fun _=>av ⟨by(try simp only);omega,by simp only[List.length_set];exact e⟩))) fun _=>aK (fun _=>aq (P:=fun _=>True) ?_ fun j _=>aK (fun _=>av rfl) fun _=>?_) fun _=>?_
   ·repeat' split
    all_goals exact av trivial
   ·repeat' split
    all_goals exact av trivial
   ·exact aW (by simp <;> omega) (aW (by simp <;> omega) (av ⟨by simp <;> omega,by simp <;> omega⟩))
   ·exact aW (by simp <;> omega) (aW (by simp <;> omega) (av ⟨by simp <;> omega,by simp <;> omega⟩))
  ·rintro(⟨z,A,p,B⟩ | ⟨r,p⟩) c
   ·dsimp only;rw[bQ f (by omega)];exact av ⟨⟨by(try simp only);omega,by(try simp only);omega,c.1,c.2⟩,by(try simp only);omega⟩
   ·exact av c
 ·rintro(⟨l,v,n⟩ | ⟨r,b⟩) c
  ·refine aq (P:=fun b=>b=true→l.length≤24) (aK (fun _=>av fun h=>?_) fun _=>av fun h=>(by cases h)) fun b hb=>av fun h=>⟨c.1,hb h⟩
   have:=of_decide_eq_true h;omega
  ·exact av fun h=>by rw[show b=false from c]at h;cases h
theorem Dc{a b:QK}(ha:a.length≤1000000):Ho (cq a b) (fun r=>r=true→a.length=b.length):=by
 refine aK (fun _=>av fun h=>by cases h) fun hl=>?_
 have c:a.length=b.length:=by simp only[bne_iff_ne,ne_eq,Decidable.not_not]at hl;omega
 refine aq (P:=fun _=>True) (bF (fun i=>0≤i∧i≤(a.length:Int)) (fun i=>((a.length:Int) - i).toNat) ⟨Int.le_refl _,by omega⟩ fun i ⟨e,f⟩=>?_) ?_
 ·refine aK (fun hi=>?_) fun _=>av trivial
  rw[dec_lt]at hi;refine aW ⟨e,hi⟩ (aW (by omega) (aK (fun _=>av trivial) fun _=>?_));rw[bQ e (by omega)];exact av ⟨⟨by(try simp only);omega,by(try simp only);omega⟩,by(try simp only);omega⟩
 ·rintro(_ | r) _
  ·exact av fun _=>c
  ·exact av fun _=>c
def rN(l:List (QK×QK)):Prop:=l.length≤256∧∀x∈l,Pt x
theorem rN.nil:rN []:=⟨by decide,fun _ h=>by cases h⟩
theorem Fm{l:List (QK×QK)}(hl:rN l)(a b:QK):Ho (mz l a b) (fun _=>True):=by
 have e:=hl.1;refine aq (P:=fun _=>True) (aq (P:=fun _=>True) (bF (fun i=>0≤i∧i≤(l.length:Int)) (fun i=>((l.length:Int) - i).toNat) ⟨Int.le_refl _,by omega⟩ fun i ⟨c,f⟩=>?_) ?_) fun _ _=>av trivial
 ·refine aK (fun hi=>?_) fun _=>av trivial
  rw[dec_lt]at hi;refine aW ⟨c,hi⟩ (aq (P:=fun _=>True) (aq (P:=fun _=>True) (Fy (Dc (by have:=(hl.2 _ (bS (i:=i.toNat) (by omega) ([],([]:QK)))).2;omega)) fun _ _=>trivial) fun _ _=>av trivial) fun r _=>aK (fun _=>av trivial) fun _=>?_);rw[bQ c (by omega)];exact av ⟨⟨by(try simp only);omega,by(try simp only);omega⟩,by(try simp only);omega⟩
 ·rintro(_ | r) _
  ·exact av trivial
  ·exact av trivial
theorem rN.snoc{l:List (QK×QK)}(h:rN l)(hl:l.length<256){x:QK×QK}(c:Pt x):rN (l++[x]):=⟨by simp <;> omega,dZ h.2 c⟩
theorem Am(t:QX):Ho (nZ t) (fun r=>rN r.1.1∧rN r.1.2):=by
 refine aK (fun _=>av ⟨rN.nil,rN.nil⟩) fun hl=>?_
 have C:(cR t).length≤4096:=by
  have:(cR t).length=t.length:=by simp[cR]
  simp only[decide_eq_true_eq]at hl;omega
 obtain⟨s,e,X,Y⟩:=Jd (b:=cR t) (fun x N=>by
  obtain⟨y,_,rfl⟩:=List.mem_map.1 N;have:=y.toNat_lt;omega) C
 rw[e];refine aq (P:=Lp (fun r=>rN r.1∧rN r.2) fun r=>rN r.1.1∧rN r.1.2) (bF (fun(a,b,i)=>0≤i∧i≤(s.length:Int)∧a.length+b.length≤256∧rN a∧rN b) (fun(_,_,i)=>((s.length:Int) - i).toNat) ⟨Int.le_refl _,by omega,by decide,rN.nil,rN.nil⟩ fun(a,b,i) ⟨p,Z,O,A,q⟩=>?_) ?_
 rotate_left
 ·rintro(⟨a,b⟩ | r) h
  ·exact av h
  ·exact av h
 refine aK (fun hi=>?_) fun _=>av ⟨A,q⟩
 rw[dec_lt]at hi;obtain⟨c,f⟩:=zC (s.getD i.toNat (0,0,0)).1;refine aW ⟨p,hi⟩ ?_;rw[f];refine aK (fun _=>?_) fun D=>?_
 ·rw[bQ p (by omega)];exact av ⟨⟨by(try simp only);omega,by(try simp only);omega,O,A,q⟩,by(try simp only);omega⟩
 have first:iter (hU s) i=iter (hU s) (i+1):=by refine ga ?_;unfold hU;rw[if_pos (by simpa using hi),if_pos ⟨p,hi⟩,f];rw[bQ p (by omega)];simp[D]
 rw[first];refine aq (P:=fun j=>i<j∧j≤(s.length:Int)) (bF (fun j=>i<j∧j≤(s.length:Int)) (fun j=>((s.length:Int) - j).toNat) ⟨by omega,by omega⟩ fun j ⟨L,g2⟩=>?_) fun j ⟨L,g2⟩=>?_
 ·refine aq (P:=fun b=>b=true→j<(s.length:Int)) (aK (fun E=>?_) fun _=>av fun h=>(by cases h)) fun b hb=>aK (fun I=>?_) fun _=>av ⟨L,g2⟩
  ·rw[dec_lt]at E;obtain⟨c,f⟩:=zC (s.getD j.toNat (0,0,0)).1;refine aW ⟨by omega,E⟩ ?_;rw[f];exact av fun _=>E
  ·have:=hb I;rw[bQ (by omega) (by omega)];exact av ⟨⟨by(try simp only);omega,by(try simp only);omega⟩,by(try simp only);omega⟩
 ·refine aW ⟨p,hi⟩ (aK (fun _=>av ⟨rN.nil,rN.nil⟩) fun u=>aW ⟨p,by omega,Int.le_refl _,g2⟩ ?_);rw[wrap_i64 (by omega) (by omega)]at u;have M:a.length+b.length<256:=by simp only[decide_eq_true_eq]at u;omega
  have v:((s.take j.toNat).drop i.toNat).length≤4096:=by simp only[List.length_drop,List.length_take];omega
  refine aq (G5 v) fun(w,ok) V=>aK (fun _=>av ⟨rN.nil,rN.nil⟩) fun J=>?_
  have z:Pt w:=V (by simpa using J);refine aq (vw v) fun h _=>aq (P:=Lp (fun(a,b)=>a.length+b.length≤256∧rN a∧rN b) fun r=>rN r.1.1∧rN r.1.2) ?_ ?_
  ·refine aK (fun _=>aW (by simp <;> omega) (av ⟨by simp <;> omega,A.snoc (by omega) z,q⟩)) fun _=>aq (Fm q _ _) fun r _=>aK (fun _=>av ⟨rN.nil,rN.nil⟩) fun _=>aW (by simp <;> omega) (av ⟨by simp <;> omega,A,q.snoc (by omega) z⟩)
  ·rintro(⟨a',b'⟩ | r) B
   ·exact av ⟨⟨by(try simp only);omega,g2,B.1,B.2.1,B.2.2⟩,by(try simp only);omega⟩
   ·exact av B
theorem Fu(c:List Nd)(i:Nat):jm c i=c:=by
 refine List.ext_getElem (by simp) fun j p f=>?_
 rw[List.getElem_set];split
 ·rename_i e;subst e;rw[List.getD_eq_getElem?_getD,List.getElem?_eq_getElem f];rfl
 ·rfl
def TN(m:Nat)(e:List Nd):Prop:=∀c∈e,(∀p∈c.2.1,0≤p.2∧p.2<(m:Int))∧c.2.2.length≤25
theorem TN.mono{m n:Nat}{j:List Nd}(h:TN m j)(D:m≤n):TN n j:=fun z hn=>⟨fun p B=>by have:=(h z hn).1 p B;omega,(h z hn).2⟩
theorem TN.set{m i:Nat}{c:List Nd}{x:Nd}(h:TN m c)(e:∀p∈x.2.1,0≤p.2∧p.2<(m:Int))(f:x.2.2.length≤25):TN m (c.set i x):=FO h ⟨e,f⟩
section
variable{d:List (QK×QK)}(hd:rN d)
include hd
theorem KR{i:Int}(c:0≤i)(h:i<(d.length:Int)):Pt (d.getD i.toNat ([],[])):=hd.2 _ (bS (by omega) _)
theorem HQ{v:Int}(V:0≤v∧v<(d.length:Int)){u:List Nd}(hn:TN u.length u)(D:0<u.length)(hl:u.length≤100000):
  Ho (iter (kL d v) (u,0,0)) (fun(q,k)=>(0≤k∧k<(q.length:Int))∧TN q.length q∧q.length≤u.length+24):=by
 have E:=KR hd V.1 V.2;generalize hx:d.getD v.toNat ([],[])=x at E;have a1:=E.2;refine Fy (P:=fun(q,k)=>∃j:Int,j≤(x.1.length:Int)∧(0≤k∧k<(q.length:Int))∧TN q.length q∧(q.length:Int)≤u.length+j) (bF (fun(q,k,j)=>0≤j∧j≤(x.1.length:Int)∧(0≤k∧k<(q.length:Int))∧TN q.length q∧(q.length:Int)≤u.length+j) (fun(_,_,j)=>((x.1.length:Int) - j).toNat) ⟨Int.le_refl _,by omega,⟨Int.le_refl _,by omega⟩,hn,by omega⟩ fun(q,k,j) ⟨X,h2,⟨I,L⟩,J,h6⟩=>?_) (fun(q,k) ⟨j,Y,N,O,q4⟩=>⟨N,O,by(try simp only at q4 ⊢);omega⟩);unfold kL;simp only[Fu,hx];refine aK (fun Z=>?_) fun _=>av ⟨j,h2,⟨I,L⟩,J,h6⟩
 rw[dec_lt]at Z;have hk:k.toNat<q.length:=by omega
 refine aW ⟨X,Z⟩ (aW hk (aW ⟨I,L⟩ (aq (P:=fun(f,M)=>(0≤M∧M<(f.length:Int))∧TN f.length f∧(f.length:Int)≤u.length+(j+1)) ?_ ?_)))
 rotate_left
 ·rintro⟨f,M⟩ ⟨Y,N,O⟩;dsimp only;rw[bQ X (by omega)];exact av ⟨⟨by(try simp only);omega,by(try simp only);omega,Y,N,O⟩,by(try simp only);omega⟩
 have C:=J _ (bS hk Nd.z);generalize hy:q.getD k.toNat Nd.z=y at C;generalize hc:x.1.getD j.toNat 0=c;refine aK (fun _=>?_) fun hf=>?_
 rotate_left
 ·cases e:aU (α:=Int) (.int .i32) y.2.1 c with
  | none=>rw[e]at hf;exact absurd rfl hf
  | some t =>obtain⟨M,A⟩:=tX e;exact av ⟨C.1 _ A,J,by omega⟩
 refine aW hk (aW ⟨I,L⟩ (aq (P:=fun f=>f.length=q.length∧(f.getD k.toNat Nd.z).1=true∧TN q.length f) ?_ fun f ⟨g1,g2,g3⟩=>?_))
 ·refine aK (fun _=>aW ⟨I,L⟩ (aW hk (av ⟨by simp,?_,J.set (fun p D=>by cases D) C.2⟩))) fun hb=>av ⟨rfl,?_,J⟩
  ·rw[List.getD_eq_getElem?_getD,List.getElem?_set_self hk];rfl
  ·rw[hy];simpa using hb
 ·have A:k.toNat<f.length:=by omega
  have B:=g3 _ (bS A Nd.z);refine aW A (aW ⟨I,by omega⟩ (aW g2 (aW (by rw[List.length_set];omega) (av ⟨?_,?_,?_⟩))))
  ·simp only[List.length_append,List.length_singleton,List.length_set];omega
  ·simp only[List.length_append,List.length_singleton,List.length_set];refine dZ (P:=fun nd:Nd=>(∀p∈nd.2.1,0≤p.2∧p.2<((f.length+1:Nat):Int))∧nd.2.2.length≤25) (TN.set (g3.mono (by omega)) (fun p D=>?_) B.2) ⟨fun p D=>(by cases D),by decide⟩;rcases mem_set D with e | e
   ·rw[e];exact⟨by(try simp only);omega,by(try simp only);omega⟩
   ·have:=B.1 p e;omega
  ·simp only[List.length_append,List.length_singleton,List.length_set];omega
theorem IF{v:Int}(I:0≤v∧v<(d.length:Int)){A:List Nd}(hn:TN A.length A){k:Int}(hk:0≤k∧k<(A.length:Int)):
  Ho (iter (kQ d v k) (A,0)) (fun c=>TN c.length c∧c.length=A.length):=by
 have q:=KR hd I.1 I.2;generalize L:d.getD v.toNat ([],[])=x at q;have M:=q.2;have N:=q.1;refine bF (fun(c,j)=>0≤j∧j≤(x.2.length:Int)∧TN c.length c∧c.length=A.length∧j≤((c.getD k.toNat Nd.z).2.2.length:Int)) (fun(_,j)=>((x.2.length:Int) - j).toNat) ⟨Int.le_refl _,by omega,hn,rfl,by omega⟩ fun(c,j) ⟨B,Y,C,O,Z⟩=>?_
 unfold kQ;simp only[Fu,L];refine aK (fun J=>?_) fun _=>av ⟨C,O⟩
 rw[dec_lt]at J;have f:k.toNat<c.length:=by omega
 have D:=C _ (bS f Nd.z);refine aW ⟨B,J⟩ (aW f (aq (P:=fun e=>e.length=c.length∧TN c.length e∧j<((e.getD k.toNat Nd.z).2.2.length:Int)) ?_ fun e ⟨V,g2,g3⟩=>?_))
 ·refine aK (fun E=>?_) fun E=>av ⟨rfl,C,by simpa using E⟩
  have X:((c.getD k.toNat Nd.z).2.2.length:Int)≤j:=by simpa using E
  refine aW f (aW (by simp only[List.length_singleton];omega) (av ⟨by simp,C.set D.1 (by simp only[List.length_append,List.length_singleton];omega),?_⟩));rw[List.getD_eq_getElem?_getD,List.getElem?_set_self f];simp only[Option.getD_some,List.length_append,List.length_singleton];omega
 ·have u:k.toNat<e.length:=by omega
  have p:=g2 _ (bS u Nd.z);refine aW u (aW ⟨B,g3⟩ (aW (by omega) (aW ⟨B,g3⟩ (aW (by omega) ?_))));rw[bQ B (by omega)];refine av ⟨⟨by(try simp only);omega,by(try simp only);omega,?_,by simp only[List.length_set];omega,?_⟩,by(try simp only);omega⟩
  ·simp only[List.length_set,V];exact g2.set p.1 (by simp only[List.length_set];exact p.2)
  ·simp only;rw[List.getD_eq_getElem?_getD,List.getElem?_set_self u];simp only[Option.getD_some,List.length_set];omega
def Og(t:Option Ia):Prop:=∀x,t=some x→0<x.1.length∧∀c∈x.1,(∀p∈c.1,0≤p.2∧p.2<(x.1.length:Int))∧c.2.length≤25
theorem Cq:Ho (qk d) (fun t=>t.isSome=true∧Og t):=by
 have hl:=hd.1;refine aW (by decide) (aq (P:=fun c=>0<c.length∧TN c.length c) (bF (fun(c,i)=>0≤i∧i≤(d.length:Int)∧0<c.length∧TN c.length c∧(c.length:Int)≤1+24*i) (fun(_,i)=>((d.length:Int) - i).toNat) ⟨Int.le_refl _,by omega,by decide,fun v h=>?_,by decide⟩ fun(c,i) ⟨e,j,q,u,I⟩=>?_) fun c ⟨e,j⟩=>av ⟨rfl,fun x z=>?_⟩)
 ·cases List.mem_singleton.1 h;exact⟨fun p A=>(by cases A),by decide⟩
 ·refine aK (fun hi=>?_) fun _=>av ⟨q,u⟩
  rw[dec_lt]at hi;refine aW ⟨e,hi⟩ (aq (HQ hd ⟨e,hi⟩ u q (by omega)) fun(B,k) ⟨f,C,J⟩=>aW f (aq (IF hd ⟨e,hi⟩ C f) fun L ⟨D,M⟩=>?_));rw[bQ e (by omega)];have:k<(B.length:Int):=f.2;exact av ⟨⟨by(try simp only);omega,by(try simp only);omega,by(try simp only);omega,D,by(try simp only);omega⟩,by(try simp only);omega⟩
 ·cases z;refine⟨by simpa using e,fun v hn=>?_⟩;obtain⟨y,E,rfl⟩:=List.mem_map.1 hn;simp only[List.length_map];exact j y E
end
theorem G1{t:Option Ia}(ht:Og t){w:QK}(hw:w.length≤4096):Ho (fk t w) (fun v=>v.length=w.length+1):=by
 have z:IntKind.i64.wrap ((w.length:Int)+1)=((w.length+1:Nat):Int):=bO (by omega);unfold fk;rw[z];refine aW ⟨by omega,by omega,by omega,by omega⟩ (aK (fun _=>av (by simp)) fun X=>aW (by simp only[List.length_singleton];omega) (aW (by simp only[List.length_append,List.length_singleton];omega) ?_));cases t with
 | none=>exact absurd rfl X
 | some x =>
 obtain⟨x0,Y⟩:=ht x rfl;have c:((([46]:QK)++w)++([46]:QK)).length=w.length+2:=by simp
 refine aq (P:=fun v=>v.length=w.length+1) (bF (fun(v,i)=>0≤i∧i≤((w.length+2:Nat):Int)∧v.length=w.length+1) (fun(_,i)=>(((w.length+2:Nat):Int) - i).toNat) ⟨Int.le_refl _,by omega,by simp⟩ fun(v,i) ⟨J,h2,L⟩=>?_) fun v f=>av f
 refine aK (fun hi=>?_) fun _=>av L
 rw[dec_lt,c]at hi;refine aq (P:=fun v=>v.length=w.length+1) (bF (fun(v,k,j)=>(0≤k∧k<(x.1.length:Int))∧0≤j∧j≤((w.length+2:Nat):Int)∧v.length=w.length+1) (fun(_,_,j)=>(((w.length+2:Nat):Int) - j).toNat) ⟨⟨Int.le_refl _,by omega⟩,J,by omega,L⟩ fun(v,k,j) ⟨⟨M,g2⟩,g3,g4,Z⟩=>?_) fun v f=>?_
 rotate_left
 ·rw[bQ J (by omega)];exact av ⟨⟨by(try simp only);omega,by(try simp only);omega,f⟩,by(try simp only);omega⟩
 have p:=Y _ (bS (i:=k.toNat) (by omega) ([],([]:QK)));refine(aW ⟨M,g2⟩ (aq (P:=fun v=>v.length=w.length+1) (bF (fun(v,l)=>0≤l∧l≤(((x.1.getD k.toNat ([],([]:QK))).2.length:Nat):Int)∧v.length=w.length+1) (fun(_,l)=>((((x.1.getD k.toNat ([],([]:QK))).2.length:Nat):Int) - l).toNat) ⟨Int.le_refl _,by omega,Z⟩ fun(v,l) ⟨N,e2,A⟩=>?_) fun v f=>?_))
 ·refine aK (fun hl=>?_) fun _=>av A
  have B:l<(((x.1.getD k.toNat ([],([]:QK))).2.length:Nat):Int):=by simpa using hl
  have e4:=p.2;have e5:IntKind.i64.wrap (IntKind.i64.wrap (i+l) - 1)=i+l - 1:=by rw[wrap_i64 (x:=i+l) (by omega) (by omega),wrap_i64 (by omega) (by omega)]
  refine aW ⟨N,B⟩ ?_;rw[e5];refine aq (P:=fun b=>b=true→0≤i+l - 1∧i+l - 1<(v.length:Int)) (aK (fun ha=>av fun hb=>⟨of_decide_eq_true ha,of_decide_eq_true hb⟩) fun _=>av fun h=>(by cases h)) fun b hb=>aq (P:=fun v=>v.length=w.length+1) (aK (fun C=>?_) fun _=>av A) fun v' D=>?_
  ·obtain⟨O,V⟩:=hb C;exact aW ⟨O,V⟩ (aW (by omega) (aW ⟨O,V⟩ (aW (by omega) (av (by simpa using A)))))
  ·rw[bQ N (by omega)];exact av ⟨⟨by(try simp only);omega,by(try simp only);omega,D⟩,by(try simp only);omega⟩
 ·rw[c];refine aK (fun _=>av f) fun E=>?_
  have u:j<((w.length+2:Nat):Int):=by simp only[beq_iff_eq]at E;omega
  refine aW rfl (aW ⟨M,g2⟩ (aW ⟨g3,u⟩ (aW (by omega) (aK (fun _=>av f) fun hf=>?_))));rw[bQ g3 (by omega)];refine av ⟨⟨?_,by(try simp only);omega,by(try simp only);omega,f⟩,by(try simp only);omega⟩;show 0≤(aU (α:=Int) (.int .i32) (x.1.getD k.toNat ([],([]:QK))).1 _).getD 0∧(aU (α:=Int) (.int .i32) (x.1.getD k.toNat ([],([]:QK))).1 _).getD 0<_;cases e:aU (α:=Int) (.int .i32) (x.1.getD k.toNat ([],([]:QK))).1 (((([46]:QK)++w)++([46]:QK)).getD j.toNat 0)with
  | none=>exact⟨Int.le_refl _,by simp only[Option.getD_none];omega⟩
  | some q =>
   obtain⟨k',I⟩:=tX e;exact p.1 _ I
end
end Go.Proofs.YtmcemnfjddoejaaGreatDoor.T
