import Derived.Test.YtflahpmlcfhpcaaGreatDoorTv40gdm
import Derived.Test.YtflahpmlcfhpcaaGreatDoorTv40fm
import Derived.Lib.TrailingZeros
namespace Go.Proofs.YtflahpmlcfhpcaaGreatDoor.T
open Go Go.Tv Go.Proofs
noncomputable section
theorem Hu:∀i,i<32→IW.getD i 0=((Lib.deBruijn32tab.getD i 0:Nat):Int):=by decide +kernel
theorem KH{n m:Nat}(B:m≤24)(u:0<n)(hn:n<2 ^ m):0≤pE (n:Int)∧pE (n:Int)<(m:Int):=by
 have j:2 ^ m≤2 ^ 24:=Nat.pow_le_pow_right (by decide) B;have f:n<2 ^ 32:=Nat.lt_of_lt_of_le hn (Nat.le_trans j (by decide));obtain⟨v,x⟩:=Lib.lowest_bit 32 n (by omega) f;have C:Lib.ctz 32 n=Lib.ctzFrom 32 n:=by simp[Lib.ctz,Nat.ne_of_gt u]
 obtain⟨q,p,_⟩:=Lib.ctzFrom_spec 32 n (by omega) f;rw[←C]at p;generalize Lib.ctz 32 n=k at v x p;have hk:k<m:=by
  rcases Nat.lt_or_ge k m with h | h
  ·exact h
  ·have L:2 ^ m≤2 ^ k:=Nat.pow_le_pow_right (by decide) h;have A:2 ^ k≤n:=Nat.le_of_dvd u (by rw[p];exact Nat.dvd_mul_right _ _);omega
 have hb:bits BinOp.and IntKind.u32 (n:Int) (-(n:Int) % 4294967296)=((2 ^ k:Nat):Int):=by
  have D : -(n:Int) % 4294967296=((2 ^ 32 - n:Nat):Int):=by
   have e:(2:Nat) ^ 32=4294967296:=by decide
   omega
  rw[D];have E:Fb (n:Int):=⟨by omega,by omega⟩;have A:Fb ((2 ^ 32 - n:Nat):Int):=by
   have e:(2:Nat) ^ 32=4294967296:=by decide
   exact⟨by omega,by omega⟩
  have:=DV E A;rw[Int.toNat_natCast,Int.toNat_natCast,v]at this;exact this
 obtain⟨I,J⟩:=Lib.deBruijn32_at k x;have key:pE (n:Int)=(k:Int):=by
  unfold pE;rw[if_neg (by rw[beq_iff_eq];omega),hb];have e:(((2 ^ k:Nat):Int)*125613361 % 4294967296 / 134217728).toNat=2 ^ k*125613361 % 4294967296 / 134217728:=by generalize (2 ^ k:Nat)=q;rw[show((q:Nat):Int)*125613361=((q*125613361:Nat):Int) by rw[Int.natCast_mul];rfl];generalize q*125613361=z;omega
  rw[e,Hu _ I,J]
 rw[key];exact⟨by omega,by omega⟩
theorem Dy:∀(n f:Nat) (x:Tree),n≤f→Dp n x→Ho (kN f x.op x.set x.kids) (Dp n)
 | 0,_,_,_,h=>h.elim
 | n+1,0,_,hl,_=>absurd hl (by omega)
 | n+1,f+1,.node o s p,hl,h=>by
  obtain⟨hk,q⟩:=h;have u:=fun(i:Nat) (hi:i<p.length)=>Dy n f _ (by omega) (Dp.getD q hi (Tree.node 0 0 []))
  simp only[kN,Tree.op,Tree.set,Tree.kids];unfold lR;refine ao (P:=fun l=>l.length≤1000000∧∀k∈l,Dp n k) (bI (fun(l,i)=>0≤i∧i≤(p.length:Int)∧(l.length:Int)=i∧∀k∈l,Dp n k) (fun(_,i)=>((p.length:Int) - i).toNat) ⟨Int.le_refl _,by simp,rfl,fun k hk=>by cases hk⟩ fun(l,i) ⟨v,B,C,z⟩=>?_) fun l hl=>aq hl
  refine aH (fun hi=>?_) fun _=>aq ⟨by omega,z⟩
  rw[dec_lt]at hi;refine aU ⟨v,hi⟩ (ao (P:=fun x=>∃j,j<p.length∧x=((p.getD j (Tree.node 0 0 [])).op,(p.getD j (Tree.node 0 0 [])).set,(p.getD j (Tree.node 0 0 [])).kids)) ?_ ?_)
  ·refine aH (fun _=>?_) fun _=>aq ⟨i.toNat,by omega,rfl⟩
   rw[wrap_i64 (x:=(p.length:Int) - 1) (by omega) (by omega),wrap_i64 (by omega) (by omega)];exact aU (by omega) (aq ⟨_,by omega,rfl⟩)
  ·rintro⟨a,b,c⟩ ⟨j,A,e⟩;cases e;refine ao (u j A) fun r u=>aU (by simp only[List.length_singleton];omega) ?_
   rw[bW v (by omega)];exact aq ⟨⟨by(try simp only);omega,by(try simp only);omega,by simp only[List.length_append,List.length_singleton];omega,ez z (by rw[su];exact u)⟩,by(try simp only);omega⟩
theorem WB.wa{nx:QZ}{ou:QK}{k m:Nat}(h:WB nx ou k m)(e:0<nx.length):WA nx k:=by
 refine⟨e,fun i hi=>by rw[(h.row hi).1];exact Nat.le_refl _,fun i c hi hc=>?_⟩;obtain⟨j,f⟩:=h.row hi;exact f _ (bV (by omega) 0)
def Mk(m:Option Z5)(c:Int):Prop:=(c=0∧∃x,m=some x∧Mo x x.1.1.length∧x.1.1.length≤24)∨(c≠0∧m=none)
theorem Cj{f:QQ}{N O:Int}{tr:QK}{e:XJ}(h:C6 f tr e):Ho (qy f N O tr e) (fun r=>Mk r.1 r.2):=by
 refine aH (fun _=>aq (.inr ⟨by decide,rfl⟩)) fun V=>?_
 have A:0<f.length:=by simp only[beq_iff_eq]at V;omega
 have j:=h.rl;refine ao (P:=fun(a,b)=>(a.length=e.length∧b.length=e.length)∧(∀x∈a,Dp 100 x)∧∀x∈b,Dp 100 x) (bI (fun(a,b,i)=>0≤i∧i≤(e.length:Int)∧((a.length:Int)=i∧(b.length:Int)=i)∧(∀x∈a,Dp 100 x)∧∀x∈b,Dp 100 x) (fun(_,_,i)=>((e.length:Int) - i).toNat) ⟨Int.le_refl _,by omega,⟨rfl,rfl⟩,fun _ h=>(by cases h),fun _ h=>(by cases h)⟩ fun(a,b,i) ⟨I,h2,h3,J,L⟩=>?_) ?_
 ·refine aH (fun hi=>?_) fun hi=>aq ⟨by rw[dec_lt]at hi;omega,J,L⟩
  rw[dec_lt]at hi;obtain⟨_,B,C⟩:=h.rk _ (bV (i:=i.toNat) (by omega) (0,(Tree.node 0 0 []),(Tree.node 0 0 [])));refine aU ⟨I,hi⟩ (aU (by simp only[List.length_singleton];omega) (ao (Dy 100 1000 _ (by omega) C) fun r D=>aU (by simp only[List.length_singleton];omega) ?_));rw[bW I (by omega)];exact aq ⟨⟨by(try simp only);omega,by(try simp only);omega,by simp only[List.length_append,List.length_singleton];omega,ez J (by rw[su];exact B),ez L (by rw[su];exact D)⟩,by(try simp only);omega⟩
 rintro⟨a,b⟩ ⟨⟨X,Y⟩,Z,b2⟩;refine ao (tU Z f.length) fun(r,c) D=>aH (fun hc=>aq (.inr ⟨by simpa using hc,rfl⟩)) fun hc=>?_
 obtain⟨r1,r2⟩:=D (by simpa using hc);refine ao (tU b2 f.length) fun(q,d) hq=>aH (fun hd=>aq (.inr ⟨by simpa using hd,rfl⟩)) fun hd=>?_
 obtain⟨B,C⟩:=hq (by simpa using hd);refine ao (rC r2 r1 h.Jt) fun(v,v') hv=>ao (rC C B h.Jt) fun(u,u') hu=>aq (.inl ⟨rfl,_,rfl,?_,h.Jt⟩)
 obtain⟨v1,p⟩:=hv;obtain⟨u1,z⟩:=hu;rw[X]at p;rw[Y]at z;refine⟨A,Nat.le_of_eq h.tl.symm,fun i hi=>h.tc _ (bV hi 0),p.wa v1.1,Nat.le_of_eq p.ol.symm,z.wa u1.1,Nat.le_of_eq z.ol.symm,fun s t M ht hb=>?_,ID fun x hx=>(h.rk x hx).1⟩;simp only at M ht hb ⊢;obtain⟨x0,x1⟩:=p.ob _ (bV (l:=v.2) (i:=s) (by rw[p.ol];exact M) 0);obtain⟨y0,y1⟩:=z.ob _ (bV (l:=u.2) (i:=t) (by rw[z.ol];exact ht) 0);generalize v.2.getD s 0=x at *;generalize u.2.getD t 0=y at *;have a3:2 ^ e.length≤2 ^ 24:=Nat.pow_le_pow_right (by decide) j;rw[DV ⟨x0,by omega⟩ ⟨y0,by omega⟩]at hb ⊢;have E:=Nat.and_lt_two_pow (n:=e.length) x.toNat (y:=y.toNat) (by omega);refine KH j ?_ E;simp only[bne_iff_ne,ne_eq]at hb;omega
theorem vG(t:QX):Ho (iX t) (fun r=>Mk r.1 r.2.1):=by
 refine ao (Fk t) fun(p,c) e=>aH (fun hc=>aq (.inr ⟨by simpa using hc,rfl⟩)) fun _=>ao (Cj e) fun(r,d) f=>aq f
theorem xW(c:Int):∃b,jw c=some b:=by
 unfold jw
 repeat' split
 all_goals exact⟨_,rfl⟩
theorem tP{l:XK}(hl:l.length≤4096):Ho (hJ l) (fun _=>True):=by
 refine ao (P:=fun _=>True) (ao (P:=fun _=>True) (ao (P:=fun _=>True) (bI (fun i=>0≤i∧i≤(l.length:Int)) (fun i=>((l.length:Int) - i).toNat) ⟨Int.le_refl _,by omega⟩ fun i ⟨e,f⟩=>?_) ?_) fun _ _=>aq trivial) fun _ _=>aq trivial
 ·refine aH (fun hi=>?_) fun _=>aq trivial
  rw[dec_lt]at hi;refine aU ⟨e,hi⟩ (aH (fun _=>aq trivial) fun _=>?_);rw[bW e (by omega)];exact aq ⟨⟨by(try simp only);omega,by(try simp only);omega⟩,by(try simp only);omega⟩
 ·rintro(_ | r) _
  ·exact aq trivial
  ·exact aq trivial
def Pt(x:QK×QK):Prop:=x.2.length=x.1.length+1∧x.1.length≤24
theorem EM{d:XK}(hd:d.length≤4096):Ho (qY d) (fun r=>r.2=true→Pt r.1):=by
 refine ao (tP hd) fun h _=>ao (P:=Lp (fun(l,v,n)=>v.length=l.length+1∧l.length≤d.length) fun r=>r.2=false) (bI (fun(l,v,_,n,i)=>0≤i∧i≤(d.length:Int)∧(l.length:Int)≤i∧v.length=l.length+1) (fun(_,_,_,_,i)=>((d.length:Int) - i).toNat) ⟨Int.le_refl _,by omega,Int.le_refl _,rfl⟩ fun(l,v,b,n,i) ⟨j,u,x,f⟩=>?_) ?_
 ·refine aH (fun hi=>?_) fun _=>aq ⟨f,by omega⟩
  rw[dec_lt]at hi;refine aU ⟨j,hi⟩ (aH (fun _=>aq rfl) fun _=>ao (P:=fun _=>True) ?_ fun z _=>ao (P:=Lp (fun(l,v,_,n)=>(l.length:Int)≤i+1∧v.length=l.length+1) fun r=>r.2=false) ?_ ?_)
  ·refine aH (fun _=>aq trivial) fun _=>aH (fun _=>aq trivial) fun _=>aq trivial
  ·refine aH (fun _=>ao (P:=fun _=>True) ?_ fun p _=>aH (fun _=>aq rfl) fun _=>aU (by omega) (aU (by omega) (aH (fun _=>aU (by rw[List.length_set];omega) (aU (by rw[List.length_set];omega) (aq ⟨by(try simp only);omega,by simp only[List.length_set];exact f⟩))) fun _=>aq ⟨by(try simp only);omega,by simp only[List.length_set];exact f⟩))) fun _=>aH (fun _=>ao (P:=fun _=>True) ?_ fun p _=>aH (fun _=>aq rfl) fun _=>?_) fun _=>?_
   ·repeat' split
    all_goals exact aq trivial
   ·repeat' split
    all_goals exact aq trivial
   ·exact aU (by simp only[List.length_singleton];omega) (aU (by simp only[List.length_singleton];omega) (aq ⟨by simp only[List.length_append,List.length_singleton];omega,by simp only[List.length_append,List.length_singleton];omega⟩))
   ·exact aU (by simp only[List.length_singleton];omega) (aU (by simp only[List.length_singleton];omega) (aq ⟨by simp only[List.length_append,List.length_singleton];omega,by simp only[List.length_append,List.length_singleton];omega⟩))
  ·rintro(⟨A,B,q,C⟩ | ⟨r,q⟩) e
   ·dsimp only;rw[bW j (by omega)];exact aq ⟨⟨by(try simp only);omega,by(try simp only);omega,e.1,e.2⟩,by(try simp only);omega⟩
   ·exact aq e
 ·rintro(⟨l,v,n⟩ | ⟨r,b⟩) e
  ·refine ao (P:=fun b=>b=true→l.length≤24) (aH (fun _=>aq fun h=>?_) fun _=>aq fun h=>(by cases h)) fun b hb=>aq fun h=>⟨e.1,hb h⟩
   have:=of_decide_eq_true h;omega
  ·exact aq fun h=>by rw[show b=false from e]at h;cases h
theorem A6{a b:QK}(ha:a.length≤1000000):Ho (cD a b) (fun r=>r=true→a.length=b.length):=by
 refine aH (fun _=>aq fun h=>by cases h) fun hl=>?_
 have e:a.length=b.length:=by simp only[bne_iff_ne,ne_eq,Decidable.not_not]at hl;omega
 refine ao (P:=fun _=>True) (bI (fun i=>0≤i∧i≤(a.length:Int)) (fun i=>((a.length:Int) - i).toNat) ⟨Int.le_refl _,by omega⟩ fun i ⟨f,j⟩=>?_) ?_
 ·refine aH (fun hi=>?_) fun _=>aq trivial
  rw[dec_lt]at hi;refine aU ⟨f,hi⟩ (aU (by omega) (aH (fun _=>aq trivial) fun _=>?_));rw[bW f (by omega)];exact aq ⟨⟨by(try simp only);omega,by(try simp only);omega⟩,by(try simp only);omega⟩
 ·rintro(_ | r) _
  ·exact aq fun _=>e
  ·exact aq fun _=>e
def qk(l:List (QK×QK)):Prop:=l.length≤256∧∀x∈l,Pt x
theorem qk.nil:qk []:=⟨by decide,fun _ h=>by cases h⟩
theorem C1{l:List (QK×QK)}(hl:qk l)(a b:QK):Ho (l8 l a b) (fun _=>True):=by
 have f:=hl.1;refine ao (P:=fun _=>True) (ao (P:=fun _=>True) (bI (fun i=>0≤i∧i≤(l.length:Int)) (fun i=>((l.length:Int) - i).toNat) ⟨Int.le_refl _,by omega⟩ fun i ⟨e,j⟩=>?_) ?_) fun _ _=>aq trivial
 ·refine aH (fun hi=>?_) fun _=>aq trivial
  rw[dec_lt]at hi;refine aU ⟨e,hi⟩ (ao (P:=fun _=>True) (ao (P:=fun _=>True) (DK (A6 (by have:=(hl.2 _ (bV (i:=i.toNat) (by omega) ([],([]:QK)))).2;omega)) fun _ _=>trivial) fun _ _=>aq trivial) fun r _=>aH (fun _=>aq trivial) fun _=>?_);rw[bW e (by omega)];exact aq ⟨⟨by(try simp only);omega,by(try simp only);omega⟩,by(try simp only);omega⟩
 ·rintro(_ | r) _
  ·exact aq trivial
  ·exact aq trivial
theorem qk.snoc{l:List (QK×QK)}(h:qk l)(hl:l.length<256){x:QK×QK}(e:Pt x):qk (l++[x]):=⟨by simp only[List.length_append,List.length_singleton];omega,ez h.2 e⟩
theorem zg(t:QX):Ho (nf t) (fun r=>qk r.1.1∧qk r.1.2):=by
 refine aH (fun _=>aq ⟨qk.nil,qk.nil⟩) fun hl=>?_
 have C:(cd t).length≤4096:=by
  have:(cd t).length=t.length:=by simp[cd]
  simp only[decide_eq_true_eq]at hl;omega
 obtain⟨s,e,hc,X⟩:=Hg (b:=cd t) (fun x N=>by
  obtain⟨y,_,rfl⟩:=List.mem_map.1 N;have:=y.toNat_lt;omega) C
 rw[e];refine ao (P:=Lp (fun r=>qk r.1∧qk r.2) fun r=>qk r.1.1∧qk r.1.2) (bI (fun(a,b,i)=>0≤i∧i≤(s.length:Int)∧a.length+b.length≤256∧qk a∧qk b) (fun(_,_,i)=>((s.length:Int) - i).toNat) ⟨Int.le_refl _,by omega,by decide,qk.nil,qk.nil⟩ fun(a,b,i) ⟨p,Y,O,A,q⟩=>?_) ?_
 rotate_left
 ·rintro(⟨a,b⟩ | r) h
  ·exact aq h
  ·exact aq h
 refine aH (fun hi=>?_) fun _=>aq ⟨A,q⟩
 rw[dec_lt]at hi;obtain⟨c,f⟩:=xW (s.getD i.toNat (0,0,0)).1;refine aU ⟨p,hi⟩ ?_;rw[f];refine aH (fun _=>?_) fun D=>?_
 ·rw[bW p (by omega)];exact aq ⟨⟨by(try simp only);omega,by(try simp only);omega,O,A,q⟩,by(try simp only);omega⟩
 have first:iter (hD s) i=iter (hD s) (i+1):=by refine fR ?_;unfold hD;rw[if_pos (by simpa using hi),if_pos ⟨p,hi⟩,f];rw[bW p (by omega)];simp[D]
 rw[first];refine ao (P:=fun j=>i<j∧j≤(s.length:Int)) (bI (fun j=>i<j∧j≤(s.length:Int)) (fun j=>((s.length:Int) - j).toNat) ⟨by omega,by omega⟩ fun j ⟨L,g2⟩=>?_) fun j ⟨L,g2⟩=>?_
 ·refine ao (P:=fun b=>b=true→j<(s.length:Int)) (aH (fun E=>?_) fun _=>aq fun h=>(by cases h)) fun b hb=>aH (fun I=>?_) fun _=>aq ⟨L,g2⟩
  ·rw[dec_lt]at E;obtain⟨c,f⟩:=xW (s.getD j.toNat (0,0,0)).1;refine aU ⟨by omega,E⟩ ?_;rw[f];exact aq fun _=>E
  ·have:=hb I;rw[bW (by omega) (by omega)];exact aq ⟨⟨by(try simp only);omega,by(try simp only);omega⟩,by(try simp only);omega⟩
 ·refine aU ⟨p,hi⟩ (aH (fun _=>aq ⟨qk.nil,qk.nil⟩) fun u=>aU ⟨p,by omega,Int.le_refl _,g2⟩ ?_);rw[wrap_i64 (by omega) (by omega)]at u;have M:a.length+b.length<256:=by simp only[decide_eq_true_eq]at u;omega
  have v:((s.take j.toNat).drop i.toNat).length≤4096:=by simp only[List.length_drop,List.length_take];omega
  refine ao (EM v) fun(w,ok) V=>aH (fun _=>aq ⟨qk.nil,qk.nil⟩) fun J=>?_
  have z:Pt w:=V (by simpa using J);refine ao (tP v) fun h _=>ao (P:=Lp (fun(a,b)=>a.length+b.length≤256∧qk a∧qk b) fun r=>qk r.1.1∧qk r.1.2) ?_ ?_
  ·refine aH (fun _=>aU (by simp only[List.length_singleton];omega) (aq ⟨by simp only[List.length_append,List.length_singleton];omega,A.snoc (by omega) z,q⟩)) fun _=>ao (C1 q _ _) fun r _=>aH (fun _=>aq ⟨qk.nil,qk.nil⟩) fun _=>aU (by simp only[List.length_singleton];omega) (aq ⟨by simp only[List.length_append,List.length_singleton];omega,A,q.snoc (by omega) z⟩)
  ·rintro(⟨Z,b'⟩ | r) B
   ·exact aq ⟨⟨by(try simp only);omega,g2,B.1,B.2.1,B.2.2⟩,by(try simp only);omega⟩
   ·exact aq B
theorem Dg(f:List Nd)(i:Nat):jf f i=f:=by
 refine List.ext_getElem (by simp) fun j q p=>?_
 rw[List.getElem_set];split
 ·rename_i e;subst e;rw[List.getD_eq_getElem?_getD,List.getElem?_eq_getElem p];rfl
 ·rfl
def TN(m:Nat)(f:List Nd):Prop:=∀e∈f,(∀p∈e.2.1,0≤p.2∧p.2<(m:Int))∧e.2.2.length≤25
theorem TN.mono{m n:Nat}{j:List Nd}(h:TN m j)(D:m≤n):TN n j:=fun z hn=>⟨fun p B=>by have:=(h z hn).1 p B;omega,(h z hn).2⟩
theorem TN.set{m i:Nat}{e:List Nd}{x:Nd}(h:TN m e)(f:∀p∈x.2.1,0≤p.2∧p.2<(m:Int))(j:x.2.2.length≤25):TN m (e.set i x):=Dx h ⟨f,j⟩
section
variable{d:List (QK×QK)}(hd:qk d)
include hd
theorem IJ{i:Int}(e:0≤i)(h:i<(d.length:Int)):Pt (d.getD i.toNat ([],[])):=hd.2 _ (bV (by omega) _)
theorem GI{v:Int}(V:0≤v∧v<(d.length:Int)){u:List Nd}(hn:TN u.length u)(D:0<u.length)(hl:u.length≤100000):
  Ho (iter (kH d v) (u,0,0)) (fun(q,k)=>(0≤k∧k<(q.length:Int))∧TN q.length q∧q.length≤u.length+24):=by
 have E:=IJ hd V.1 V.2;generalize hx:d.getD v.toNat ([],[])=x at E;have a1:=E.2;refine DK (P:=fun(q,k)=>∃j:Int,j≤(x.1.length:Int)∧(0≤k∧k<(q.length:Int))∧TN q.length q∧(q.length:Int)≤u.length+j) (bI (fun(q,k,j)=>0≤j∧j≤(x.1.length:Int)∧(0≤k∧k<(q.length:Int))∧TN q.length q∧(q.length:Int)≤u.length+j) (fun(_,_,j)=>((x.1.length:Int) - j).toNat) ⟨Int.le_refl _,by omega,⟨Int.le_refl _,by omega⟩,hn,by omega⟩ fun(q,k,j) ⟨X,h2,⟨I,L⟩,J,h6⟩=>?_) (fun(q,k) ⟨j,Y,N,O,q4⟩=>⟨N,O,by(try simp only at q4 ⊢);omega⟩);unfold kH;simp only[Dg,hx];refine aH (fun Z=>?_) fun _=>aq ⟨j,h2,⟨I,L⟩,J,h6⟩
 rw[dec_lt]at Z;have hk:k.toNat<q.length:=by omega
 refine aU ⟨X,Z⟩ (aU hk (aU ⟨I,L⟩ (ao (P:=fun(f,M)=>(0≤M∧M<(f.length:Int))∧TN f.length f∧(f.length:Int)≤u.length+(j+1)) ?_ ?_)))
 rotate_left
 ·rintro⟨f,M⟩ ⟨Y,N,O⟩;dsimp only;rw[bW X (by omega)];exact aq ⟨⟨by(try simp only);omega,by(try simp only);omega,Y,N,O⟩,by(try simp only);omega⟩
 have C:=J _ (bV hk Nd.z);generalize hy:q.getD k.toNat Nd.z=y at C;generalize hc:x.1.getD j.toNat 0=c;refine aH (fun _=>?_) fun hf=>?_
 rotate_left
 ·cases e:bg (α:=Int) (.int .i32) y.2.1 c with
  | none=>rw[e]at hf;exact absurd rfl hf
  | some t =>obtain⟨M,A⟩:=qC e;exact aq ⟨C.1 _ A,J,by omega⟩
 refine aU hk (aU ⟨I,L⟩ (ao (P:=fun f=>f.length=q.length∧(f.getD k.toNat Nd.z).1=true∧TN q.length f) ?_ fun f ⟨g1,g2,g3⟩=>?_))
 ·refine aH (fun _=>aU ⟨I,L⟩ (aU hk (aq ⟨by simp,?_,J.set (fun p D=>by cases D) C.2⟩))) fun hb=>aq ⟨rfl,?_,J⟩
  ·rw[List.getD_eq_getElem?_getD,List.getElem?_set_self hk];rfl
  ·rw[hy];simpa using hb
 ·have A:k.toNat<f.length:=by omega
  have B:=g3 _ (bV A Nd.z);refine aU A (aU ⟨I,by omega⟩ (aU g2 (aU (by rw[List.length_set];omega) (aq ⟨?_,?_,?_⟩))))
  ·simp only[List.length_append,List.length_singleton,List.length_set];omega
  ·simp only[List.length_append,List.length_singleton,List.length_set];refine ez (P:=fun nd:Nd=>(∀p∈nd.2.1,0≤p.2∧p.2<((f.length+1:Nat):Int))∧nd.2.2.length≤25) (TN.set (g3.mono (by omega)) (fun p D=>?_) B.2) ⟨fun p D=>(by cases D),by decide⟩;rcases mem_set D with e | e
   ·rw[e];exact⟨by(try simp only);omega,by(try simp only);omega⟩
   ·have:=B.1 p e;omega
  ·simp only[List.length_append,List.length_singleton,List.length_set];omega
theorem Gt{v:Int}(I:0≤v∧v<(d.length:Int)){B:List Nd}(hn:TN B.length B){k:Int}(hk:0≤k∧k<(B.length:Int)):
  Ho (iter (kB d v k) (B,0)) (fun e=>TN e.length e∧e.length=B.length):=by
 have u:=IJ hd I.1 I.2;generalize L:d.getD v.toNat ([],[])=x at u;have M:=u.2;have N:=u.1;refine bI (fun(e,j)=>0≤j∧j≤(x.2.length:Int)∧TN e.length e∧e.length=B.length∧j≤((e.getD k.toNat Nd.z).2.2.length:Int)) (fun(_,j)=>((x.2.length:Int) - j).toNat) ⟨Int.le_refl _,by omega,hn,rfl,by omega⟩ fun(e,j) ⟨C,Y,D,O,Z⟩=>?_
 unfold kB;simp only[Dg,L];refine aH (fun J=>?_) fun _=>aq ⟨D,O⟩
 rw[dec_lt]at J;have p:k.toNat<e.length:=by omega
 have E:=D _ (bV p Nd.z);refine aU ⟨C,J⟩ (aU p (ao (P:=fun f=>f.length=e.length∧TN e.length f∧j<((f.getD k.toNat Nd.z).2.2.length:Int)) ?_ fun f ⟨V,g2,g3⟩=>?_))
 ·refine aH (fun hc=>?_) fun hc=>aq ⟨rfl,D,by simpa using hc⟩
  have X:((e.getD k.toNat Nd.z).2.2.length:Int)≤j:=by simpa using hc
  refine aU p (aU (by simp only[List.length_singleton];omega) (aq ⟨by simp,D.set E.1 (by simp only[List.length_append,List.length_singleton];omega),?_⟩));rw[List.getD_eq_getElem?_getD,List.getElem?_set_self p];simp only[Option.getD_some,List.length_append,List.length_singleton];omega
 ·have A:k.toNat<f.length:=by omega
  have q:=g2 _ (bV A Nd.z);refine aU A (aU ⟨C,g3⟩ (aU (by omega) (aU ⟨C,g3⟩ (aU (by omega) ?_))));rw[bW C (by omega)];refine aq ⟨⟨by(try simp only);omega,by(try simp only);omega,?_,by simp only[List.length_set];omega,?_⟩,by(try simp only);omega⟩
  ·simp only[List.length_set,V];exact g2.set q.1 (by simp only[List.length_set];exact q.2)
  ·simp only;rw[List.getD_eq_getElem?_getD,List.getElem?_set_self A];simp only[Option.getD_some,List.length_set];omega
def LX(t:Option FE):Prop:=∀x,t=some x→0<x.1.length∧∀e∈x.1,(∀p∈e.1,0≤p.2∧p.2<(x.1.length:Int))∧e.2.length≤25
theorem Bg:Ho (px d) (fun t=>t.isSome=true∧LX t):=by
 have hl:=hd.1;refine aU (by decide) (ao (P:=fun e=>0<e.length∧TN e.length e) (bI (fun(e,i)=>0≤i∧i≤(d.length:Int)∧0<e.length∧TN e.length e∧(e.length:Int)≤1+24*i) (fun(_,i)=>((d.length:Int) - i).toNat) ⟨Int.le_refl _,by omega,by decide,fun z h=>?_,by decide⟩ fun(e,i) ⟨f,q,u,v,J⟩=>?_) fun e ⟨f,q⟩=>aq ⟨rfl,fun x A=>?_⟩)
 ·cases List.mem_singleton.1 h;exact⟨fun p B=>(by cases B),by decide⟩
 ·refine aH (fun hi=>?_) fun _=>aq ⟨u,v⟩
  rw[dec_lt]at hi;refine aU ⟨f,hi⟩ (ao (GI hd ⟨f,hi⟩ v u (by omega)) fun(C,k) ⟨j,D,L⟩=>aU j (ao (Gt hd ⟨f,hi⟩ D j) fun M ⟨E,N⟩=>?_));rw[bW f (by omega)];have:k<(C.length:Int):=j.2;exact aq ⟨⟨by(try simp only);omega,by(try simp only);omega,by(try simp only);omega,E,by(try simp only);omega⟩,by(try simp only);omega⟩
 ·cases A;refine⟨by simpa using f,fun z hn=>?_⟩;obtain⟨y,I,rfl⟩:=List.mem_map.1 hn;simp only[List.length_map];exact q y I
end
theorem Eh{t:Option FE}(ht:LX t){w:QK}(hw:w.length≤4096):Ho (fy t w) (fun v=>v.length=w.length+1):=by
 have A:IntKind.i64.wrap ((w.length:Int)+1)=((w.length+1:Nat):Int):=bE (by omega);unfold fy;rw[A];refine aU ⟨by omega,by omega,by omega,by omega⟩ (aH (fun _=>aq (by simp)) fun Y=>aU (by simp only[List.length_singleton];omega) (aU (by simp only[List.length_append,List.length_singleton];omega) ?_));cases t with
 | none=>exact absurd rfl Y
 | some x =>
 obtain⟨x0,Z⟩:=ht x rfl;have f:((([46]:QK)++w)++([46]:QK)).length=w.length+2:=by simp
 refine ao (P:=fun v=>v.length=w.length+1) (bI (fun(v,i)=>0≤i∧i≤((w.length+2:Nat):Int)∧v.length=w.length+1) (fun(_,i)=>(((w.length+2:Nat):Int) - i).toNat) ⟨Int.le_refl _,by omega,by simp⟩ fun(v,i) ⟨L,h2,M⟩=>?_) fun v p=>aq p
 refine aH (fun hi=>?_) fun _=>aq M
 rw[dec_lt,f]at hi;refine ao (P:=fun v=>v.length=w.length+1) (bI (fun(v,k,j)=>(0≤k∧k<(x.1.length:Int))∧0≤j∧j≤((w.length+2:Nat):Int)∧v.length=w.length+1) (fun(_,_,j)=>(((w.length+2:Nat):Int) - j).toNat) ⟨⟨Int.le_refl _,by omega⟩,L,by omega,M⟩ fun(v,k,j) ⟨⟨N,g2⟩,g3,g4,g5⟩=>?_) fun v p=>?_
 rotate_left
 ·rw[bW L (by omega)];exact aq ⟨⟨by(try simp only);omega,by(try simp only);omega,p⟩,by(try simp only);omega⟩
 have u:=Z _ (bV (i:=k.toNat) (by omega) ([],([]:QK)));refine(aU ⟨N,g2⟩ (ao (P:=fun v=>v.length=w.length+1) (bI (fun(v,l)=>0≤l∧l≤(((x.1.getD k.toNat ([],([]:QK))).2.length:Nat):Int)∧v.length=w.length+1) (fun(_,l)=>((((x.1.getD k.toNat ([],([]:QK))).2.length:Nat):Int) - l).toNat) ⟨Int.le_refl _,by omega,g5⟩ fun(v,l) ⟨O,e2,B⟩=>?_) fun v p=>?_))
 ·refine aH (fun hl=>?_) fun _=>aq B
  have C:l<(((x.1.getD k.toNat ([],([]:QK))).2.length:Nat):Int):=by simpa using hl
  have e4:=u.2;have e5:IntKind.i64.wrap (IntKind.i64.wrap (i+l) - 1)=i+l - 1:=by rw[wrap_i64 (x:=i+l) (by omega) (by omega),wrap_i64 (by omega) (by omega)]
  refine aU ⟨O,C⟩ ?_;rw[e5];refine ao (P:=fun b=>b=true→0≤i+l - 1∧i+l - 1<(v.length:Int)) (aH (fun ha=>aq fun hb=>⟨of_decide_eq_true ha,of_decide_eq_true hb⟩) fun _=>aq fun h=>(by cases h)) fun b hb=>ao (P:=fun v=>v.length=w.length+1) (aH (fun D=>?_) fun _=>aq B) fun v' E=>?_
  ·obtain⟨V,X⟩:=hb D;exact aU ⟨V,X⟩ (aU (by omega) (aU ⟨V,X⟩ (aU (by omega) (aq (by simpa using B)))))
  ·rw[bW O (by omega)];exact aq ⟨⟨by(try simp only);omega,by(try simp only);omega,E⟩,by(try simp only);omega⟩
 ·rw[f];refine aH (fun _=>aq p) fun I=>?_
  have z:j<((w.length+2:Nat):Int):=by simp only[beq_iff_eq]at I;omega
  refine aU rfl (aU ⟨N,g2⟩ (aU ⟨g3,z⟩ (aU (by omega) (aH (fun _=>aq p) fun hf=>?_))));rw[bW g3 (by omega)];refine aq ⟨⟨?_,by(try simp only);omega,by(try simp only);omega,p⟩,by(try simp only);omega⟩;show 0≤(bg (α:=Int) (.int .i32) (x.1.getD k.toNat ([],([]:QK))).1 _).getD 0∧(bg (α:=Int) (.int .i32) (x.1.getD k.toNat ([],([]:QK))).1 _).getD 0<_;cases e:bg (α:=Int) (.int .i32) (x.1.getD k.toNat ([],([]:QK))).1 (((([46]:QK)++w)++([46]:QK)).getD j.toNat 0)with
  | none=>exact⟨Int.le_refl _,by simp only[Option.getD_none];omega⟩
  | some q =>
   obtain⟨k',J⟩:=qC e;exact u.1 _ J
end
end Go.Proofs.YtflahpmlcfhpcaaGreatDoor.T
