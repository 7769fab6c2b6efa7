import Derived.Test.YtobbjfkfmdiklaaGreatDoorTv50gdm
import Derived.Test.YtobbjfkfmdiklaaGreatDoorTv50fm
import Derived.Lib.TrailingZeros
namespace Go.Proofs.YtobbjfkfmdiklaaGreatDoor.T
open Go Go.Tv Go.Proofs
noncomputable section
theorem JH:∀i,i<32→Kg.getD i 0=((Lib.deBruijn32tab.getD i 0:Nat):Int):=by decide +kernel
theorem ME{n m:Nat}(hm:m≤24)(v:0<n)(hn:n<2 ^ m):0≤pU (n:Int)∧pU (n:Int)<(m:Int):=by
 have p:2 ^ m≤2 ^ 24:=Nat.pow_le_pow_right (by decide) hm;have j:n<2 ^ 32:=Nat.lt_of_lt_of_le hn (Nat.le_trans p (by decide));obtain⟨x,A⟩:=Lib.lowest_bit 32 n (by omega) j;have B:Lib.ctz 32 n=Lib.ctzFrom 32 n:=by simp[Lib.ctz,Nat.ne_of_gt v]
 obtain⟨q,u,_⟩:=Lib.ctzFrom_spec 32 n (by omega) j;rw[←B]at u;generalize Lib.ctz 32 n=k at x A u;have hk:k<m:=by
  rcases Nat.lt_or_ge k m with h | h
  ·exact h
  ·have h1:2 ^ m≤2 ^ k:=Nat.pow_le_pow_right (by decide) h;have h2:2 ^ k≤n:=Nat.le_of_dvd v (by rw[u];exact Nat.dvd_mul_right _ _);omega
 have hb:bits BinOp.and IntKind.u32 (n:Int) (-(n:Int) % 4294967296)=((2 ^ k:Nat):Int):=by
  have C : -(n:Int) % 4294967296=((2 ^ 32 - n:Nat):Int):=by
   have e:(2:Nat) ^ 32=4294967296:=by decide
   omega
  rw[C];have D:Gp (n:Int):=⟨by omega,by omega⟩;have h2:Gp ((2 ^ 32 - n:Nat):Int):=by
   have e:(2:Nat) ^ 32=4294967296:=by decide
   exact⟨by omega,by omega⟩
  have:=EU D h2;rw[Int.toNat_natCast,Int.toNat_natCast,x]at this;exact this
 obtain⟨E,I⟩:=Lib.deBruijn32_at k A;have key:pU (n:Int)=(k:Int):=by
  unfold pU;rw[if_neg (by rw[beq_iff_eq];omega),hb];have e:(((2 ^ k:Nat):Int)*125613361 % 4294967296 / 134217728).toNat=2 ^ k*125613361 % 4294967296 / 134217728:=by generalize (2 ^ k:Nat)=q;rw[show((q:Nat):Int)*125613361=((q*125613361:Nat):Int) by rw[Int.natCast_mul];rfl];generalize q*125613361=z;omega
  rw[e,JH _ E,I]
 rw[key];exact⟨by omega,by omega⟩
theorem Ey:∀(n f:Nat) (x:Tree),n≤f→Dp n x→Ho (kX f x.op x.set x.kids) (Dp n)
 | 0,_,_,_,h=>h.elim
 | n+1,0,_,hl,_=>absurd hl (by omega)
 | n+1,f+1,.node o s p,hl,h=>by
  obtain⟨hk,q⟩:=h;have u:=fun(i:Nat) (hi:i<p.length)=>Ey n f _ (by omega) (Dp.getD q hi (Tree.node 0 0 []))
  simp only[kX,Tree.op,Tree.set,Tree.kids];unfold me;refine ao (P:=fun l=>l.length≤1000000∧∀k∈l,Dp n k) (bG (fun(l,i)=>0≤i∧i≤(p.length:Int)∧(l.length:Int)=i∧∀k∈l,Dp n k) (fun(_,i)=>((p.length:Int) - i).toNat) ⟨Int.le_refl _,by simp,rfl,fun k hk=>by cases hk⟩ fun(l,i) ⟨h1,h2,A,v⟩=>?_) fun l hl=>aq hl
  refine aH (fun hi=>?_) fun _=>aq ⟨by omega,v⟩
  rw[dec_lt]at hi;refine aV ⟨h1,hi⟩ (ao (P:=fun x=>∃j,j<p.length∧x=((p.getD j (Tree.node 0 0 [])).op,(p.getD j (Tree.node 0 0 [])).set,(p.getD j (Tree.node 0 0 [])).kids)) ?_ ?_)
  ·refine aH (fun _=>?_) fun _=>aq ⟨i.toNat,by omega,rfl⟩
   rw[wrap_i64 (x:=(p.length:Int) - 1) (by omega) (by omega),wrap_i64 (by omega) (by omega)];exact aV (by omega) (aq ⟨_,by omega,rfl⟩)
  ·rintro⟨a,b,c⟩ ⟨j,z,e⟩;cases e;refine ao (u j z) fun r u=>aV (by simp only[List.length_singleton];omega) ?_
   rw[bV h1 (by omega)];exact aq ⟨⟨by(try simp only);omega,by(try simp only);omega,by simp only[List.length_append,List.length_singleton];omega,dZ v (by rw[tA];exact u)⟩,by(try simp only);omega⟩
theorem WB.wa{nx:QZ}{ou:QK}{k m:Nat}(h:WB nx ou k m)(hp:0<nx.length):WA nx k:=by
 refine⟨hp,fun i hi=>by rw[(h.row hi).1];exact Nat.le_refl _,fun i c hi hc=>?_⟩;obtain⟨h1,h2⟩:=h.row hi;exact h2 _ (bU (by omega) 0)
def Mk(m:Option Z5)(c:Int):Prop:=(c=0∧∃x,m=some x∧Mo x x.1.1.length∧x.1.1.length≤24)∨(c≠0∧m=none)
theorem Di{cl:QQ}{N O:Int}{tr:QK}{j:XJ}(h:Ek cl tr j):Ho (rz cl N O tr j) (fun r=>Mk r.1 r.2):=by
 refine aH (fun _=>aq (.inr ⟨by decide,rfl⟩)) fun V=>?_
 have B:0<cl.length:=by simp only[beq_iff_eq]at V;omega
 have p:=h.rl;refine ao (P:=fun(a,b)=>(a.length=j.length∧b.length=j.length)∧(∀x∈a,Dp 100 x)∧∀x∈b,Dp 100 x) (bG (fun(a,b,i)=>0≤i∧i≤(j.length:Int)∧((a.length:Int)=i∧(b.length:Int)=i)∧(∀x∈a,Dp 100 x)∧∀x∈b,Dp 100 x) (fun(_,_,i)=>((j.length:Int) - i).toNat) ⟨Int.le_refl _,by omega,⟨rfl,rfl⟩,fun _ h=>(by cases h),fun _ h=>(by cases h)⟩ fun(a,b,i) ⟨h1,h2,h3,J,L⟩=>?_) ?_
 ·refine aH (fun hi=>?_) fun hi=>aq ⟨by rw[dec_lt]at hi;omega,J,L⟩
  rw[dec_lt]at hi;obtain⟨_,C,D⟩:=h.rk _ (bU (i:=i.toNat) (by omega) (0,(Tree.node 0 0 []),(Tree.node 0 0 [])));refine aV ⟨h1,hi⟩ (aV (by simp only[List.length_singleton];omega) (ao (Ey 100 1000 _ (by omega) D) fun r E=>aV (by simp only[List.length_singleton];omega) ?_));rw[bV h1 (by omega)];exact aq ⟨⟨by(try simp only);omega,by(try simp only);omega,by simp only[List.length_append,List.length_singleton];omega,dZ J (by rw[tA];exact C),dZ L (by rw[tA];exact E)⟩,by(try simp only);omega⟩
 rintro⟨a,b⟩ ⟨⟨X,Y⟩,Z,b2⟩;refine ao (tT Z cl.length) fun(r,c) E=>aH (fun hc=>aq (.inr ⟨by simpa using hc,rfl⟩)) fun hc=>?_
 obtain⟨r1,r2⟩:=E (by simpa using hc);refine ao (tT b2 cl.length) fun(q,d) hq=>aH (fun hd=>aq (.inr ⟨by simpa using hd,rfl⟩)) fun hd=>?_
 obtain⟨C,D⟩:=hq (by simpa using hd);refine ao (rZ r2 r1 h.Lh) fun(v,v') hv=>ao (rZ D C h.Lh) fun(u,u') hu=>aq (.inl ⟨rfl,_,rfl,?_,h.Lh⟩)
 obtain⟨v1,z⟩:=hv;obtain⟨u1,A⟩:=hu;rw[X]at z;rw[Y]at A;refine⟨B,Nat.le_of_eq h.tl.symm,fun i hi=>h.tc _ (bU hi 0),z.wa v1.1,Nat.le_of_eq z.ol.symm,A.wa u1.1,Nat.le_of_eq A.ol.symm,fun s t M ht hb=>?_,Jm fun x hx=>(h.rk x hx).1⟩;simp only at M ht hb ⊢;obtain⟨x0,x1⟩:=z.ob _ (bU (l:=v.2) (i:=s) (by rw[z.ol];exact M) 0);obtain⟨y0,y1⟩:=A.ob _ (bU (l:=u.2) (i:=t) (by rw[A.ol];exact ht) 0);generalize v.2.getD s 0=x at *;generalize u.2.getD t 0=y at *;have a3:2 ^ j.length≤2 ^ 24:=Nat.pow_le_pow_right (by decide) p;rw[EU ⟨x0,by omega⟩ ⟨y0,by omega⟩]at hb ⊢;have I:=Nat.and_lt_two_pow (n:=j.length) x.toNat (y:=y.toNat) (by omega);refine ME p ?_ I;simp only[bne_iff_ne,ne_eq]at hb;omega
theorem xn(t:QX):Ho (iX t) (fun r=>Mk r.1 r.2.1):=by
 refine ao (H9 t) fun(p,c) hp=>aH (fun hc=>aq (.inr ⟨by simpa using hc,rfl⟩)) fun _=>ao (Di hp) fun(r,d) j=>aq j
theorem yD(c:Int):∃b,jF c=some b:=by
 unfold jF
 repeat' split
 all_goals exact⟨_,rfl⟩
theorem tV{l:XK}(hl:l.length≤4096):Ho (gZ l) (fun _=>True):=by
 refine ao (P:=fun _=>True) (ao (P:=fun _=>True) (ao (P:=fun _=>True) (bG (fun i=>0≤i∧i≤(l.length:Int)) (fun i=>((l.length:Int) - i).toNat) ⟨Int.le_refl _,by omega⟩ fun i ⟨h1,h2⟩=>?_) ?_) fun _ _=>aq trivial) fun _ _=>aq trivial
 ·refine aH (fun hi=>?_) fun _=>aq trivial
  rw[dec_lt]at hi;refine aV ⟨h1,hi⟩ (aH (fun _=>aq trivial) fun _=>?_);rw[bV h1 (by omega)];exact aq ⟨⟨by(try simp only);omega,by(try simp only);omega⟩,by(try simp only);omega⟩
 ·rintro(_ | r) _
  ·exact aq trivial
  ·exact aq trivial
def Pt(x:QK×QK):Prop:=x.2.length=x.1.length+1∧x.1.length≤24
theorem Gc{d:XK}(hd:d.length≤4096):Ho (sw d) (fun r=>r.2=true→Pt r.1):=by
 refine ao (tV hd) fun h _=>ao (P:=Lp (fun(l,v,n)=>v.length=l.length+1∧l.length≤d.length) fun r=>r.2=false) (bG (fun(l,v,_,n,i)=>0≤i∧i≤(d.length:Int)∧(l.length:Int)≤i∧v.length=l.length+1) (fun(_,_,_,_,i)=>((d.length:Int) - i).toNat) ⟨Int.le_refl _,by omega,Int.le_refl _,rfl⟩ fun(l,v,b,n,i) ⟨h1,h2,x,p⟩=>?_) ?_
 ·refine aH (fun hi=>?_) fun _=>aq ⟨p,by omega⟩
  rw[dec_lt]at hi;refine aV ⟨h1,hi⟩ (aH (fun _=>aq rfl) fun _=>ao (P:=fun _=>True) ?_ fun z _=>ao (P:=Lp (fun(l,v,_,n)=>(l.length:Int)≤i+1∧v.length=l.length+1) fun r=>r.2=false) ?_ ?_)
  ·refine aH (fun _=>aq trivial) fun _=>aH (fun _=>aq trivial) fun _=>aq trivial
  ·refine aH (fun _=>ao (P:=fun _=>True) ?_ fun q _=>aH (fun _=>aq rfl) fun _=>aV (by omega) (aV (by omega) (aH (fun _=>aV (by rw[List.length_set];omega) (aV (by rw[List.length_set];omega) (aq ⟨by(try simp only);omega,by simp only[List.length_set];exact p⟩))) fun _=>aq ⟨by(try simp only);omega,by simp only[List.length_set];exact p⟩))) fun _=>aH (fun _=>ao (P:=fun _=>True) ?_ fun q _=>aH (fun _=>aq rfl) fun _=>?_) fun _=>?_
   ·repeat' split
    all_goals exact aq trivial
   ·repeat' split
    all_goals exact aq trivial
   ·exact aV (by simp only[List.length_singleton];omega) (aV (by simp only[List.length_singleton];omega) (aq ⟨by simp only[List.length_append,List.length_singleton];omega,by simp only[List.length_append,List.length_singleton];omega⟩))
   ·exact aV (by simp only[List.length_singleton];omega) (aV (by simp only[List.length_singleton];omega) (aq ⟨by simp only[List.length_append,List.length_singleton];omega,by simp only[List.length_append,List.length_singleton];omega⟩))
  ·rintro(⟨A,B,u,C⟩ | ⟨r,u⟩) j
   ·dsimp only;rw[bV h1 (by omega)];exact aq ⟨⟨by(try simp only);omega,by(try simp only);omega,j.1,j.2⟩,by(try simp only);omega⟩
   ·exact aq j
 ·rintro(⟨l,v,n⟩ | ⟨r,b⟩) j
  ·refine ao (P:=fun b=>b=true→l.length≤24) (aH (fun _=>aq fun h=>?_) fun _=>aq fun h=>(by cases h)) fun b hb=>aq fun h=>⟨j.1,hb h⟩
   have:=of_decide_eq_true h;omega
  ·exact aq fun h=>by rw[show b=false from j]at h;cases h
theorem Ca{a b:QK}(ha:a.length≤1000000):Ho (cy a b) (fun r=>r=true→a.length=b.length):=by
 refine aH (fun _=>aq fun h=>by cases h) fun hl=>?_
 have j:a.length=b.length:=by simp only[bne_iff_ne,ne_eq,Decidable.not_not]at hl;omega
 refine ao (P:=fun _=>True) (bG (fun i=>0≤i∧i≤(a.length:Int)) (fun i=>((a.length:Int) - i).toNat) ⟨Int.le_refl _,by omega⟩ fun i ⟨h1,h2⟩=>?_) ?_
 ·refine aH (fun hi=>?_) fun _=>aq trivial
  rw[dec_lt]at hi;refine aV ⟨h1,hi⟩ (aV (by omega) (aH (fun _=>aq trivial) fun _=>?_));rw[bV h1 (by omega)];exact aq ⟨⟨by(try simp only);omega,by(try simp only);omega⟩,by(try simp only);omega⟩
 ·rintro(_ | r) _
  ·exact aq fun _=>j
  ·exact aq fun _=>j
def qt(l:List (QK×QK)):Prop:=l.length≤256∧∀x∈l,Pt x
theorem qt.nil:qt []:=⟨by decide,fun _ h=>by cases h⟩
theorem DV{l:List (QK×QK)}(hl:qt l)(a b:QK):Ho (mb l a b) (fun _=>True):=by
 have j:=hl.1;refine ao (P:=fun _=>True) (ao (P:=fun _=>True) (bG (fun i=>0≤i∧i≤(l.length:Int)) (fun i=>((l.length:Int) - i).toNat) ⟨Int.le_refl _,by omega⟩ fun i ⟨h1,h2⟩=>?_) ?_) fun _ _=>aq trivial
 ·refine aH (fun hi=>?_) fun _=>aq trivial
  rw[dec_lt]at hi;refine aV ⟨h1,hi⟩ (ao (P:=fun _=>True) (ao (P:=fun _=>True) (Fa (Ca (by have:=(hl.2 _ (bU (i:=i.toNat) (by omega) ([],([]:QK)))).2;omega)) fun _ _=>trivial) fun _ _=>aq trivial) fun r _=>aH (fun _=>aq trivial) fun _=>?_);rw[bV h1 (by omega)];exact aq ⟨⟨by(try simp only);omega,by(try simp only);omega⟩,by(try simp only);omega⟩
 ·rintro(_ | r) _
  ·exact aq trivial
  ·exact aq trivial
theorem qt.snoc{l:List (QK×QK)}(h:qt l)(hl:l.length<256){x:QK×QK}(j:Pt x):qt (l++[x]):=⟨by simp only[List.length_append,List.length_singleton];omega,dZ h.2 j⟩
theorem zh(t:QX):Ho (nD t) (fun r=>qt r.1.1∧qt r.1.2):=by
 refine aH (fun _=>aq ⟨qt.nil,qt.nil⟩) fun hl=>?_
 have C:(bZ t).length≤4096:=by
  have:(bZ t).length=t.length:=by simp[bZ]
  simp only[decide_eq_true_eq]at hl;omega
 obtain⟨s,e,hc,X⟩:=HV (b:=bZ t) (fun x N=>by
  obtain⟨y,_,rfl⟩:=List.mem_map.1 N;have:=y.toNat_lt;omega) C
 rw[e];refine ao (P:=Lp (fun r=>qt r.1∧qt r.2) fun r=>qt r.1.1∧qt r.1.2) (bG (fun(a,b,i)=>0≤i∧i≤(s.length:Int)∧a.length+b.length≤256∧qt a∧qt b) (fun(_,_,i)=>((s.length:Int) - i).toNat) ⟨Int.le_refl _,by omega,by decide,qt.nil,qt.nil⟩ fun(a,b,i) ⟨h1,h2,O,A,q⟩=>?_) ?_
 rotate_left
 ·rintro(⟨a,b⟩ | r) h
  ·exact aq h
  ·exact aq h
 refine aH (fun hi=>?_) fun _=>aq ⟨A,q⟩
 rw[dec_lt]at hi;obtain⟨c,p⟩:=yD (s.getD i.toNat (0,0,0)).1;refine aV ⟨h1,hi⟩ ?_;rw[p];refine aH (fun _=>?_) fun D=>?_
 ·rw[bV h1 (by omega)];exact aq ⟨⟨by(try simp only);omega,by(try simp only);omega,O,A,q⟩,by(try simp only);omega⟩
 have first:iter (ik s) i=iter (ik s) (i+1):=by refine fX ?_;unfold ik;rw[if_pos (by simpa using hi),if_pos ⟨h1,hi⟩,p];rw[bV h1 (by omega)];simp[D]
 rw[first];refine ao (P:=fun j=>i<j∧j≤(s.length:Int)) (bG (fun j=>i<j∧j≤(s.length:Int)) (fun j=>((s.length:Int) - j).toNat) ⟨by omega,by omega⟩ fun j ⟨L,g2⟩=>?_) fun j ⟨L,g2⟩=>?_
 ·refine ao (P:=fun b=>b=true→j<(s.length:Int)) (aH (fun E=>?_) fun _=>aq fun h=>(by cases h)) fun b hb=>aH (fun I=>?_) fun _=>aq ⟨L,g2⟩
  ·rw[dec_lt]at E;obtain⟨c,p⟩:=yD (s.getD j.toNat (0,0,0)).1;refine aV ⟨by omega,E⟩ ?_;rw[p];exact aq fun _=>E
  ·have:=hb I;rw[bV (by omega) (by omega)];exact aq ⟨⟨by(try simp only);omega,by(try simp only);omega⟩,by(try simp only);omega⟩
 ·refine aV ⟨h1,hi⟩ (aH (fun _=>aq ⟨qt.nil,qt.nil⟩) fun u=>aV ⟨h1,by omega,Int.le_refl _,g2⟩ ?_);rw[wrap_i64 (by omega) (by omega)]at u;have M:a.length+b.length<256:=by simp only[decide_eq_true_eq]at u;omega
  have v:((s.take j.toNat).drop i.toNat).length≤4096:=by simp only[List.length_drop,List.length_take];omega
  refine ao (Gc v) fun(w,ok) V=>aH (fun _=>aq ⟨qt.nil,qt.nil⟩) fun J=>?_
  have z:Pt w:=V (by simpa using J);refine ao (tV v) fun h _=>ao (P:=Lp (fun(a,b)=>a.length+b.length≤256∧qt a∧qt b) fun r=>qt r.1.1∧qt r.1.2) ?_ ?_
  ·refine aH (fun _=>aV (by simp only[List.length_singleton];omega) (aq ⟨by simp only[List.length_append,List.length_singleton];omega,A.snoc (by omega) z,q⟩)) fun _=>ao (DV q _ _) fun r _=>aH (fun _=>aq ⟨qt.nil,qt.nil⟩) fun _=>aV (by simp only[List.length_singleton];omega) (aq ⟨by simp only[List.length_append,List.length_singleton];omega,A,q.snoc (by omega) z⟩)
  ·rintro(⟨Y,Z⟩ | r) B
   ·exact aq ⟨⟨by(try simp only);omega,g2,B.1,B.2.1,B.2.2⟩,by(try simp only);omega⟩
   ·exact aq B
theorem Ed(p:List Nd)(i:Nat):jq p i=p:=by
 refine List.ext_getElem (by simp) fun j h1 h2=>?_
 rw[List.getElem_set];split
 ·rename_i e;subst e;rw[List.getD_eq_getElem?_getD,List.getElem?_eq_getElem h2];rfl
 ·rfl
def TN(m:Nat)(q:List Nd):Prop:=∀j∈q,(∀p∈j.2.1,0≤p.2∧p.2<(m:Int))∧j.2.2.length≤25
theorem TN.mono{m n:Nat}{j:List Nd}(h:TN m j)(hm:m≤n):TN n j:=fun z hn=>⟨fun p hp=>by have:=(h z hn).1 p hp;omega,(h z hn).2⟩
theorem TN.set{m i:Nat}{j:List Nd}{x:Nd}(h:TN m j)(h1:∀p∈x.2.1,0≤p.2∧p.2<(m:Int))(h2:x.2.2.length≤25):TN m (j.set i x):=Eo h ⟨h1,h2⟩
section
variable{d:List (QK×QK)}(hd:qt d)
include hd
theorem J7{i:Int}(j:0≤i)(h:i<(d.length:Int)):Pt (d.getD i.toNat ([],[])):=hd.2 _ (bU (by omega) _)
theorem Gz{v:Int}(V:0≤v∧v<(d.length:Int)){A:List Nd}(hn:TN A.length A)(hp:0<A.length)(hl:A.length≤100000):
  Ho (iter (kQ d v) (A,0,0)) (fun(u,k)=>(0≤k∧k<(u.length:Int))∧TN u.length u∧u.length≤A.length+24):=by
 have E:=J7 hd V.1 V.2;generalize hx:d.getD v.toNat ([],[])=x at E;have a1:=E.2;refine Fa (P:=fun(u,k)=>∃j:Int,j≤(x.1.length:Int)∧(0≤k∧k<(u.length:Int))∧TN u.length u∧(u.length:Int)≤A.length+j) (bG (fun(u,k,j)=>0≤j∧j≤(x.1.length:Int)∧(0≤k∧k<(u.length:Int))∧TN u.length u∧(u.length:Int)≤A.length+j) (fun(_,_,j)=>((x.1.length:Int) - j).toNat) ⟨Int.le_refl _,by omega,⟨Int.le_refl _,by omega⟩,hn,by omega⟩ fun(u,k,j) ⟨h1,h2,⟨I,L⟩,J,h6⟩=>?_) (fun(u,k) ⟨j,X,N,O,q4⟩=>⟨N,O,by(try simp only at q4 ⊢);omega⟩);unfold kQ;simp only[Ed,hx];refine aH (fun Y=>?_) fun _=>aq ⟨j,h2,⟨I,L⟩,J,h6⟩
 rw[dec_lt]at Y;have hk:k.toNat<u.length:=by omega
 refine aV ⟨h1,Y⟩ (aV hk (aV ⟨I,L⟩ (ao (P:=fun(q,M)=>(0≤M∧M<(q.length:Int))∧TN q.length q∧(q.length:Int)≤A.length+(j+1)) ?_ ?_)))
 rotate_left
 ·rintro⟨q,M⟩ ⟨X,N,O⟩;dsimp only;rw[bV h1 (by omega)];exact aq ⟨⟨by(try simp only);omega,by(try simp only);omega,X,N,O⟩,by(try simp only);omega⟩
 have D:=J _ (bU hk Nd.z);generalize hy:u.getD k.toNat Nd.z=y at D;generalize hc:x.1.getD j.toNat 0=c;refine aH (fun _=>?_) fun hf=>?_
 rotate_left
 ·cases e:bh (α:=Int) (.int .i32) y.2.1 c with
  | none=>rw[e]at hf;exact absurd rfl hf
  | some t =>obtain⟨M,B⟩:=sG e;exact aq ⟨D.1 _ B,J,by omega⟩
 refine aV hk (aV ⟨I,L⟩ (ao (P:=fun q=>q.length=u.length∧(q.getD k.toNat Nd.z).1=true∧TN u.length q) ?_ fun q ⟨g1,g2,g3⟩=>?_))
 ·refine aH (fun _=>aV ⟨I,L⟩ (aV hk (aq ⟨by simp,?_,J.set (fun p hp=>by cases hp) D.2⟩))) fun hb=>aq ⟨rfl,?_,J⟩
  ·rw[List.getD_eq_getElem?_getD,List.getElem?_set_self hk];rfl
  ·rw[hy];simpa using hb
 ·have B:k.toNat<q.length:=by omega
  have C:=g3 _ (bU B Nd.z);refine aV B (aV ⟨I,by omega⟩ (aV g2 (aV (by rw[List.length_set];omega) (aq ⟨?_,?_,?_⟩))))
  ·simp only[List.length_append,List.length_singleton,List.length_set];omega
  ·simp only[List.length_append,List.length_singleton,List.length_set];refine dZ (P:=fun Z:Nd=>(∀p∈Z.2.1,0≤p.2∧p.2<((q.length+1:Nat):Int))∧Z.2.2.length≤25) (TN.set (g3.mono (by omega)) (fun p hp=>?_) C.2) ⟨fun p hp=>(by cases hp),by decide⟩;rcases mem_set hp with e | e
   ·rw[e];exact⟨by(try simp only);omega,by(try simp only);omega⟩
   ·have:=C.1 p e;omega
  ·simp only[List.length_append,List.length_singleton,List.length_set];omega
theorem HP{v:Int}(J:0≤v∧v<(d.length:Int)){D:List Nd}(hn:TN D.length D){k:Int}(hk:0≤k∧k<(D.length:Int)):
  Ho (iter (kO d v k) (D,0)) (fun p=>TN p.length p∧p.length=D.length):=by
 have B:=J7 hd J.1 J.2;generalize M:d.getD v.toNat ([],[])=x at B;have N:=B.2;have O:=B.1;refine bG (fun(p,j)=>0≤j∧j≤(x.2.length:Int)∧TN p.length p∧p.length=D.length∧j≤((p.getD k.toNat Nd.z).2.2.length:Int)) (fun(_,j)=>((x.2.length:Int) - j).toNat) ⟨Int.le_refl _,by omega,hn,rfl,by omega⟩ fun(p,j) ⟨h1,h2,E,V,Z⟩=>?_
 unfold kO;simp only[Ed,M];refine aH (fun L=>?_) fun _=>aq ⟨E,V⟩
 rw[dec_lt]at L;have u:k.toNat<p.length:=by omega
 have I:=E _ (bU u Nd.z);refine aV ⟨h1,L⟩ (aV u (ao (P:=fun q=>q.length=p.length∧TN p.length q∧j<((q.getD k.toNat Nd.z).2.2.length:Int)) ?_ fun q ⟨X,g2,g3⟩=>?_))
 ·refine aH (fun hc=>?_) fun hc=>aq ⟨rfl,E,by simpa using hc⟩
  have Y:((p.getD k.toNat Nd.z).2.2.length:Int)≤j:=by simpa using hc
  refine aV u (aV (by simp only[List.length_singleton];omega) (aq ⟨by simp,E.set I.1 (by simp only[List.length_append,List.length_singleton];omega),?_⟩));rw[List.getD_eq_getElem?_getD,List.getElem?_set_self u];simp only[Option.getD_some,List.length_append,List.length_singleton];omega
 ·have C:k.toNat<q.length:=by omega
  have A:=g2 _ (bU C Nd.z);refine aV C (aV ⟨h1,g3⟩ (aV (by omega) (aV ⟨h1,g3⟩ (aV (by omega) ?_))));rw[bV h1 (by omega)];refine aq ⟨⟨by(try simp only);omega,by(try simp only);omega,?_,by simp only[List.length_set];omega,?_⟩,by(try simp only);omega⟩
  ·simp only[List.length_set,X];exact g2.set A.1 (by simp only[List.length_set];exact A.2)
  ·simp only;rw[List.getD_eq_getElem?_getD,List.getElem?_set_self C];simp only[Option.getD_some,List.length_set];omega
def Nt(t:Option Hx):Prop:=∀x,t=some x→0<x.1.length∧∀j∈x.1,(∀p∈j.1,0≤p.2∧p.2<(x.1.length:Int))∧j.2.length≤25
theorem Aq:Ho (pH d) (fun t=>t.isSome=true∧Nt t):=by
 have hl:=hd.1;refine aV (by decide) (ao (P:=fun j=>0<j.length∧TN j.length j) (bG (fun(j,i)=>0≤i∧i≤(d.length:Int)∧0<j.length∧TN j.length j∧(j.length:Int)≤1+24*i) (fun(_,i)=>((d.length:Int) - i).toNat) ⟨Int.le_refl _,by omega,by decide,fun z h=>?_,by decide⟩ fun(j,i) ⟨h1,h2,u,v,I⟩=>?_) fun j ⟨h1,h2⟩=>aq ⟨rfl,fun x A=>?_⟩)
 ·cases List.mem_singleton.1 h;exact⟨fun p hp=>(by cases hp),by decide⟩
 ·refine aH (fun hi=>?_) fun _=>aq ⟨u,v⟩
  rw[dec_lt]at hi;refine aV ⟨h1,hi⟩ (ao (Gz hd ⟨h1,hi⟩ v u (by omega)) fun(B,k) ⟨q,C,J⟩=>aV q (ao (HP hd ⟨h1,hi⟩ C q) fun L ⟨D,M⟩=>?_));rw[bV h1 (by omega)];have:k<(B.length:Int):=q.2;exact aq ⟨⟨by(try simp only);omega,by(try simp only);omega,by(try simp only);omega,D,by(try simp only);omega⟩,by(try simp only);omega⟩
 ·cases A;refine⟨by simpa using h1,fun z hn=>?_⟩;obtain⟨y,E,rfl⟩:=List.mem_map.1 hn;simp only[List.length_map];exact h2 y E
end
theorem FD{t:Option Hx}(ht:Nt t){w:QK}(hw:w.length≤4096):Ho (fu t w) (fun v=>v.length=w.length+1):=by
 have B:IntKind.i64.wrap ((w.length:Int)+1)=((w.length+1:Nat):Int):=bM (by omega);unfold fu;rw[B];refine aV ⟨by omega,by omega,by omega,by omega⟩ (aH (fun _=>aq (by simp)) fun Y=>aV (by simp only[List.length_singleton];omega) (aV (by simp only[List.length_append,List.length_singleton];omega) ?_));cases t with
 | none=>exact absurd rfl Y
 | some x =>
 obtain⟨x0,Z⟩:=ht x rfl;have p:((([46]:QK)++w)++([46]:QK)).length=w.length+2:=by simp
 refine ao (P:=fun v=>v.length=w.length+1) (bG (fun(v,i)=>0≤i∧i≤((w.length+2:Nat):Int)∧v.length=w.length+1) (fun(_,i)=>(((w.length+2:Nat):Int) - i).toNat) ⟨Int.le_refl _,by omega,by simp⟩ fun(v,i) ⟨h1,h2,M⟩=>?_) fun v u=>aq u
 refine aH (fun hi=>?_) fun _=>aq M
 rw[dec_lt,p]at hi;refine ao (P:=fun v=>v.length=w.length+1) (bG (fun(v,k,j)=>(0≤k∧k<(x.1.length:Int))∧0≤j∧j≤((w.length+2:Nat):Int)∧v.length=w.length+1) (fun(_,_,j)=>(((w.length+2:Nat):Int) - j).toNat) ⟨⟨Int.le_refl _,by omega⟩,h1,by omega,M⟩ fun(v,k,j) ⟨⟨N,g2⟩,g3,g4,g5⟩=>?_) fun v u=>?_
 rotate_left
 ·rw[bV h1 (by omega)];exact aq ⟨⟨by(try simp only);omega,by(try simp only);omega,u⟩,by(try simp only);omega⟩
 have z:=Z _ (bU (i:=k.toNat) (by omega) ([],([]:QK)));refine(aV ⟨N,g2⟩ (ao (P:=fun v=>v.length=w.length+1) (bG (fun(v,l)=>0≤l∧l≤(((x.1.getD k.toNat ([],([]:QK))).2.length:Nat):Int)∧v.length=w.length+1) (fun(_,l)=>((((x.1.getD k.toNat ([],([]:QK))).2.length:Nat):Int) - l).toNat) ⟨Int.le_refl _,by omega,g5⟩ fun(v,l) ⟨O,e2,C⟩=>?_) fun v u=>?_))
 ·refine aH (fun hl=>?_) fun _=>aq C
  have D:l<(((x.1.getD k.toNat ([],([]:QK))).2.length:Nat):Int):=by simpa using hl
  have e4:=z.2;have e5:IntKind.i64.wrap (IntKind.i64.wrap (i+l) - 1)=i+l - 1:=by rw[wrap_i64 (x:=i+l) (by omega) (by omega),wrap_i64 (by omega) (by omega)]
  refine aV ⟨O,D⟩ ?_;rw[e5];refine ao (P:=fun b=>b=true→0≤i+l - 1∧i+l - 1<(v.length:Int)) (aH (fun ha=>aq fun hb=>⟨of_decide_eq_true ha,of_decide_eq_true hb⟩) fun _=>aq fun h=>(by cases h)) fun b hb=>ao (P:=fun v=>v.length=w.length+1) (aH (fun E=>?_) fun _=>aq C) fun v' I=>?_
  ·obtain⟨V,X⟩:=hb E;exact aV ⟨V,X⟩ (aV (by omega) (aV ⟨V,X⟩ (aV (by omega) (aq (by simpa using C)))))
  ·rw[bV O (by omega)];exact aq ⟨⟨by(try simp only);omega,by(try simp only);omega,I⟩,by(try simp only);omega⟩
 ·rw[p];refine aH (fun _=>aq u) fun J=>?_
  have A:j<((w.length+2:Nat):Int):=by simp only[beq_iff_eq]at J;omega
  refine aV rfl (aV ⟨N,g2⟩ (aV ⟨g3,A⟩ (aV (by omega) (aH (fun _=>aq u) fun hf=>?_))));rw[bV g3 (by omega)];refine aq ⟨⟨?_,by(try simp only);omega,by(try simp only);omega,u⟩,by(try simp only);omega⟩;show 0≤(bh (α:=Int) (.int .i32) (x.1.getD k.toNat ([],([]:QK))).1 _).getD 0∧(bh (α:=Int) (.int .i32) (x.1.getD k.toNat ([],([]:QK))).1 _).getD 0<_;cases e:bh (α:=Int) (.int .i32) (x.1.getD k.toNat ([],([]:QK))).1 (((([46]:QK)++w)++([46]:QK)).getD j.toNat 0)with
  | none=>exact⟨Int.le_refl _,by simp only[Option.getD_none];omega⟩
  | some q =>
   obtain⟨k',L⟩:=sG e;exact z.1 _ L
end
end Go.Proofs.YtobbjfkfmdiklaaGreatDoor.T
