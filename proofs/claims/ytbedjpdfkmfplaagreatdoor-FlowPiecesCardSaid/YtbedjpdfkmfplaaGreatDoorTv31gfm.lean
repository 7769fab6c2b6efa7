import Derived.Test.YtbedjpdfkmfplaaGreatDoorTv31gdm
import Derived.Test.YtbedjpdfkmfplaaGreatDoorTv31fm
import Derived.Lib.TrailingZeros
namespace Go.Proofs.YtbedjpdfkmfplaaGreatDoor.T
open Go Go.Tv Go.Proofs
open Go.IntKind (i64 u32 u64)
noncomputable section
theorem Ka:∀i,i<32→KY.getD i 0=((Lib.deBruijn32tab.getD i 0:Nat):Int):=by decide +kernel
theorem Nl{n m:Nat}(D:m≤24)(v:0<n)(hn:n<2 ^ m):0≤qE (n:Int)∧qE (n:Int)<(m:Int):=by
 have j:2 ^ m≤2 ^ 24:=Nat.pow_le_pow_right (by decide) D;have f:n<2 ^ 32:=Nat.lt_of_lt_of_le hn (Nat.le_trans j (by decide));obtain⟨A,B⟩:=Lib.lowest_bit 32 n (by omega) f;have E:Lib.ctz 32 n=Lib.ctzFrom 32 n:=by simp[Lib.ctz,Nat.ne_of_gt v]
 obtain⟨q,u,_⟩:=Lib.ctzFrom_spec 32 n (by omega) f;rw[←E]at u;generalize Lib.ctz 32 n=k at A B u;have hk:k<m:=by
  rcases Nat.lt_or_ge k m with h | h
  ·exact h
  ·have N:2 ^ m≤2 ^ k:=Nat.pow_le_pow_right (by decide) h;have C:2 ^ k≤n:=Nat.le_of_dvd v (by rw[u];exact Nat.dvd_mul_right _ _);omega
 have hb:bits BinOp.and u32 (n:Int) (-(n:Int) % 4294967296)=((2 ^ k:Nat):Int):=by
  have I : -(n:Int) % 4294967296=((2 ^ 32 - n:Nat):Int):=by
   have e:(2:Nat) ^ 32=4294967296:=by decide
   omega
  rw[I];have J:HD (n:Int):=⟨by omega,by omega⟩;have C:HD ((2 ^ 32 - n:Nat):Int):=by
   have e:(2:Nat) ^ 32=4294967296:=by decide
   exact⟨by omega,by omega⟩
  have:=F0 J C;rw[Int.toNat_natCast,Int.toNat_natCast,A]at this;exact this
 obtain⟨L,M⟩:=Lib.deBruijn32_at k B;have key:qE (n:Int)=(k:Int):=by
  unfold qE;rw[if_neg (by rw[beq_iff_eq];omega),hb];have e:(((2 ^ k:Nat):Int)*125613361 % 4294967296 / 134217728).toNat=2 ^ k*125613361 % 4294967296 / 134217728:=by generalize (2 ^ k:Nat)=q;rw[show((q:Nat):Int)*125613361=((q*125613361:Nat):Int) by rw[Int.natCast_mul];rfl];generalize q*125613361=z;omega
  rw[e,Ka _ L,M]
 rw[key];exact⟨by omega,by omega⟩
theorem Gk:∀(n f:Nat) (x:Tree),n≤f→Dp n x→Ho (lD f x.op x.set x.kids) (Dp n)
 | 0,_,_,_,h=>h.elim
 | n+1,0,_,hl,_=>absurd hl (by omega)
 | n+1,f+1,.node o s q,hl,h=>by
  obtain⟨hk,u⟩:=h;have v:=fun(i:Nat) (hi:i<q.length)=>Gk n f _ (by omega) (Dp.getD u hi (Tree.node 0 0 []))
  simp only[lD,Tree.op,Tree.set,Tree.kids];unfold mG;refine ao (P:=fun l=>l.length≤1000000∧∀k∈l,Dp n k) (bG (fun(l,i)=>0≤i∧i≤(q.length:Int)∧(l.length:Int)=i∧∀k∈l,Dp n k) (fun(_,i)=>((q.length:Int) - i).toNat) ⟨Int.le_refl _,by simp,rfl,fun k hk=>by cases hk⟩ fun(l,i) ⟨z,C,D,A⟩=>?_) fun l hl=>aq hl
  refine aJ (fun hi=>?_) fun _=>aq ⟨by omega,A⟩
  rw[dec_lt]at hi;refine aW ⟨z,hi⟩ (ao (P:=fun x=>∃j,j<q.length∧x=((q.getD j (Tree.node 0 0 [])).op,(q.getD j (Tree.node 0 0 [])).set,(q.getD j (Tree.node 0 0 [])).kids)) ?_ ?_)
  ·refine aJ (fun _=>?_) fun _=>aq ⟨i.toNat,by omega,rfl⟩
   rw[wrap_i64 (x:=(q.length:Int) - 1) (by omega) (by omega),wrap_i64 (by omega) (by omega)];exact aW (by omega) (aq ⟨_,by omega,rfl⟩)
  ·rintro⟨a,b,c⟩ ⟨j,B,e⟩;cases e;refine ao (v j B) fun r v=>aW (by simp only[List.length_singleton];omega) ?_
   rw[bS z (by omega)];exact aq ⟨⟨by(try simp only);omega,by(try simp only);omega,by simp only[List.length_append,List.length_singleton];omega,eI A (by rw[ux];exact v)⟩,by(try simp only);omega⟩
theorem WB.wa{nx:QZ}{ou:QK}{k m:Nat}(h:WB nx ou k m)(e:0<nx.length):WA nx k:=by
 refine⟨e,fun i hi=>by rw[(h.row hi).1];exact Nat.le_refl _,fun i c hi j=>?_⟩;obtain⟨q,f⟩:=h.row hi;exact f _ (bU (by omega) 0)
def Mk(m:Option Z5)(c:Int):Prop:=(c=0∧∃x,m=some x∧Mo x x.1.1.length∧x.1.1.length≤24)∨(c≠0∧m=none)
theorem EM{cl:QQ}{O V:Int}{tr:QK}{e:XJ}(h:Gn cl tr e):Ho (tL cl O V tr e) (fun r=>Mk r.1 r.2):=by
 refine aJ (fun _=>aq (.inr ⟨by decide,rfl⟩)) fun X=>?_
 have A:0<cl.length:=by simp only[beq_iff_eq]at X;omega
 have f:=h.rl;refine ao (P:=fun(a,b)=>(a.length=e.length∧b.length=e.length)∧(∀x∈a,Dp 100 x)∧∀x∈b,Dp 100 x) (bG (fun(a,b,i)=>0≤i∧i≤(e.length:Int)∧((a.length:Int)=i∧(b.length:Int)=i)∧(∀x∈a,Dp 100 x)∧∀x∈b,Dp 100 x) (fun(_,_,i)=>((e.length:Int) - i).toNat) ⟨Int.le_refl _,by omega,⟨rfl,rfl⟩,fun _ h=>(by cases h),fun _ h=>(by cases h)⟩ fun(a,b,i) ⟨J,h2,h3,L,M⟩=>?_) ?_
 ·refine aJ (fun hi=>?_) fun hi=>aq ⟨by rw[dec_lt]at hi;omega,L,M⟩
  rw[dec_lt]at hi;obtain⟨_,B,C⟩:=h.rk _ (bU (i:=i.toNat) (by omega) (0,(Tree.node 0 0 []),(Tree.node 0 0 [])));refine aW ⟨J,hi⟩ (aW (by simp only[List.length_singleton];omega) (ao (Gk 100 1000 _ (by omega) C) fun r D=>aW (by simp only[List.length_singleton];omega) ?_));rw[bS J (by omega)];exact aq ⟨⟨by(try simp only);omega,by(try simp only);omega,by simp only[List.length_append,List.length_singleton];omega,eI L (by rw[ux];exact B),eI M (by rw[ux];exact D)⟩,by(try simp only);omega⟩
 rintro⟨a,b⟩ ⟨⟨Y,Z⟩,a2,b2⟩;refine ao (vE a2 cl.length) fun(r,c) D=>aJ (fun E=>aq (.inr ⟨by simpa using E,rfl⟩)) fun E=>?_
 obtain⟨r1,r2⟩:=D (by simpa using E);refine ao (vE b2 cl.length) fun(q,d) hq=>aJ (fun hd=>aq (.inr ⟨by simpa using hd,rfl⟩)) fun hd=>?_
 obtain⟨B,C⟩:=hq (by simpa using hd);refine ao (sG r2 r1 h.LM) fun(v,v') hv=>ao (sG C B h.LM) fun(u,u') hu=>aq (.inl ⟨rfl,_,rfl,?_,h.LM⟩)
 obtain⟨v1,j⟩:=hv;obtain⟨u1,z⟩:=hu;rw[Y]at j;rw[Z]at z;refine⟨A,Nat.le_of_eq h.tl.symm,fun i hi=>h.tc _ (bU hi 0),j.wa v1.1,Nat.le_of_eq j.ol.symm,z.wa u1.1,Nat.le_of_eq z.ol.symm,fun s t N ht hb=>?_,J4 fun x hx=>(h.rk x hx).1⟩;simp only at N ht hb ⊢;obtain⟨x0,x1⟩:=j.ob _ (bU (l:=v.2) (i:=s) (by rw[j.ol];exact N) 0);obtain⟨y0,y1⟩:=z.ob _ (bU (l:=u.2) (i:=t) (by rw[z.ol];exact ht) 0);generalize v.2.getD s 0=x at *;generalize u.2.getD t 0=y at *;have a3:2 ^ e.length≤2 ^ 24:=Nat.pow_le_pow_right (by decide) f;rw[F0 ⟨x0,by omega⟩ ⟨y0,by omega⟩]at hb ⊢;have I:=Nat.and_lt_two_pow (n:=e.length) x.toNat (y:=y.toNat) (by omega);refine Nl f ?_ I;simp only[bne_iff_ne,ne_eq]at hb;omega
theorem xe(t:QX):Ho (jk t) (fun r=>Mk r.1 r.2.1):=by
 refine ao (H5 t) fun(p,c) e=>aJ (fun f=>aq (.inr ⟨by simpa using f,rfl⟩)) fun _=>ao (EM e) fun(r,d) j=>aq j
theorem zS(c:Int):∃b,jS c=some b:=by
 unfold jS
 repeat' split
 all_goals exact⟨_,rfl⟩
theorem u5{l:XK}(hl:l.length≤4096):Ho (iG l) (fun _=>True):=by
 refine ao (P:=fun _=>True) (ao (P:=fun _=>True) (ao (P:=fun _=>True) (bG (fun i=>0≤i∧i≤(l.length:Int)) (fun i=>((l.length:Int) - i).toNat) ⟨Int.le_refl _,by omega⟩ fun i ⟨e,f⟩=>?_) ?_) fun _ _=>aq trivial) fun _ _=>aq trivial
 ·refine aJ (fun hi=>?_) fun _=>aq trivial
  rw[dec_lt]at hi;refine aW ⟨e,hi⟩ (aJ (fun _=>aq trivial) fun _=>?_);rw[bS e (by omega)];exact aq ⟨⟨by(try simp only);omega,by(try simp only);omega⟩,by(try simp only);omega⟩
 ·rintro(_ | r) _
  ·exact aq trivial
  ·exact aq trivial
def Pt(x:QK×QK):Prop:=x.2.length=x.1.length+1∧x.1.length≤24
theorem G2{d:XK}(hd:d.length≤4096):Ho (sA d) (fun r=>r.2=true→Pt r.1):=by
 refine ao (u5 hd) fun h _=>ao (P:=Lp (fun(l,v,n)=>v.length=l.length+1∧l.length≤d.length) fun r=>r.2=false) (bG (fun(l,v,_,n,i)=>0≤i∧i≤(d.length:Int)∧(l.length:Int)≤i∧v.length=l.length+1) (fun(_,_,_,_,i)=>((d.length:Int) - i).toNat) ⟨Int.le_refl _,by omega,Int.le_refl _,rfl⟩ fun(l,v,b,n,i) ⟨j,z,A,f⟩=>?_) ?_
 ·refine aJ (fun hi=>?_) fun _=>aq ⟨f,by omega⟩
  rw[dec_lt]at hi;refine aW ⟨j,hi⟩ (aJ (fun _=>aq rfl) fun _=>ao (P:=fun _=>True) ?_ fun B _=>ao (P:=Lp (fun(l,v,_,n)=>(l.length:Int)≤i+1∧v.length=l.length+1) fun r=>r.2=false) ?_ ?_)
  ·refine aJ (fun _=>aq trivial) fun _=>aJ (fun _=>aq trivial) fun _=>aq trivial
  ·refine aJ (fun _=>ao (P:=fun _=>True) ?_ fun q _=>aJ (fun _=>aq rfl) fun _=>aW (by omega) (aW (by omega) (aJ (fun _=>aW (by rw[List.length_set];omega) (aW (by rw[List.length_set];omega) (aq ⟨by(try simp only);omega,by simp only[List.length_set];exact f⟩))) fun _=>aq ⟨by(try simp only);omega,by simp only[List.length_set];exact f⟩))) fun _=>aJ (fun _=>ao (P:=fun _=>True) ?_ fun q _=>aJ (fun _=>aq rfl) fun _=>?_) fun _=>?_
   ·repeat' split
    all_goals exact aq trivial
   ·repeat' split
    all_goals exact aq trivial
   ·exact aW (by simp only[List.length_singleton];omega) (aW (by simp only[List.length_singleton];omega) (aq ⟨by simp only[List.length_append,List.length_singleton];omega,by simp only[List.length_append,List.length_singleton];omega⟩))
   ·exact aW (by simp only[List.length_singleton];omega) (aW (by simp only[List.length_singleton];omega) (aq ⟨by simp only[List.length_append,List.length_singleton];omega,by simp only[List.length_append,List.length_singleton];omega⟩))
  ·rintro(⟨C,D,u,E⟩ | ⟨r,u⟩) e
   ·dsimp only;rw[bS j (by omega)];exact aq ⟨⟨by(try simp only);omega,by(try simp only);omega,e.1,e.2⟩,by(try simp only);omega⟩
   ·exact aq e
 ·rintro(⟨l,v,n⟩ | ⟨r,b⟩) e
  ·refine ao (P:=fun b=>b=true→l.length≤24) (aJ (fun _=>aq fun h=>?_) fun _=>aq fun h=>(by cases h)) fun b hb=>aq fun h=>⟨e.1,hb h⟩
   have:=of_decide_eq_true h;omega
  ·exact aq fun h=>by rw[show b=false from e]at h;cases h
theorem Bz{a b:QK}(ha:a.length≤1000000):Ho (cC a b) (fun r=>r=true→a.length=b.length):=by
 refine aJ (fun _=>aq fun h=>by cases h) fun hl=>?_
 have e:a.length=b.length:=by simp only[bne_iff_ne,ne_eq,Decidable.not_not]at hl;omega
 refine ao (P:=fun _=>True) (bG (fun i=>0≤i∧i≤(a.length:Int)) (fun i=>((a.length:Int) - i).toNat) ⟨Int.le_refl _,by omega⟩ fun i ⟨f,j⟩=>?_) ?_
 ·refine aJ (fun hi=>?_) fun _=>aq trivial
  rw[dec_lt]at hi;refine aW ⟨f,hi⟩ (aW (by omega) (aJ (fun _=>aq trivial) fun _=>?_));rw[bS f (by omega)];exact aq ⟨⟨by(try simp only);omega,by(try simp only);omega⟩,by(try simp only);omega⟩
 ·rintro(_ | r) _
  ·exact aq fun _=>e
  ·exact aq fun _=>e
def rz(l:List (QK×QK)):Prop:=l.length≤256∧∀x∈l,Pt x
theorem rz.nil:rz []:=⟨by decide,fun _ h=>by cases h⟩
theorem EP{l:List (QK×QK)}(hl:rz l)(a b:QK):Ho (mK l a b) (fun _=>True):=by
 have f:=hl.1;refine ao (P:=fun _=>True) (ao (P:=fun _=>True) (bG (fun i=>0≤i∧i≤(l.length:Int)) (fun i=>((l.length:Int) - i).toNat) ⟨Int.le_refl _,by omega⟩ fun i ⟨e,j⟩=>?_) ?_) fun _ _=>aq trivial
 ·refine aJ (fun hi=>?_) fun _=>aq trivial
  rw[dec_lt]at hi;refine aW ⟨e,hi⟩ (ao (P:=fun _=>True) (ao (P:=fun _=>True) (Gb (Bz (by have:=(hl.2 _ (bU (i:=i.toNat) (by omega) ([],([]:QK)))).2;omega)) fun _ _=>trivial) fun _ _=>aq trivial) fun r _=>aJ (fun _=>aq trivial) fun _=>?_);rw[bS e (by omega)];exact aq ⟨⟨by(try simp only);omega,by(try simp only);omega⟩,by(try simp only);omega⟩
 ·rintro(_ | r) _
  ·exact aq trivial
  ·exact aq trivial
theorem rz.snoc{l:List (QK×QK)}(h:rz l)(hl:l.length<256){x:QK×QK}(e:Pt x):rz (l++[x]):=⟨by simp only[List.length_append,List.length_singleton];omega,eI h.2 e⟩
theorem AE(t:QX):Ho (oH t) (fun r=>rz r.1.1∧rz r.1.2):=by
 refine aJ (fun _=>aq ⟨rz.nil,rz.nil⟩) fun hl=>?_
 have D:(cf t).length≤4096:=by
  have:(cf t).length=t.length:=by simp[cf]
  simp only[decide_eq_true_eq]at hl;omega
 obtain⟨s,e,Y,Z⟩:=IT (b:=cf t) (fun x O=>by
  obtain⟨y,_,rfl⟩:=List.mem_map.1 O;have:=y.toNat_lt;omega) D
 rw[e];refine ao (P:=Lp (fun r=>rz r.1∧rz r.2) fun r=>rz r.1.1∧rz r.1.2) (bG (fun(a,b,i)=>0≤i∧i≤(s.length:Int)∧a.length+b.length≤256∧rz a∧rz b) (fun(_,_,i)=>((s.length:Int) - i).toNat) ⟨Int.le_refl _,by omega,by decide,rz.nil,rz.nil⟩ fun(a,b,i) ⟨q,h2,V,B,u⟩=>?_) ?_
 rotate_left
 ·rintro(⟨a,b⟩ | r) h
  ·exact aq h
  ·exact aq h
 refine aJ (fun hi=>?_) fun _=>aq ⟨B,u⟩
 rw[dec_lt]at hi;obtain⟨c,f⟩:=zS (s.getD i.toNat (0,0,0)).1;refine aW ⟨q,hi⟩ ?_;rw[f];refine aJ (fun _=>?_) fun E=>?_
 ·rw[bS q (by omega)];exact aq ⟨⟨by(try simp only);omega,by(try simp only);omega,V,B,u⟩,by(try simp only);omega⟩
 have first:iter (ix s) i=iter (ix s) (i+1):=by refine gA ?_;unfold ix;rw[if_pos (by simpa using hi),if_pos ⟨q,hi⟩,f];rw[bS q (by omega)];simp[E]
 rw[first];refine ao (P:=fun j=>i<j∧j≤(s.length:Int)) (bG (fun j=>i<j∧j≤(s.length:Int)) (fun j=>((s.length:Int) - j).toNat) ⟨by omega,by omega⟩ fun j ⟨M,g2⟩=>?_) fun j ⟨M,g2⟩=>?_
 ·refine ao (P:=fun b=>b=true→j<(s.length:Int)) (aJ (fun I=>?_) fun _=>aq fun h=>(by cases h)) fun b hb=>aJ (fun J=>?_) fun _=>aq ⟨M,g2⟩
  ·rw[dec_lt]at I;obtain⟨c,f⟩:=zS (s.getD j.toNat (0,0,0)).1;refine aW ⟨by omega,I⟩ ?_;rw[f];exact aq fun _=>I
  ·have:=hb J;rw[bS (by omega) (by omega)];exact aq ⟨⟨by(try simp only);omega,by(try simp only);omega⟩,by(try simp only);omega⟩
 ·refine aW ⟨q,hi⟩ (aJ (fun _=>aq ⟨rz.nil,rz.nil⟩) fun v=>aW ⟨q,by omega,Int.le_refl _,g2⟩ ?_);rw[wrap_i64 (by omega) (by omega)]at v;have N:a.length+b.length<256:=by simp only[decide_eq_true_eq]at v;omega
  have z:((s.take j.toNat).drop i.toNat).length≤4096:=by simp only[List.length_drop,List.length_take];omega
  refine ao (G2 z) fun(w,ok) X=>aJ (fun _=>aq ⟨rz.nil,rz.nil⟩) fun L=>?_
  have A:Pt w:=X (by simpa using L);refine ao (u5 z) fun h _=>ao (P:=Lp (fun(a,b)=>a.length+b.length≤256∧rz a∧rz b) fun r=>rz r.1.1∧rz r.1.2) ?_ ?_
  ·refine aJ (fun _=>aW (by simp only[List.length_singleton];omega) (aq ⟨by simp only[List.length_append,List.length_singleton];omega,B.snoc (by omega) A,u⟩)) fun _=>ao (EP u _ _) fun r _=>aJ (fun _=>aq ⟨rz.nil,rz.nil⟩) fun _=>aW (by simp only[List.length_singleton];omega) (aq ⟨by simp only[List.length_append,List.length_singleton];omega,B,u.snoc (by omega) A⟩)
  ·rintro(⟨a',b'⟩ | r) C
   ·exact aq ⟨⟨by(try simp only);omega,g2,C.1,C.2.1,C.2.2⟩,by(try simp only);omega⟩
   ·exact aq C
theorem FN(f:List Nd)(i:Nat):jD f i=f:=by
 refine List.ext_getElem (by simp) fun j u q=>?_
 rw[List.getElem_set];split
 ·rename_i e;subst e;rw[List.getD_eq_getElem?_getD,List.getElem?_eq_getElem q];rfl
 ·rfl
def TN(m:Nat)(f:List Nd):Prop:=∀e∈f,(∀p∈e.2.1,0≤p.2∧p.2<(m:Int))∧e.2.2.length≤25
theorem TN.mono{m n:Nat}{j:List Nd}(h:TN m j)(D:m≤n):TN n j:=fun z hn=>⟨fun p B=>by have:=(h z hn).1 p B;omega,(h z hn).2⟩
theorem TN.set{m i:Nat}{e:List Nd}{x:Nd}(h:TN m e)(f:∀p∈x.2.1,0≤p.2∧p.2<(m:Int))(j:x.2.2.length≤25):TN m (e.set i x):=Gg h ⟨f,j⟩
section
variable{d:List (QK×QK)}(hd:rz d)
include hd
theorem KZ{i:Int}(e:0≤i)(h:i<(d.length:Int)):Pt (d.getD i.toNat ([],[])):=hd.2 _ (bU (by omega) _)
theorem ID{v:Int}(V:0≤v∧v<(d.length:Int)){u:List Nd}(hn:TN u.length u)(D:0<u.length)(hl:u.length≤100000):
  Ho (iter (lr d v) (u,0,0)) (fun(q,k)=>(0≤k∧k<(q.length:Int))∧TN q.length q∧q.length≤u.length+24):=by
 have E:=KZ hd V.1 V.2;generalize hx:d.getD v.toNat ([],[])=x at E;have a1:=E.2;refine Gb (P:=fun(q,k)=>∃j:Int,j≤(x.1.length:Int)∧(0≤k∧k<(q.length:Int))∧TN q.length q∧(q.length:Int)≤u.length+j) (bG (fun(q,k,j)=>0≤j∧j≤(x.1.length:Int)∧(0≤k∧k<(q.length:Int))∧TN q.length q∧(q.length:Int)≤u.length+j) (fun(_,_,j)=>((x.1.length:Int) - j).toNat) ⟨Int.le_refl _,by omega,⟨Int.le_refl _,by omega⟩,hn,by omega⟩ fun(q,k,j) ⟨X,h2,⟨I,L⟩,J,h6⟩=>?_) (fun(q,k) ⟨j,Y,N,O,q4⟩=>⟨N,O,by(try simp only at q4 ⊢);omega⟩);unfold lr;simp only[FN,hx];refine aJ (fun Z=>?_) fun _=>aq ⟨j,h2,⟨I,L⟩,J,h6⟩
 rw[dec_lt]at Z;have hk:k.toNat<q.length:=by omega
 refine aW ⟨X,Z⟩ (aW hk (aW ⟨I,L⟩ (ao (P:=fun(f,M)=>(0≤M∧M<(f.length:Int))∧TN f.length f∧(f.length:Int)≤u.length+(j+1)) ?_ ?_)))
 rotate_left
 ·rintro⟨f,M⟩ ⟨Y,N,O⟩;dsimp only;rw[bS X (by omega)];exact aq ⟨⟨by(try simp only);omega,by(try simp only);omega,Y,N,O⟩,by(try simp only);omega⟩
 have C:=J _ (bU hk Nd.z);generalize hy:q.getD k.toNat Nd.z=y at C;generalize hc:x.1.getD j.toNat 0=c;refine aJ (fun _=>?_) fun hf=>?_
 rotate_left
 ·cases e:aT (α:=Int) (.int .i32) y.2.1 c with
  | none=>rw[e]at hf;exact absurd rfl hf
  | some t =>obtain⟨M,A⟩:=tg e;exact aq ⟨C.1 _ A,J,by omega⟩
 refine aW hk (aW ⟨I,L⟩ (ao (P:=fun f=>f.length=q.length∧(f.getD k.toNat Nd.z).1=true∧TN q.length f) ?_ fun f ⟨g1,g2,g3⟩=>?_))
 ·refine aJ (fun _=>aW ⟨I,L⟩ (aW hk (aq ⟨by simp,?_,J.set (fun p D=>by cases D) C.2⟩))) fun hb=>aq ⟨rfl,?_,J⟩
  ·rw[List.getD_eq_getElem?_getD,List.getElem?_set_self hk];rfl
  ·rw[hy];simpa using hb
 ·have A:k.toNat<f.length:=by omega
  have B:=g3 _ (bU A Nd.z);refine aW A (aW ⟨I,by omega⟩ (aW g2 (aW (by rw[List.length_set];omega) (aq ⟨?_,?_,?_⟩))))
  ·simp only[List.length_append,List.length_singleton,List.length_set];omega
  ·simp only[List.length_append,List.length_singleton,List.length_set];refine eI (P:=fun nd:Nd=>(∀p∈nd.2.1,0≤p.2∧p.2<((f.length+1:Nat):Int))∧nd.2.2.length≤25) (TN.set (g3.mono (by omega)) (fun p D=>?_) B.2) ⟨fun p D=>(by cases D),by decide⟩;rcases mem_set D with e | e
   ·rw[e];exact⟨by(try simp only);omega,by(try simp only);omega⟩
   ·have:=B.1 p e;omega
  ·simp only[List.length_append,List.length_singleton,List.length_set];omega
theorem HQ{v:Int}(L:0≤v∧v<(d.length:Int)){C:List Nd}(hn:TN C.length C){k:Int}(hk:0≤k∧k<(C.length:Int)):
  Ho (iter (kZ d v k) (C,0)) (fun e=>TN e.length e∧e.length=C.length):=by
 have A:=KZ hd L.1 L.2;generalize N:d.getD v.toNat ([],[])=x at A;have O:=A.2;have V:=A.1;refine bG (fun(e,j)=>0≤j∧j≤(x.2.length:Int)∧TN e.length e∧e.length=C.length∧j≤((e.getD k.toNat Nd.z).2.2.length:Int)) (fun(_,j)=>((x.2.length:Int) - j).toNat) ⟨Int.le_refl _,by omega,hn,rfl,by omega⟩ fun(e,j) ⟨D,h2,E,X,h5⟩=>?_
 unfold kZ;simp only[FN,N];refine aJ (fun M=>?_) fun _=>aq ⟨E,X⟩
 rw[dec_lt]at M;have q:k.toNat<e.length:=by omega
 have I:=E _ (bU q Nd.z);refine aW ⟨D,M⟩ (aW q (ao (P:=fun f=>f.length=e.length∧TN e.length f∧j<((f.getD k.toNat Nd.z).2.2.length:Int)) ?_ fun f ⟨Y,g2,g3⟩=>?_))
 ·refine aJ (fun J=>?_) fun J=>aq ⟨rfl,E,by simpa using J⟩
  have Z:((e.getD k.toNat Nd.z).2.2.length:Int)≤j:=by simpa using J
  refine aW q (aW (by simp only[List.length_singleton];omega) (aq ⟨by simp,E.set I.1 (by simp only[List.length_append,List.length_singleton];omega),?_⟩));rw[List.getD_eq_getElem?_getD,List.getElem?_set_self q];simp only[Option.getD_some,List.length_append,List.length_singleton];omega
 ·have B:k.toNat<f.length:=by omega
  have u:=g2 _ (bU B Nd.z);refine aW B (aW ⟨D,g3⟩ (aW (by omega) (aW ⟨D,g3⟩ (aW (by omega) ?_))));rw[bS D (by omega)];refine aq ⟨⟨by(try simp only);omega,by(try simp only);omega,?_,by simp only[List.length_set];omega,?_⟩,by(try simp only);omega⟩
  ·simp only[List.length_set,Y];exact g2.set u.1 (by simp only[List.length_set];exact u.2)
  ·simp only;rw[List.getD_eq_getElem?_getD,List.getElem?_set_self B];simp only[Option.getD_some,List.length_set];omega
def N2(t:Option I9):Prop:=∀x,t=some x→0<x.1.length∧∀e∈x.1,(∀p∈e.1,0≤p.2∧p.2<(x.1.length:Int))∧e.2.length≤25
theorem CI:Ho (qw d) (fun t=>t.isSome=true∧N2 t):=by
 have hl:=hd.1;refine aW (by decide) (ao (P:=fun e=>0<e.length∧TN e.length e) (bG (fun(e,i)=>0≤i∧i≤(d.length:Int)∧0<e.length∧TN e.length e∧(e.length:Int)≤1+24*i) (fun(_,i)=>((d.length:Int) - i).toNat) ⟨Int.le_refl _,by omega,by decide,fun z h=>?_,by decide⟩ fun(e,i) ⟨f,q,u,v,J⟩=>?_) fun e ⟨f,q⟩=>aq ⟨rfl,fun x A=>?_⟩)
 ·cases List.mem_singleton.1 h;exact⟨fun p B=>(by cases B),by decide⟩
 ·refine aJ (fun hi=>?_) fun _=>aq ⟨u,v⟩
  rw[dec_lt]at hi;refine aW ⟨f,hi⟩ (ao (ID hd ⟨f,hi⟩ v u (by omega)) fun(C,k) ⟨j,D,L⟩=>aW j (ao (HQ hd ⟨f,hi⟩ D j) fun M ⟨E,N⟩=>?_));rw[bS f (by omega)];have:k<(C.length:Int):=j.2;exact aq ⟨⟨by(try simp only);omega,by(try simp only);omega,by(try simp only);omega,E,by(try simp only);omega⟩,by(try simp only);omega⟩
 ·cases A;refine⟨by simpa using f,fun z hn=>?_⟩;obtain⟨y,I,rfl⟩:=List.mem_map.1 hn;simp only[List.length_map];exact q y I
end
theorem G1{t:Option I9}(ht:N2 t){w:QK}(hw:w.length≤4096):Ho (fL t w) (fun v=>v.length=w.length+1):=by
 have B:i64.wrap ((w.length:Int)+1)=((w.length+1:Nat):Int):=bF (by omega);unfold fL;rw[B];refine aW ⟨by omega,by omega,by omega,by omega⟩ (aJ (fun _=>aq (by simp)) fun Z=>aW (by simp only[List.length_singleton];omega) (aW (by simp only[List.length_append,List.length_singleton];omega) ?_));cases t with
 | none=>exact absurd rfl Z
 | some x =>
 obtain⟨x0,x1⟩:=ht x rfl;have f:((([46]:QK)++w)++([46]:QK)).length=w.length+2:=by simp
 refine ao (P:=fun v=>v.length=w.length+1) (bG (fun(v,i)=>0≤i∧i≤((w.length+2:Nat):Int)∧v.length=w.length+1) (fun(_,i)=>(((w.length+2:Nat):Int) - i).toNat) ⟨Int.le_refl _,by omega,by simp⟩ fun(v,i) ⟨M,h2,N⟩=>?_) fun v u=>aq u
 refine aJ (fun hi=>?_) fun _=>aq N
 rw[dec_lt,f]at hi;refine ao (P:=fun v=>v.length=w.length+1) (bG (fun(v,k,j)=>(0≤k∧k<(x.1.length:Int))∧0≤j∧j≤((w.length+2:Nat):Int)∧v.length=w.length+1) (fun(_,_,j)=>(((w.length+2:Nat):Int) - j).toNat) ⟨⟨Int.le_refl _,by omega⟩,M,by omega,N⟩ fun(v,k,j) ⟨⟨O,g2⟩,g3,g4,g5⟩=>?_) fun v u=>?_
 rotate_left
 ·rw[bS M (by omega)];exact aq ⟨⟨by(try simp only);omega,by(try simp only);omega,u⟩,by(try simp only);omega⟩
 have z:=x1 _ (bU (i:=k.toNat) (by omega) ([],([]:QK)));refine(aW ⟨O,g2⟩ (ao (P:=fun v=>v.length=w.length+1) (bG (fun(v,l)=>0≤l∧l≤(((x.1.getD k.toNat ([],([]:QK))).2.length:Nat):Int)∧v.length=w.length+1) (fun(_,l)=>((((x.1.getD k.toNat ([],([]:QK))).2.length:Nat):Int) - l).toNat) ⟨Int.le_refl _,by omega,g5⟩ fun(v,l) ⟨V,e2,C⟩=>?_) fun v u=>?_))
 ·refine aJ (fun hl=>?_) fun _=>aq C
  have D:l<(((x.1.getD k.toNat ([],([]:QK))).2.length:Nat):Int):=by simpa using hl
  have e4:=z.2;have e5:i64.wrap (i64.wrap (i+l) - 1)=i+l - 1:=by rw[wrap_i64 (x:=i+l) (by omega) (by omega),wrap_i64 (by omega) (by omega)]
  refine aW ⟨V,D⟩ ?_;rw[e5];refine ao (P:=fun b=>b=true→0≤i+l - 1∧i+l - 1<(v.length:Int)) (aJ (fun ha=>aq fun hb=>⟨of_decide_eq_true ha,of_decide_eq_true hb⟩) fun _=>aq fun h=>(by cases h)) fun b hb=>ao (P:=fun v=>v.length=w.length+1) (aJ (fun E=>?_) fun _=>aq C) fun v' I=>?_
  ·obtain⟨X,Y⟩:=hb E;exact aW ⟨X,Y⟩ (aW (by omega) (aW ⟨X,Y⟩ (aW (by omega) (aq (by simpa using C)))))
  ·rw[bS V (by omega)];exact aq ⟨⟨by(try simp only);omega,by(try simp only);omega,I⟩,by(try simp only);omega⟩
 ·rw[f];refine aJ (fun _=>aq u) fun J=>?_
  have A:j<((w.length+2:Nat):Int):=by simp only[beq_iff_eq]at J;omega
  refine aW rfl (aW ⟨O,g2⟩ (aW ⟨g3,A⟩ (aW (by omega) (aJ (fun _=>aq u) fun hf=>?_))));rw[bS g3 (by omega)];refine aq ⟨⟨?_,by(try simp only);omega,by(try simp only);omega,u⟩,by(try simp only);omega⟩;show 0≤(aT (α:=Int) (.int .i32) (x.1.getD k.toNat ([],([]:QK))).1 _).getD 0∧(aT (α:=Int) (.int .i32) (x.1.getD k.toNat ([],([]:QK))).1 _).getD 0<_;cases e:aT (α:=Int) (.int .i32) (x.1.getD k.toNat ([],([]:QK))).1 (((([46]:QK)++w)++([46]:QK)).getD j.toNat 0)with
  | none=>exact⟨Int.le_refl _,by simp only[Option.getD_none];omega⟩
  | some q =>
   obtain⟨k',L⟩:=tg e;exact z.1 _ L
def RH(h:Option Z3):Prop:=∀x,h=some x→x.1.length≤256∧N2 x.2.1∧rz x.2.2.1∧(1≤x.2.2.2.1∧x.2.2.2.1≤24)∧1≤x.2.2.2.2∧x.2.2.2.2≤24
theorem IU{α:Type}(x:α):(some x).isSome=true:=rfl
theorem Mi{a b:Int}(j:0≤a)(h:a<b)(hb:b≤1000000):a≤(i64.wrap (Int.fdiv (u64.wrap (i64.wrap (a+b))) (2 ^ (min (1:Int).toNat u64.bits))))∧(i64.wrap (Int.fdiv (u64.wrap (i64.wrap (a+b))) (2 ^ (min (1:Int).toNat u64.bits))))<b:=by
 rw[wrap_i64 (x:=a+b) (by omega) (by omega),Aa];have e:(a+b) % 18446744073709551616=a+b:=by omega
 rw[e];have f:(2:Int) ^ (min (1:Int).toNat u64.bits)=2:=by decide
 rw[f,Int.fdiv_eq_ediv_of_nonneg _ (by omega),wrap_i64 (by omega) (by omega)];omega
theorem D5{h:Option Z3}(q:RH h)(r:Int):Ho (dZ h r) (fun _=>True):=by
 cases h with
 | none=>exact aq trivial
 | some x =>
 obtain⟨z,_⟩:=q x rfl;unfold dZ;rw[if_neg (by simp),if_pos (IU x)];refine ao (P:=fun k=>0≤k∧k≤(x.1.length:Int)) (ao (P:=fun k=>0≤k∧k≤(x.1.length:Int)) (bG (fun(a,b)=>0≤a∧a≤b∧b≤(x.1.length:Int)) (fun(a,b)=>(b - a).toNat) ⟨Int.le_refl _,Int.natCast_nonneg _,Int.le_refl _⟩ fun(a,b) ⟨f,u,A⟩=>?_) fun k hk=>aq hk) fun k ⟨f,u⟩=>ao (P:=fun b=>b=false→k<(x.1.length:Int)) ?_ fun b hb=>aJ (fun _=>aq trivial) fun v=>?_
 ·refine aJ (fun e=>?_) fun _=>aq ⟨f,by omega⟩
  rw[dec_lt]at e;obtain⟨B,C⟩:=Mi f e (by omega);refine aW (by decide) (ao (P:=fun _=>True) ?_ fun b _=>aJ (fun _=>?_) fun _=>?_)
  ·unfold eS;rw[if_pos (IU x)];exact aW ⟨by omega,by simp only[Option.getD_some];omega⟩ (aq trivial)
  ·rw[bS (by omega) (by omega)];exact aq ⟨⟨by(try simp only);omega,by(try simp only);omega,by(try simp only);omega⟩,by(try simp only);omega⟩
  ·exact aq ⟨⟨by(try simp only);omega,by(try simp only);omega,by(try simp only);omega⟩,by(try simp only);omega⟩
 ·rw[if_pos (IU x)];refine aJ (fun _=>aq fun h=>by cases h) fun j=>?_
  have e:k<(x.1.length:Int):=by simp only[Option.getD_some,beq_iff_eq]at j;omega
  rw[if_pos (IU x)];exact aW ⟨f,e⟩ (aq fun _=>e)
 ·have e:=hb (by simpa using v);rw[if_pos (IU x)];refine aW ⟨f,e⟩ ?_;rw[if_pos (IU x)];exact aW ⟨f,e⟩ (aq trivial)
theorem DP{l:List (QK×QK)}(hl:rz l)(w:QK):Ho (jq l w) (fun r=>0≤r→r<(l.length:Int)∧(l.getD r.toNat ([],[])).2.length=w.length+1):=by
 have q:=hl.1;refine ao (P:=Lp (fun _=>True) fun r=>0≤r→r<(l.length:Int)∧(l.getD r.toNat ([],[])).2.length=w.length+1) (bG (fun i=>0≤i∧i≤(l.length:Int)) (fun i=>((l.length:Int) - i).toNat) ⟨Int.le_refl _,by omega⟩ fun i ⟨j,u⟩=>?_) ?_
 ·refine aJ (fun hi=>?_) fun _=>aq trivial
  rw[dec_lt]at hi;have e:=hl.2 _ (bU (i:=i.toNat) (by omega) ([],([]:QK)));refine aW ⟨j,hi⟩ (ao (P:=fun r=>r=true→(l.getD i.toNat ([],([]:QK))).1.length=w.length) (ao (Bz (by have:=e.2;omega)) fun r f=>aq f) fun r f=>aJ (fun ht=>aq fun _=>⟨hi,by rw[e.1,f ht]⟩) fun _=>?_);rw[bS j (by omega)];exact aq ⟨⟨by(try simp only);omega,by(try simp only);omega⟩,by(try simp only);omega⟩
 ·rintro(_ | r) h
  ·exact aq fun h=>absurd h (by decide)
  ·exact aq h
theorem Jy{h:Option Z3}(A:RH h){w:QK}(B:w.length≤4096):Ho (fg h w) (fun r=>r.length=w.length+1):=by
 have f:i64.wrap ((w.length:Int)+1)=((w.length+1:Nat):Int):=bF (by omega);unfold fg;rw[f];refine aW ⟨by omega,by omega,by omega,by omega⟩ (aJ (fun _=>aq (by simp)) fun C=>?_);cases h with
 | none=>exact absurd rfl C
 | some x =>
 obtain⟨_,D,E,⟨M,_⟩,N,O⟩:=A x rfl;rw[if_pos (IU x)];refine ao (G1 D B) fun v q=>?_
 rw[if_pos (IU x)];refine ao (DP E w) fun r u=>ao (P:=fun v=>v.length=w.length+1) ?_ fun v q=>?_
 ·refine aJ (fun I=>?_) fun _=>aq q
  have e:0≤r:=of_decide_eq_true I;rw[if_pos (IU x)];exact aW ⟨e,(u e).1⟩ (aq (u e).2)
 ·rw[if_pos (IU x)];refine ao (P:=fun o=>o.length=w.length+1) (bG (fun(o,i)=>0≤i∧o.length=w.length+1) (fun(_,i)=>((w.length:Int)+1 - i).toNat) ⟨by simp only[Option.getD_some];omega,by simp⟩ fun(o,i) ⟨j,z⟩=>?_) fun o J=>aq J
  unfold gT;dsimp only;rw[if_pos (IU x)];refine aJ (fun hi=>?_) fun _=>aq z
  have L:i≤(w.length:Int) - x.2.2.2.2:=by have:=of_decide_eq_true hi;simp only[Option.getD_some]at this;rwa [wrap_i64 (by omega) (by omega)]at this
  refine aW ⟨j,by omega⟩ (aW (by decide) (aW ⟨j,by omega⟩ (aW (by omega) ?_)));rw[bS j (by omega)];exact aq ⟨⟨by(try simp only);omega,by simpa using z⟩,by(try simp only);omega⟩
theorem Gz{h:Option Z3}(q:RH h){l:XK}(hl:l.length≤4096):Ho (dW h l) (fun _=>True):=by
 have e:i64.wrap ((l.length:Int)+1)=((l.length+1:Nat):Int):=bF (by omega);unfold dW;rw[e];refine aW ⟨by omega,by omega,by omega,by omega⟩ (ao (P:=fun _=>True) (bG (fun(o,i)=>0≤i∧o.length=l.length+1) (fun(_,i)=>((l.length:Int)+1 - i).toNat) ⟨Int.le_refl _,by simp⟩ fun(o,i) ⟨v,z⟩=>?_) fun _ _=>aq trivial);refine aJ (fun hi=>?_) fun _=>aq trivial
 rw[dec_lt]at hi;refine ao (P:=fun(j,w)=>i≤j∧j≤(l.length:Int)∧(w.length:Int)=j - i) (bG (fun(j,w)=>i≤j∧j≤(l.length:Int)∧(w.length:Int)=j - i) (fun(j,_)=>((l.length:Int) - j).toNat) ⟨Int.le_refl _,by omega,by simp⟩ fun(j,w) ⟨f,g2,g3⟩=>?_) fun(j,w) ⟨f,g2,g3⟩=>?_
 ·refine aJ (fun u=>?_) fun _=>aq ⟨f,g2,g3⟩
  rw[dec_lt]at u;refine aW ⟨by omega,u⟩ (ao (D5 q _) fun(c,ok) _=>aJ (fun _=>aq ⟨f,g2,g3⟩) fun _=>aW (by simp only[List.length_singleton];omega) ?_);rw[bS (by omega) (by omega)];exact aq ⟨⟨by(try simp only);omega,by(try simp only);omega,by simp only[List.length_append,List.length_singleton];omega⟩,by(try simp only);omega⟩
 ·refine aW ⟨v,by omega⟩ (ao (Jy q (by omega)) fun r A=>aW ⟨by decide,by omega,by omega⟩ ?_);rw[bS (by omega) (by omega)];refine aq ⟨⟨by(try simp only);omega,?_⟩,by(try simp only);omega⟩;simp only[List.length_append,List.length_take,List.length_drop];omega
theorem AI(l:XK):Ho (oy l) (fun b=>b=true→l.length≤256):=by
 refine aJ (fun _=>aq fun h=>by cases h) fun hl=>?_
 have e:l.length≤256:=by simp only[decide_eq_true_eq]at hl;omega
 refine ao (P:=fun _=>True) (bG (fun(_,i)=>0≤i∧i≤(l.length:Int)) (fun(_,i)=>((l.length:Int) - i).toNat) ⟨Int.le_refl _,by omega⟩ fun(q,i) ⟨f,j⟩=>?_) ?_
 ·refine aJ (fun hi=>?_) fun _=>aq trivial
  rw[dec_lt]at hi;refine aW ⟨f,hi⟩ (ao (P:=fun _=>True) ?_ fun b _=>aJ (fun _=>aq trivial) fun _=>?_)
  ·repeat' split
   all_goals exact aq trivial
  ·rw[bS f (by omega)];exact aq ⟨⟨by(try simp only);omega,by(try simp only);omega⟩,by(try simp only);omega⟩
 ·rintro(_ | r) _
  ·exact aq fun _=>e
  ·exact aq fun _=>e
theorem E6(t:QX)(l:XK)(a b:Int):Ho (nT t l a b) (fun r=>r.2.1=0∧RH r.1∨r.2.1≠0∧r.1=none):=by
 refine ao (AI l) fun ok e=>aJ (fun _=>aq (.inr ⟨by decide,rfl⟩)) fun hk=>ao (P:=fun c=>c=false→(1≤a∧a≤24)∧1≤b∧b≤24) ?_ fun c q=>aJ (fun _=>aq (.inr ⟨by decide,rfl⟩)) fun f=>ao (AE t) fun(p,c) j=>aJ (fun h=>aq (.inr ⟨by simpa using h,rfl⟩)) fun _=>?_
 ·refine aJ (fun _=>aq fun h=>by cases h) fun u=>aJ (fun _=>aq fun h=>by cases h) fun v=>aJ (fun _=>aq fun h=>by cases h) fun z=>aq fun A=>?_
  simp only[decide_eq_true_eq,decide_eq_false_iff_not]at u v z A;omega
 ·have hl:=e (by simpa using hk);refine ao (P:=fun r=>r=l) ?_ fun r B=>ao (CI j.1) fun t ⟨_,ht⟩=>aq (.inl ⟨rfl,fun x C=>?_⟩)
  ·refine aJ (fun h=>aq (List.isEmpty_iff.1 h).symm) fun _=>aW (by simp only[List.length_nil];omega) (aq rfl)
  ·cases C;subst B;exact⟨hl,ht,j.2,q (by simpa using f)⟩
end
end Go.Proofs.YtbedjpdfkmfplaaGreatDoor.T
