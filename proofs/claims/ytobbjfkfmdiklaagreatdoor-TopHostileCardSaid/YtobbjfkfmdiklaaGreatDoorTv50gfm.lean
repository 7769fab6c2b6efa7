import Derived.Test.YtobbjfkfmdiklaaGreatDoorTv50gdm
import Derived.Test.YtobbjfkfmdiklaaGreatDoorTv50fm
import Derived.Lib.TrailingZeros
import Derived.Test.YtobbjfkfmdiklaaGreatDoorTv50im
import Derived.Test.YtobbjfkfmdiklaaGreatDoorTv50um
namespace Go.Proofs.YtobbjfkfmdiklaaGreatDoor.T
open Go Go.Tv Go.Proofs
open Go.IntKind (i64 u32 u64)
noncomputable section
theorem IK:∀i,i<32→Jm.getD i 0=((Lib.deBruijn32tab.getD i 0:Nat):Int):=by decide +kernel
theorem Ll{n m:Nat}(hm:m≤24)(u:0<n)(hn:n<2 ^ m):0≤pG (n:Int)∧pG (n:Int)<(m:Int):=by
 have j:2 ^ m≤2 ^ 24:=Nat.pow_le_pow_right (by decide) hm;have f:n<2 ^ 32:=Nat.lt_of_lt_of_le hn (Nat.le_trans j (by decide));obtain⟨v,x⟩:=Lib.lowest_bit 32 n (by omega) f;have A:Lib.ctz 32 n=Lib.ctzFrom 32 n:=by simp[Lib.ctz,Nat.ne_of_gt u]
 obtain⟨q,p,_⟩:=Lib.ctzFrom_spec 32 n (by omega) f;rw[←A]at p;generalize Lib.ctz 32 n=k at v x p;have hk:k<m:=by
  rcases Nat.lt_or_ge k m with h | h
  ·exact h
  ·have h1:2 ^ m≤2 ^ k:=Nat.pow_le_pow_right (by decide) h;have h2:2 ^ k≤n:=Nat.le_of_dvd u (by rw[p];exact Nat.dvd_mul_right _ _);omega
 have hb:bits BinOp.and u32 (n:Int) (-(n:Int) % 4294967296)=((2 ^ k:Nat):Int):=by
  have B : -(n:Int) % 4294967296=((2 ^ 32 - n:Nat):Int):=by
   have e:(2:Nat) ^ 32=4294967296:=by decide
   omega
  rw[B];have C:Fl (n:Int):=⟨by omega,by omega⟩;have h2:Fl ((2 ^ 32 - n:Nat):Int):=by
   have e:(2:Nat) ^ 32=4294967296:=by decide
   exact⟨by omega,by omega⟩
  have:=Du C h2;rw[Int.toNat_natCast,Int.toNat_natCast,v]at this;exact this
 obtain⟨D,E⟩:=Lib.deBruijn32_at k x;have key:pG (n:Int)=(k:Int):=by
  unfold pG;rw[if_neg (by rw[beq_iff_eq];omega),hb];have e:(((2 ^ k:Nat):Int)*125613361 % 4294967296 / 134217728).toNat=2 ^ k*125613361 % 4294967296 / 134217728:=by generalize (2 ^ k:Nat)=q;rw[show((q:Nat):Int)*125613361=((q*125613361:Nat):Int) by rw[Int.natCast_mul];rfl];generalize q*125613361=z;omega
  rw[e,IK _ D,E]
 rw[key];exact⟨by omega,by omega⟩
theorem Dw:∀(n f:Nat) (x:Tree),n≤f→Dp n x→Ho (kK f x.op x.set x.kids) (Dp n)
 | 0,_,_,_,h=>h.elim
 | n+1,0,_,hl,_=>absurd hl (by omega)
 | n+1,f+1,.node o s p,hl,h=>by
  obtain⟨hk,q⟩:=h;have u:=fun(i:Nat) (hi:i<p.length)=>Dw n f _ (by omega) (Dp.getD q hi (Tree.node 0 0 []))
  simp only[kK,Tree.op,Tree.set,Tree.kids];unfold lV;refine ao (P:=fun l=>l.length≤1000000∧∀k∈l,Dp n k) (bH (fun(l,i)=>0≤i∧i≤(p.length:Int)∧(l.length:Int)=i∧∀k∈l,Dp n k) (fun(_,i)=>((p.length:Int) - i).toNat) ⟨Int.le_refl _,by simp,rfl,fun k hk=>by cases hk⟩ fun(l,i) ⟨h1,h2,A,v⟩=>?_) fun l hl=>aq hl
  refine aH (fun hi=>?_) fun _=>aq ⟨by omega,v⟩
  rw[dec_lt]at hi;refine aU ⟨h1,hi⟩ (ao (P:=fun x=>∃j,j<p.length∧x=((p.getD j (Tree.node 0 0 [])).op,(p.getD j (Tree.node 0 0 [])).set,(p.getD j (Tree.node 0 0 [])).kids)) ?_ ?_)
  ·refine aH (fun _=>?_) fun _=>aq ⟨i.toNat,by omega,rfl⟩
   rw[wrap_i64 (x:=(p.length:Int) - 1) (by omega) (by omega),wrap_i64 (by omega) (by omega)];exact aU (by omega) (aq ⟨_,by omega,rfl⟩)
  ·rintro⟨a,b,c⟩ ⟨j,z,e⟩;cases e;refine ao (u j z) fun r u=>aU (by simp only[List.length_singleton];omega) ?_
   rw[bS h1 (by omega)];exact aq ⟨⟨by(try simp only);omega,by(try simp only);omega,by simp only[List.length_append,List.length_singleton];omega,dT v (by rw[sS];exact u)⟩,by(try simp only);omega⟩
theorem WB.wa{nx:QZ}{ou:QK}{k m:Nat}(h:WB nx ou k m)(hp:0<nx.length):WA nx k:=by
 refine⟨hp,fun i hi=>by rw[(h.row hi).1];exact Nat.le_refl _,fun i c hi hc=>?_⟩;obtain⟨h1,h2⟩:=h.row hi;exact h2 _ (bU (by omega) 0)
def Mk(m:Option Z5)(c:Int):Prop:=(c=0∧∃x,m=some x∧Mo x x.1.1.length∧x.1.1.length≤24)∨(c≠0∧m=none)
theorem Cy{j:QQ}{N O:Int}{tr:QK}{f:XJ}(h:DW j tr f):Ho (rZ j N O tr f) (fun r=>Mk r.1 r.2):=by
 refine aH (fun _=>aq (.inr ⟨by decide,rfl⟩)) fun V=>?_
 have B:0<j.length:=by simp only[beq_iff_eq]at V;omega
 have p:=h.rl;refine ao (P:=fun(a,b)=>(a.length=f.length∧b.length=f.length)∧(∀x∈a,Dp 100 x)∧∀x∈b,Dp 100 x) (bH (fun(a,b,i)=>0≤i∧i≤(f.length:Int)∧((a.length:Int)=i∧(b.length:Int)=i)∧(∀x∈a,Dp 100 x)∧∀x∈b,Dp 100 x) (fun(_,_,i)=>((f.length:Int) - i).toNat) ⟨Int.le_refl _,by omega,⟨rfl,rfl⟩,fun _ h=>(by cases h),fun _ h=>(by cases h)⟩ fun(a,b,i) ⟨h1,h2,h3,J,L⟩=>?_) ?_
 ·refine aH (fun hi=>?_) fun hi=>aq ⟨by rw[dec_lt]at hi;omega,J,L⟩
  rw[dec_lt]at hi;obtain⟨_,C,D⟩:=h.rk _ (bU (i:=i.toNat) (by omega) (0,(Tree.node 0 0 []),(Tree.node 0 0 [])));refine aU ⟨h1,hi⟩ (aU (by simp only[List.length_singleton];omega) (ao (Dw 100 1000 _ (by omega) D) fun r E=>aU (by simp only[List.length_singleton];omega) ?_));rw[bS h1 (by omega)];exact aq ⟨⟨by(try simp only);omega,by(try simp only);omega,by simp only[List.length_append,List.length_singleton];omega,dT J (by rw[sS];exact C),dT L (by rw[sS];exact E)⟩,by(try simp only);omega⟩
 rintro⟨a,b⟩ ⟨⟨X,Y⟩,Z,b2⟩;refine ao (uc Z j.length) fun(r,c) E=>aH (fun hc=>aq (.inr ⟨by simpa using hc,rfl⟩)) fun hc=>?_
 obtain⟨r1,r2⟩:=E (by simpa using hc);refine ao (uc b2 j.length) fun(q,d) hq=>aH (fun hd=>aq (.inr ⟨by simpa using hd,rfl⟩)) fun hd=>?_
 obtain⟨C,D⟩:=hq (by simpa using hd);refine ao (qX r2 r1 h.Jw) fun(v,v') hv=>ao (qX D C h.Jw) fun(u,u') hu=>aq (.inl ⟨rfl,_,rfl,?_,h.Jw⟩)
 obtain⟨v1,z⟩:=hv;obtain⟨u1,A⟩:=hu;rw[X]at z;rw[Y]at A;refine⟨B,Nat.le_of_eq h.tl.symm,fun i hi=>h.tc _ (bU hi 0),z.wa v1.1,Nat.le_of_eq z.ol.symm,A.wa u1.1,Nat.le_of_eq A.ol.symm,fun s t M ht hb=>?_,Iv fun x hx=>(h.rk x hx).1⟩;simp only at M ht hb ⊢;obtain⟨x0,x1⟩:=z.ob _ (bU (l:=v.2) (i:=s) (by rw[z.ol];exact M) 0);obtain⟨y0,y1⟩:=A.ob _ (bU (l:=u.2) (i:=t) (by rw[A.ol];exact ht) 0);generalize v.2.getD s 0=x at *;generalize u.2.getD t 0=y at *;have a3:2 ^ f.length≤2 ^ 24:=Nat.pow_le_pow_right (by decide) p;rw[Du ⟨x0,by omega⟩ ⟨y0,by omega⟩]at hb ⊢;have I:=Nat.and_lt_two_pow (n:=f.length) x.toNat (y:=y.toNat) (by omega);refine Ll p ?_ I;simp only[bne_iff_ne,ne_eq]at hb;omega
theorem vb(t:QX):Ho (iU t) (fun r=>Mk r.1 r.2.1):=by
 refine ao (He t) fun(p,c) hp=>aH (fun hc=>aq (.inr ⟨by simpa using hc,rfl⟩)) fun _=>ao (Cy hp) fun(r,d) f=>aq f
theorem yg(c:Int):∃b,jj c=some b:=by
 unfold jj
 repeat' split
 all_goals exact⟨_,rfl⟩
theorem tf{l:XK}(hl:l.length≤4096):Ho (gT l) (fun _=>True):=by
 refine ao (P:=fun _=>True) (ao (P:=fun _=>True) (ao (P:=fun _=>True) (bH (fun i=>0≤i∧i≤(l.length:Int)) (fun i=>((l.length:Int) - i).toNat) ⟨Int.le_refl _,by omega⟩ fun i ⟨h1,h2⟩=>?_) ?_) fun _ _=>aq trivial) fun _ _=>aq trivial
 ·refine aH (fun hi=>?_) fun _=>aq trivial
  rw[dec_lt]at hi;refine aU ⟨h1,hi⟩ (aH (fun _=>aq trivial) fun _=>?_);rw[bS h1 (by omega)];exact aq ⟨⟨by(try simp only);omega,by(try simp only);omega⟩,by(try simp only);omega⟩
 ·rintro(_ | r) _
  ·exact aq trivial
  ·exact aq trivial
def Pt(x:QK×QK):Prop:=x.2.length=x.1.length+1∧x.1.length≤24
theorem ED{d:XK}(hd:d.length≤4096):Ho (sf d) (fun r=>r.2=true→Pt r.1):=by
 refine ao (tf hd) fun h _=>ao (P:=Lp (fun(l,v,n)=>v.length=l.length+1∧l.length≤d.length) fun r=>r.2=false) (bH (fun(l,v,_,n,i)=>0≤i∧i≤(d.length:Int)∧(l.length:Int)≤i∧v.length=l.length+1) (fun(_,_,_,_,i)=>((d.length:Int) - i).toNat) ⟨Int.le_refl _,by omega,Int.le_refl _,rfl⟩ fun(l,v,b,n,i) ⟨h1,h2,u,j⟩=>?_) ?_
 ·refine aH (fun hi=>?_) fun _=>aq ⟨j,by omega⟩
  rw[dec_lt]at hi;refine aU ⟨h1,hi⟩ (aH (fun _=>aq rfl) fun _=>ao (P:=fun _=>True) ?_ fun x _=>ao (P:=Lp (fun(l,v,_,n)=>(l.length:Int)≤i+1∧v.length=l.length+1) fun r=>r.2=false) ?_ ?_)
  ·refine aH (fun _=>aq trivial) fun _=>aH (fun _=>aq trivial) fun _=>aq trivial
  ·refine aH (fun _=>ao (P:=fun _=>True) ?_ fun p _=>aH (fun _=>aq rfl) fun _=>aU (by omega) (aU (by omega) (aH (fun _=>aU (by rw[List.length_set];omega) (aU (by rw[List.length_set];omega) (aq ⟨by(try simp only);omega,by simp only[List.length_set];exact j⟩))) fun _=>aq ⟨by(try simp only);omega,by simp only[List.length_set];exact j⟩))) fun _=>aH (fun _=>ao (P:=fun _=>True) ?_ fun p _=>aH (fun _=>aq rfl) fun _=>?_) fun _=>?_
   ·repeat' split
    all_goals exact aq trivial
   ·repeat' split
    all_goals exact aq trivial
   ·exact aU (by simp only[List.length_singleton];omega) (aU (by simp only[List.length_singleton];omega) (aq ⟨by simp only[List.length_append,List.length_singleton];omega,by simp only[List.length_append,List.length_singleton];omega⟩))
   ·exact aU (by simp only[List.length_singleton];omega) (aU (by simp only[List.length_singleton];omega) (aq ⟨by simp only[List.length_append,List.length_singleton];omega,by simp only[List.length_append,List.length_singleton];omega⟩))
  ·rintro(⟨z,A,q,B⟩ | ⟨r,q⟩) f
   ·dsimp only;rw[bS h1 (by omega)];exact aq ⟨⟨by(try simp only);omega,by(try simp only);omega,f.1,f.2⟩,by(try simp only);omega⟩
   ·exact aq f
 ·rintro(⟨l,v,n⟩ | ⟨r,b⟩) f
  ·refine ao (P:=fun b=>b=true→l.length≤24) (aH (fun _=>aq fun h=>?_) fun _=>aq fun h=>(by cases h)) fun b hb=>aq fun h=>⟨f.1,hb h⟩
   have:=of_decide_eq_true h;omega
  ·exact aq fun h=>by rw[show b=false from f]at h;cases h
theorem BT{a b:QK}(ha:a.length≤1000000):Ho (cw a b) (fun r=>r=true→a.length=b.length):=by
 refine aH (fun _=>aq fun h=>by cases h) fun hl=>?_
 have f:a.length=b.length:=by simp only[bne_iff_ne,ne_eq,Decidable.not_not]at hl;omega
 refine ao (P:=fun _=>True) (bH (fun i=>0≤i∧i≤(a.length:Int)) (fun i=>((a.length:Int) - i).toNat) ⟨Int.le_refl _,by omega⟩ fun i ⟨h1,h2⟩=>?_) ?_
 ·refine aH (fun hi=>?_) fun _=>aq trivial
  rw[dec_lt]at hi;refine aU ⟨h1,hi⟩ (aU (by omega) (aH (fun _=>aq trivial) fun _=>?_));rw[bS h1 (by omega)];exact aq ⟨⟨by(try simp only);omega,by(try simp only);omega⟩,by(try simp only);omega⟩
 ·rintro(_ | r) _
  ·exact aq fun _=>f
  ·exact aq fun _=>f
def qo(l:List (QK×QK)):Prop:=l.length≤256∧∀x∈l,Pt x
theorem qo.nil:qo []:=⟨by decide,fun _ h=>by cases h⟩
theorem Cz{l:List (QK×QK)}(hl:qo l)(a b:QK):Ho (ma l a b) (fun _=>True):=by
 have f:=hl.1;refine ao (P:=fun _=>True) (ao (P:=fun _=>True) (bH (fun i=>0≤i∧i≤(l.length:Int)) (fun i=>((l.length:Int) - i).toNat) ⟨Int.le_refl _,by omega⟩ fun i ⟨h1,h2⟩=>?_) ?_) fun _ _=>aq trivial
 ·refine aH (fun hi=>?_) fun _=>aq trivial
  rw[dec_lt]at hi;refine aU ⟨h1,hi⟩ (ao (P:=fun _=>True) (ao (P:=fun _=>True) (Ea (BT (by have:=(hl.2 _ (bU (i:=i.toNat) (by omega) ([],([]:QK)))).2;omega)) fun _ _=>trivial) fun _ _=>aq trivial) fun r _=>aH (fun _=>aq trivial) fun _=>?_);rw[bS h1 (by omega)];exact aq ⟨⟨by(try simp only);omega,by(try simp only);omega⟩,by(try simp only);omega⟩
 ·rintro(_ | r) _
  ·exact aq trivial
  ·exact aq trivial
theorem qo.snoc{l:List (QK×QK)}(h:qo l)(hl:l.length<256){x:QK×QK}(f:Pt x):qo (l++[x]):=⟨by simp only[List.length_append,List.length_singleton];omega,dT h.2 f⟩
theorem yU(t:QX):Ho (nw t) (fun r=>qo r.1.1∧qo r.1.2):=by
 refine aH (fun _=>aq ⟨qo.nil,qo.nil⟩) fun hl=>?_
 have B:(cJ t).length≤4096:=by
  have:(cJ t).length=t.length:=by simp[cJ]
  simp only[decide_eq_true_eq]at hl;omega
 obtain⟨s,e,hc,V⟩:=FR (b:=cJ t) (fun x M=>by
  obtain⟨y,_,rfl⟩:=List.mem_map.1 M;have:=y.toNat_lt;omega) B
 rw[e];refine ao (P:=Lp (fun r=>qo r.1∧qo r.2) fun r=>qo r.1.1∧qo r.1.2) (bH (fun(a,b,i)=>0≤i∧i≤(s.length:Int)∧a.length+b.length≤256∧qo a∧qo b) (fun(_,_,i)=>((s.length:Int) - i).toNat) ⟨Int.le_refl _,by omega,by decide,qo.nil,qo.nil⟩ fun(a,b,i) ⟨h1,h2,N,z,p⟩=>?_) ?_
 rotate_left
 ·rintro(⟨a,b⟩ | r) h
  ·exact aq h
  ·exact aq h
 refine aH (fun hi=>?_) fun _=>aq ⟨z,p⟩
 rw[dec_lt]at hi;obtain⟨c,f⟩:=yg (s.getD i.toNat (0,0,0)).1;refine aU ⟨h1,hi⟩ ?_;rw[f];refine aH (fun _=>?_) fun C=>?_
 ·rw[bS h1 (by omega)];exact aq ⟨⟨by(try simp only);omega,by(try simp only);omega,N,z,p⟩,by(try simp only);omega⟩
 have first:iter (gS s) i=iter (gS s) (i+1):=by refine dO ?_;unfold gS;rw[if_pos (by simpa using hi),if_pos ⟨h1,hi⟩,f];rw[bS h1 (by omega)];simp[C]
 rw[first];refine ao (P:=fun j=>i<j∧j≤(s.length:Int)) (bH (fun j=>i<j∧j≤(s.length:Int)) (fun j=>((s.length:Int) - j).toNat) ⟨by omega,by omega⟩ fun j ⟨J,g2⟩=>?_) fun j ⟨J,g2⟩=>?_
 ·refine ao (P:=fun b=>b=true→j<(s.length:Int)) (aH (fun D=>?_) fun _=>aq fun h=>(by cases h)) fun b hb=>aH (fun E=>?_) fun _=>aq ⟨J,g2⟩
  ·rw[dec_lt]at D;obtain⟨c,f⟩:=yg (s.getD j.toNat (0,0,0)).1;refine aU ⟨by omega,D⟩ ?_;rw[f];exact aq fun _=>D
  ·have:=hb E;rw[bS (by omega) (by omega)];exact aq ⟨⟨by(try simp only);omega,by(try simp only);omega⟩,by(try simp only);omega⟩
 ·refine aU ⟨h1,hi⟩ (aH (fun _=>aq ⟨qo.nil,qo.nil⟩) fun q=>aU ⟨h1,by omega,Int.le_refl _,g2⟩ ?_);rw[wrap_i64 (by omega) (by omega)]at q;have L:a.length+b.length<256:=by simp only[decide_eq_true_eq]at q;omega
  have u:((s.take j.toNat).drop i.toNat).length≤4096:=by simp only[List.length_drop,List.length_take];omega
  refine ao (ED u) fun(w,ok) O=>aH (fun _=>aq ⟨qo.nil,qo.nil⟩) fun I=>?_
  have v:Pt w:=O (by simpa using I);refine ao (tf u) fun h _=>ao (P:=Lp (fun(a,b)=>a.length+b.length≤256∧qo a∧qo b) fun r=>qo r.1.1∧qo r.1.2) ?_ ?_
  ·refine aH (fun _=>aU (by simp only[List.length_singleton];omega) (aq ⟨by simp only[List.length_append,List.length_singleton];omega,z.snoc (by omega) v,p⟩)) fun _=>ao (Cz p _ _) fun r _=>aH (fun _=>aq ⟨qo.nil,qo.nil⟩) fun _=>aU (by simp only[List.length_singleton];omega) (aq ⟨by simp only[List.length_append,List.length_singleton];omega,z,p.snoc (by omega) v⟩)
  ·rintro(⟨X,Y⟩ | r) A
   ·exact aq ⟨⟨by(try simp only);omega,g2,A.1,A.2.1,A.2.2⟩,by(try simp only);omega⟩
   ·exact aq A
theorem Dr(f:List Nd)(i:Nat):jb f i=f:=by
 refine List.ext_getElem (by simp) fun j h1 h2=>?_
 rw[List.getElem_set];split
 ·rename_i e;subst e;rw[List.getD_eq_getElem?_getD,List.getElem?_eq_getElem h2];rfl
 ·rfl
def TN(m:Nat)(j:List Nd):Prop:=∀f∈j,(∀p∈f.2.1,0≤p.2∧p.2<(m:Int))∧f.2.2.length≤25
theorem TN.mono{m n:Nat}{j:List Nd}(h:TN m j)(hm:m≤n):TN n j:=fun z hn=>⟨fun p hp=>by have:=(h z hn).1 p hp;omega,(h z hn).2⟩
theorem TN.set{m i:Nat}{f:List Nd}{x:Nd}(h:TN m f)(h1:∀p∈x.2.1,0≤p.2∧p.2<(m:Int))(h2:x.2.2.length≤25):TN m (f.set i x):=DD h ⟨h1,h2⟩
section
variable{d:List (QK×QK)}(hd:qo d)
include hd
theorem Ja{i:Int}(f:0≤i)(h:i<(d.length:Int)):Pt (d.getD i.toNat ([],[])):=hd.2 _ (bU (by omega) _)
theorem Gz{v:Int}(O:0≤v∧v<(d.length:Int)){u:List Nd}(hn:TN u.length u)(hp:0<u.length)(hl:u.length≤100000):
  Ho (iter (kz d v) (u,0,0)) (fun(q,k)=>(0≤k∧k<(q.length:Int))∧TN q.length q∧q.length≤u.length+24):=by
 have D:=Ja hd O.1 O.2;generalize hx:d.getD v.toNat ([],[])=x at D;have a1:=D.2;refine Ea (P:=fun(q,k)=>∃j:Int,j≤(x.1.length:Int)∧(0≤k∧k<(q.length:Int))∧TN q.length q∧(q.length:Int)≤u.length+j) (bH (fun(q,k,j)=>0≤j∧j≤(x.1.length:Int)∧(0≤k∧k<(q.length:Int))∧TN q.length q∧(q.length:Int)≤u.length+j) (fun(_,_,j)=>((x.1.length:Int) - j).toNat) ⟨Int.le_refl _,by omega,⟨Int.le_refl _,by omega⟩,hn,by omega⟩ fun(q,k,j) ⟨h1,h2,⟨E,J⟩,I,h6⟩=>?_) (fun(q,k) ⟨j,V,M,N,q4⟩=>⟨M,N,by(try simp only at q4 ⊢);omega⟩);unfold kz;simp only[Dr,hx];refine aH (fun X=>?_) fun _=>aq ⟨j,h2,⟨E,J⟩,I,h6⟩
 rw[dec_lt]at X;have hk:k.toNat<q.length:=by omega
 refine aU ⟨h1,X⟩ (aU hk (aU ⟨E,J⟩ (ao (P:=fun(f,L)=>(0≤L∧L<(f.length:Int))∧TN f.length f∧(f.length:Int)≤u.length+(j+1)) ?_ ?_)))
 rotate_left
 ·rintro⟨f,L⟩ ⟨V,M,N⟩;dsimp only;rw[bS h1 (by omega)];exact aq ⟨⟨by(try simp only);omega,by(try simp only);omega,V,M,N⟩,by(try simp only);omega⟩
 have C:=I _ (bU hk Nd.z);generalize hy:q.getD k.toNat Nd.z=y at C;generalize hc:x.1.getD j.toNat 0=c;refine aH (fun _=>?_) fun Y=>?_
 rotate_left
 ·cases e:bj (α:=Int) (.int .i32) y.2.1 c with
  | none=>rw[e]at Y;exact absurd rfl Y
  | some t =>obtain⟨L,A⟩:=re e;exact aq ⟨C.1 _ A,I,by omega⟩
 refine aU hk (aU ⟨E,J⟩ (ao (P:=fun f=>f.length=q.length∧(f.getD k.toNat Nd.z).1=true∧TN q.length f) ?_ fun f ⟨g1,g2,g3⟩=>?_))
 ·refine aH (fun _=>aU ⟨E,J⟩ (aU hk (aq ⟨by simp,?_,I.set (fun p hp=>by cases hp) C.2⟩))) fun hb=>aq ⟨rfl,?_,I⟩
  ·rw[List.getD_eq_getElem?_getD,List.getElem?_set_self hk];rfl
  ·rw[hy];simpa using hb
 ·have A:k.toNat<f.length:=by omega
  have B:=g3 _ (bU A Nd.z);refine aU A (aU ⟨E,by omega⟩ (aU g2 (aU (by rw[List.length_set];omega) (aq ⟨?_,?_,?_⟩))))
  ·simp only[List.length_append,List.length_singleton,List.length_set];omega
  ·simp only[List.length_append,List.length_singleton,List.length_set];refine dT (P:=fun Z:Nd=>(∀p∈Z.2.1,0≤p.2∧p.2<((f.length+1:Nat):Int))∧Z.2.2.length≤25) (TN.set (g3.mono (by omega)) (fun p hp=>?_) B.2) ⟨fun p hp=>(by cases hp),by decide⟩;rcases mem_set hp with e | e
   ·rw[e];exact⟨by(try simp only);omega,by(try simp only);omega⟩
   ·have:=B.1 p e;omega
  ·simp only[List.length_append,List.length_singleton,List.length_set];omega
theorem Gt{v:Int}(I:0≤v∧v<(d.length:Int)){C:List Nd}(hn:TN C.length C){k:Int}(hk:0≤k∧k<(C.length:Int)):
  Ho (iter (kC d v k) (C,0)) (fun f=>TN f.length f∧f.length=C.length):=by
 have A:=Ja hd I.1 I.2;generalize L:d.getD v.toNat ([],[])=x at A;have M:=A.2;have N:=A.1;refine bH (fun(f,j)=>0≤j∧j≤(x.2.length:Int)∧TN f.length f∧f.length=C.length∧j≤((f.getD k.toNat Nd.z).2.2.length:Int)) (fun(_,j)=>((x.2.length:Int) - j).toNat) ⟨Int.le_refl _,by omega,hn,rfl,by omega⟩ fun(f,j) ⟨h1,h2,D,O,Y⟩=>?_
 unfold kC;simp only[Dr,L];refine aH (fun J=>?_) fun _=>aq ⟨D,O⟩
 rw[dec_lt]at J;have q:k.toNat<f.length:=by omega
 have E:=D _ (bU q Nd.z);refine aU ⟨h1,J⟩ (aU q (ao (P:=fun p=>p.length=f.length∧TN f.length p∧j<((p.getD k.toNat Nd.z).2.2.length:Int)) ?_ fun p ⟨V,g2,g3⟩=>?_))
 ·refine aH (fun hc=>?_) fun hc=>aq ⟨rfl,D,by simpa using hc⟩
  have X:((f.getD k.toNat Nd.z).2.2.length:Int)≤j:=by simpa using hc
  refine aU q (aU (by simp only[List.length_singleton];omega) (aq ⟨by simp,D.set E.1 (by simp only[List.length_append,List.length_singleton];omega),?_⟩));rw[List.getD_eq_getElem?_getD,List.getElem?_set_self q];simp only[Option.getD_some,List.length_append,List.length_singleton];omega
 ·have B:k.toNat<p.length:=by omega
  have u:=g2 _ (bU B Nd.z);refine aU B (aU ⟨h1,g3⟩ (aU (by omega) (aU ⟨h1,g3⟩ (aU (by omega) ?_))));rw[bS h1 (by omega)];refine aq ⟨⟨by(try simp only);omega,by(try simp only);omega,?_,by simp only[List.length_set];omega,?_⟩,by(try simp only);omega⟩
  ·simp only[List.length_set,V];exact g2.set u.1 (by simp only[List.length_set];exact u.2)
  ·simp only;rw[List.getD_eq_getElem?_getD,List.getElem?_set_self B];simp only[Option.getD_some,List.length_set];omega
def LV(t:Option Hi):Prop:=∀x,t=some x→0<x.1.length∧∀f∈x.1,(∀p∈f.1,0≤p.2∧p.2<(x.1.length:Int))∧f.2.length≤25
theorem Am:Ho (pD d) (fun t=>t.isSome=true∧LV t):=by
 have hl:=hd.1;refine aU (by decide) (ao (P:=fun f=>0<f.length∧TN f.length f) (bH (fun(f,i)=>0≤i∧i≤(d.length:Int)∧0<f.length∧TN f.length f∧(f.length:Int)≤1+24*i) (fun(_,i)=>((d.length:Int) - i).toNat) ⟨Int.le_refl _,by omega,by decide,fun v h=>?_,by decide⟩ fun(f,i) ⟨h1,h2,q,u,E⟩=>?_) fun f ⟨h1,h2⟩=>aq ⟨rfl,fun x z=>?_⟩)
 ·cases List.mem_singleton.1 h;exact⟨fun p hp=>(by cases hp),by decide⟩
 ·refine aH (fun hi=>?_) fun _=>aq ⟨q,u⟩
  rw[dec_lt]at hi;refine aU ⟨h1,hi⟩ (ao (Gz hd ⟨h1,hi⟩ u q (by omega)) fun(A,k) ⟨j,B,I⟩=>aU j (ao (Gt hd ⟨h1,hi⟩ B j) fun J ⟨C,L⟩=>?_));rw[bS h1 (by omega)];have:k<(A.length:Int):=j.2;exact aq ⟨⟨by(try simp only);omega,by(try simp only);omega,by(try simp only);omega,C,by(try simp only);omega⟩,by(try simp only);omega⟩
 ·cases z;refine⟨by simpa using h1,fun v hn=>?_⟩;obtain⟨y,D,rfl⟩:=List.mem_map.1 hn;simp only[List.length_map];exact h2 y D
end
theorem Fe{t:Option Hi}(ht:LV t){w:QK}(hw:w.length≤4096):Ho (fu t w) (fun v=>v.length=w.length+1):=by
 have A:i64.wrap ((w.length:Int)+1)=((w.length+1:Nat):Int):=bF (by omega);unfold fu;rw[A];refine aU ⟨by omega,by omega,by omega,by omega⟩ (aH (fun _=>aq (by simp)) fun X=>aU (by simp only[List.length_singleton];omega) (aU (by simp only[List.length_append,List.length_singleton];omega) ?_));cases t with
 | none=>exact absurd rfl X
 | some x =>
 obtain⟨x0,Y⟩:=ht x rfl;have f:((([46]:QK)++w)++([46]:QK)).length=w.length+2:=by simp
 refine ao (P:=fun v=>v.length=w.length+1) (bH (fun(v,i)=>0≤i∧i≤((w.length+2:Nat):Int)∧v.length=w.length+1) (fun(_,i)=>(((w.length+2:Nat):Int) - i).toNat) ⟨Int.le_refl _,by omega,by simp⟩ fun(v,i) ⟨h1,h2,L⟩=>?_) fun v p=>aq p
 refine aH (fun hi=>?_) fun _=>aq L
 rw[dec_lt,f]at hi;refine ao (P:=fun v=>v.length=w.length+1) (bH (fun(v,k,j)=>(0≤k∧k<(x.1.length:Int))∧0≤j∧j≤((w.length+2:Nat):Int)∧v.length=w.length+1) (fun(_,_,j)=>(((w.length+2:Nat):Int) - j).toNat) ⟨⟨Int.le_refl _,by omega⟩,h1,by omega,L⟩ fun(v,k,j) ⟨⟨M,g2⟩,g3,g4,Z⟩=>?_) fun v p=>?_
 rotate_left
 ·rw[bS h1 (by omega)];exact aq ⟨⟨by(try simp only);omega,by(try simp only);omega,p⟩,by(try simp only);omega⟩
 have u:=Y _ (bU (i:=k.toNat) (by omega) ([],([]:QK)));refine(aU ⟨M,g2⟩ (ao (P:=fun v=>v.length=w.length+1) (bH (fun(v,l)=>0≤l∧l≤(((x.1.getD k.toNat ([],([]:QK))).2.length:Nat):Int)∧v.length=w.length+1) (fun(_,l)=>((((x.1.getD k.toNat ([],([]:QK))).2.length:Nat):Int) - l).toNat) ⟨Int.le_refl _,by omega,Z⟩ fun(v,l) ⟨N,e2,B⟩=>?_) fun v p=>?_))
 ·refine aH (fun hl=>?_) fun _=>aq B
  have C:l<(((x.1.getD k.toNat ([],([]:QK))).2.length:Nat):Int):=by simpa using hl
  have e4:=u.2;have e5:i64.wrap (i64.wrap (i+l) - 1)=i+l - 1:=by rw[wrap_i64 (x:=i+l) (by omega) (by omega),wrap_i64 (by omega) (by omega)]
  refine aU ⟨N,C⟩ ?_;rw[e5];refine ao (P:=fun b=>b=true→0≤i+l - 1∧i+l - 1<(v.length:Int)) (aH (fun ha=>aq fun hb=>⟨of_decide_eq_true ha,of_decide_eq_true hb⟩) fun _=>aq fun h=>(by cases h)) fun b hb=>ao (P:=fun v=>v.length=w.length+1) (aH (fun D=>?_) fun _=>aq B) fun v' E=>?_
  ·obtain⟨O,V⟩:=hb D;exact aU ⟨O,V⟩ (aU (by omega) (aU ⟨O,V⟩ (aU (by omega) (aq (by simpa using B)))))
  ·rw[bS N (by omega)];exact aq ⟨⟨by(try simp only);omega,by(try simp only);omega,E⟩,by(try simp only);omega⟩
 ·rw[f];refine aH (fun _=>aq p) fun I=>?_
  have z:j<((w.length+2:Nat):Int):=by simp only[beq_iff_eq]at I;omega
  refine aU rfl (aU ⟨M,g2⟩ (aU ⟨g3,z⟩ (aU (by omega) (aH (fun _=>aq p) fun hf=>?_))));rw[bS g3 (by omega)];refine aq ⟨⟨?_,by(try simp only);omega,by(try simp only);omega,p⟩,by(try simp only);omega⟩;show 0≤(bj (α:=Int) (.int .i32) (x.1.getD k.toNat ([],([]:QK))).1 _).getD 0∧(bj (α:=Int) (.int .i32) (x.1.getD k.toNat ([],([]:QK))).1 _).getD 0<_;cases e:bj (α:=Int) (.int .i32) (x.1.getD k.toNat ([],([]:QK))).1 (((([46]:QK)++w)++([46]:QK)).getD j.toNat 0)with
  | none=>exact⟨Int.le_refl _,by simp only[Option.getD_none];omega⟩
  | some q =>
   obtain⟨k',J⟩:=re e;exact u.1 _ J
def RH(h:Option Z3):Prop:=∀x,h=some x→x.1.length≤256∧LV x.2.1∧qo x.2.2.1∧(1≤x.2.2.2.1∧x.2.2.2.1≤24)∧1≤x.2.2.2.2∧x.2.2.2.2≤24
theorem F3{α:Type}(x:α):(some x).isSome=true:=rfl
theorem Kf{a b:Int}(j:0≤a)(h:a<b)(hb:b≤1000000):a≤(i64.wrap (Int.fdiv (u64.wrap (i64.wrap (a+b))) (2 ^ (min (1:Int).toNat u64.bits))))∧(i64.wrap (Int.fdiv (u64.wrap (i64.wrap (a+b))) (2 ^ (min (1:Int).toNat u64.bits))))<b:=by
 rw[wrap_i64 (x:=a+b) (by omega) (by omega),E7];have e:(a+b) % 18446744073709551616=a+b:=by omega
 rw[e];have f:(2:Int) ^ (min (1:Int).toNat u64.bits)=2:=by decide
 rw[f,Int.fdiv_eq_ediv_of_nonneg _ (by omega),wrap_i64 (by omega) (by omega)];omega
theorem Cx{h:Option Z3}(p:RH h)(r:Int):Ho (dG h r) (fun _=>True):=by
 cases h with
 | none=>exact aq trivial
 | some x =>
 obtain⟨u,_⟩:=p x rfl;unfold dG;rw[if_neg (by simp),if_pos (F3 x)];refine ao (P:=fun k=>0≤k∧k≤(x.1.length:Int)) (ao (P:=fun k=>0≤k∧k≤(x.1.length:Int)) (bH (fun(a,b)=>0≤a∧a≤b∧b≤(x.1.length:Int)) (fun(a,b)=>(b - a).toNat) ⟨Int.le_refl _,Int.natCast_nonneg _,Int.le_refl _⟩ fun(a,b) ⟨h1,h2,v⟩=>?_) fun k hk=>aq hk) fun k ⟨h1,h2⟩=>ao (P:=fun b=>b=false→k<(x.1.length:Int)) ?_ fun b hb=>aH (fun _=>aq trivial) fun q=>?_
 ·refine aH (fun f=>?_) fun _=>aq ⟨h1,by omega⟩
  rw[dec_lt]at f;obtain⟨z,A⟩:=Kf h1 f (by omega);refine aU (by decide) (ao (P:=fun _=>True) ?_ fun b _=>aH (fun _=>?_) fun _=>?_)
  ·unfold dY;rw[if_pos (F3 x)];exact aU ⟨by omega,by simp only[Option.getD_some];omega⟩ (aq trivial)
  ·rw[bS (by omega) (by omega)];exact aq ⟨⟨by(try simp only);omega,by(try simp only);omega,by(try simp only);omega⟩,by(try simp only);omega⟩
  ·exact aq ⟨⟨by(try simp only);omega,by(try simp only);omega,by(try simp only);omega⟩,by(try simp only);omega⟩
 ·rw[if_pos (F3 x)];refine aH (fun _=>aq fun h=>by cases h) fun j=>?_
  have f:k<(x.1.length:Int):=by simp only[Option.getD_some,beq_iff_eq]at j;omega
  rw[if_pos (F3 x)];exact aU ⟨h1,f⟩ (aq fun _=>f)
 ·have f:=hb (by simpa using q);rw[if_pos (F3 x)];refine aU ⟨h1,f⟩ ?_;rw[if_pos (F3 x)];exact aU ⟨h1,f⟩ (aq trivial)
theorem AL{l:List (QK×QK)}(hl:qo l)(w:QK):Ho (iH l w) (fun r=>0≤r→r<(l.length:Int)∧(l.getD r.toNat ([],[])).2.length=w.length+1):=by
 have p:=hl.1;refine ao (P:=Lp (fun _=>True) fun r=>0≤r→r<(l.length:Int)∧(l.getD r.toNat ([],[])).2.length=w.length+1) (bH (fun i=>0≤i∧i≤(l.length:Int)) (fun i=>((l.length:Int) - i).toNat) ⟨Int.le_refl _,by omega⟩ fun i ⟨h1,h2⟩=>?_) ?_
 ·refine aH (fun hi=>?_) fun _=>aq trivial
  rw[dec_lt]at hi;have f:=hl.2 _ (bU (i:=i.toNat) (by omega) ([],([]:QK)));refine aU ⟨h1,hi⟩ (ao (P:=fun r=>r=true→(l.getD i.toNat ([],([]:QK))).1.length=w.length) (ao (BT (by have:=f.2;omega)) fun r j=>aq j) fun r j=>aH (fun ht=>aq fun _=>⟨hi,by rw[f.1,j ht]⟩) fun _=>?_);rw[bS h1 (by omega)];exact aq ⟨⟨by(try simp only);omega,by(try simp only);omega⟩,by(try simp only);omega⟩
 ·rintro(_ | r) h
  ·exact aq fun h=>absurd h (by decide)
  ·exact aq h
theorem Gf{h:Option Z3}(u:RH h){w:QK}(z:w.length≤4096):Ho (eL h w) (fun r=>r.length=w.length+1):=by
 have j:i64.wrap ((w.length:Int)+1)=((w.length+1:Nat):Int):=bF (by omega);unfold eL;rw[j];refine aU ⟨by omega,by omega,by omega,by omega⟩ (aH (fun _=>aq (by simp)) fun A=>?_);cases h with
 | none=>exact absurd rfl A
 | some x =>
 obtain⟨_,B,C,⟨J,_⟩,L,M⟩:=u x rfl;rw[if_pos (F3 x)];refine ao (Fe B z) fun v p=>?_
 rw[if_pos (F3 x)];refine ao (AL C w) fun r q=>ao (P:=fun v=>v.length=w.length+1) ?_ fun v p=>?_
 ·refine aH (fun D=>?_) fun _=>aq p
  have f:0≤r:=of_decide_eq_true D;rw[if_pos (F3 x)];exact aU ⟨f,(q f).1⟩ (aq (q f).2)
 ·rw[if_pos (F3 x)];refine ao (P:=fun o=>o.length=w.length+1) (bH (fun(o,i)=>0≤i∧o.length=w.length+1) (fun(_,i)=>((w.length:Int)+1 - i).toNat) ⟨by simp only[Option.getD_some];omega,by simp⟩ fun(o,i) ⟨h1,h2⟩=>?_) fun o E=>aq E
  unfold gh;dsimp only;rw[if_pos (F3 x)];refine aH (fun hi=>?_) fun _=>aq h2
  have I:i≤(w.length:Int) - x.2.2.2.2:=by have:=of_decide_eq_true hi;simp only[Option.getD_some]at this;rwa [wrap_i64 (by omega) (by omega)]at this
  refine aU ⟨h1,by omega⟩ (aU (by decide) (aU ⟨h1,by omega⟩ (aU (by omega) ?_)));rw[bS h1 (by omega)];exact aq ⟨⟨by(try simp only);omega,by simpa using h2⟩,by(try simp only);omega⟩
theorem Es{h:Option Z3}(q:RH h){l:XK}(hl:l.length≤4096):Ho (dD h l) (fun _=>True):=by
 have f:i64.wrap ((l.length:Int)+1)=((l.length+1:Nat):Int):=bF (by omega);unfold dD;rw[f];refine aU ⟨by omega,by omega,by omega,by omega⟩ (ao (P:=fun _=>True) (bH (fun(o,i)=>0≤i∧o.length=l.length+1) (fun(_,i)=>((l.length:Int)+1 - i).toNat) ⟨Int.le_refl _,by simp⟩ fun(o,i) ⟨h1,h2⟩=>?_) fun _ _=>aq trivial);refine aH (fun hi=>?_) fun _=>aq trivial
 rw[dec_lt]at hi;refine ao (P:=fun(j,w)=>i≤j∧j≤(l.length:Int)∧(w.length:Int)=j - i) (bH (fun(j,w)=>i≤j∧j≤(l.length:Int)∧(w.length:Int)=j - i) (fun(j,_)=>((l.length:Int) - j).toNat) ⟨Int.le_refl _,by omega,by simp⟩ fun(j,w) ⟨p,g2,g3⟩=>?_) fun(j,w) ⟨p,g2,g3⟩=>?_
 ·refine aH (fun u=>?_) fun _=>aq ⟨p,g2,g3⟩
  rw[dec_lt]at u;refine aU ⟨by omega,u⟩ (ao (Cx q _) fun(c,ok) _=>aH (fun _=>aq ⟨p,g2,g3⟩) fun _=>aU (by simp only[List.length_singleton];omega) ?_);rw[bS (by omega) (by omega)];exact aq ⟨⟨by(try simp only);omega,by(try simp only);omega,by simp only[List.length_append,List.length_singleton];omega⟩,by(try simp only);omega⟩
 ·refine aU ⟨h1,by omega⟩ (ao (Gf q (by omega)) fun r v=>aU ⟨by decide,by omega,by omega⟩ ?_);rw[bS (by omega) (by omega)];refine aq ⟨⟨by(try simp only);omega,?_⟩,by(try simp only);omega⟩;simp only[List.length_append,List.length_take,List.length_drop];omega
theorem ze(l:XK):Ho (m9 l) (fun b=>b=true→l.length≤256):=by
 refine aH (fun _=>aq fun h=>by cases h) fun hl=>?_
 have f:l.length≤256:=by simp only[decide_eq_true_eq]at hl;omega
 refine ao (P:=fun _=>True) (bH (fun(_,i)=>0≤i∧i≤(l.length:Int)) (fun(_,i)=>((l.length:Int) - i).toNat) ⟨Int.le_refl _,by omega⟩ fun(q,i) ⟨h1,h2⟩=>?_) ?_
 ·refine aH (fun hi=>?_) fun _=>aq trivial
  rw[dec_lt]at hi;refine aU ⟨h1,hi⟩ (ao (P:=fun _=>True) ?_ fun b _=>aH (fun _=>aq trivial) fun _=>?_)
  ·repeat' split
   all_goals exact aq trivial
  ·rw[bS h1 (by omega)];exact aq ⟨⟨by(try simp only);omega,by(try simp only);omega⟩,by(try simp only);omega⟩
 ·rintro(_ | r) _
  ·exact aq fun _=>f
  ·exact aq fun _=>f
theorem C6(t:QX)(l:XK)(a b:Int):Ho (mT t l a b) (fun r=>r.2.1=0∧RH r.1∨r.2.1≠0∧r.1=none):=by
 refine ao (ze l) fun ok f=>aH (fun _=>aq (.inr ⟨by decide,rfl⟩)) fun hk=>ao (P:=fun c=>c=false→(1≤a∧a≤24)∧1≤b∧b≤24) ?_ fun c hc=>aH (fun _=>aq (.inr ⟨by decide,rfl⟩)) fun j=>ao (yU t) fun(p,c) hp=>aH (fun h=>aq (.inr ⟨by simpa using h,rfl⟩)) fun _=>?_
 ·refine aH (fun _=>aq fun h=>by cases h) fun h1=>aH (fun _=>aq fun h=>by cases h) fun h2=>aH (fun _=>aq fun h=>by cases h) fun q=>aq fun u=>?_
  simp only[decide_eq_true_eq,decide_eq_false_iff_not]at h1 h2 q u;omega
 ·have hl:=f (by simpa using hk);refine ao (P:=fun r=>r=l) ?_ fun r v=>ao (Am hp.1) fun t ⟨_,ht⟩=>aq (.inl ⟨rfl,fun x z=>?_⟩)
  ·refine aH (fun h=>aq (List.isEmpty_iff.1 h).symm) fun _=>aU (by simp only[List.length_nil];omega) (aq rfl)
  ·cases z;subst v;exact⟨hl,ht,hp.2,hc (by simpa using j)⟩
structure RB(b:Option Z1):Prop where
 para:∀x,Bytes x→x.length≤4096→∃p,ba b x=some (p,0)∧PM (x.length:Int) p
 L6:∀x:QK,4096<x.length→ba b x=some (([],[]),3)
theorem KJ{v z:Z5}{M N:Nat}{A B q:Option yE}{C D O:Int→Int}{h:Option Z3}(h1:Mo v M)(h2:Mo z N)(V:n9 A C)(g2:n9 B D)(g3:n9 q O)(X:RH h):RB (some (some v,some z,A,B,q,h)) where
 para x hb hl:=by
  obtain⟨s,Y,hc,Z⟩:=FR hb hl;have hr:=hc.range;have p:s.length≤4096:=by omega
  obtain⟨o1,e2,a1⟩:=xZ h1 (w:=s.map fun x=>C x.1) (by simpa using p);obtain⟨o2,e3,E⟩:=xZ h2 (w:=s.map fun x=>D x.1) (by simpa using p);rw[List.length_map]at E;obtain⟨I,e6,_⟩:=Es X p;obtain⟨⟨J,st⟩,e4,f⟩:=EB g3 hc (by omega) o1;simp only at f;obtain⟨o,e5,L⟩:=Gi p E I (st:=st) (by have:=f.len;have:=f.le;omega) (fun i hi=>f.at_ i hi) (fun h=>f.zero (by have:=f.len;omega));rw[f.len]at L;have a2:=f.le;refine⟨(J,o),?_,⟨f.Jj,by simp only;omega,fun h=>f.some_ (by omega),L⟩⟩;have j:¬((x.length:Int) > 4096):=by omega
  have u:gn s o1 o2 I q=some (J,o):=by unfold gn kY;simp only[e4,Option.bind];rw[if_pos (by have:=f.len;simp;omega)];simp only[e5]
  unfold ba;simp only[Option.getD,Option.isNone,Option.isSome,j,decide_false,Bool.false_eq_true,if_false,if_true,Option.bind,Y,DH V p,DH g2 p,e2,e3,e6,u]
 L6 x hx:=by
  have j:(x.length:Int) > 4096:=by omega
  unfold ba;simp only[Option.isNone,Bool.false_eq_true,if_false,j,decide_true,if_true]
theorem pj(l:XK)(j:Int):Ho (fM l j) (fun r=>r.2=0∧(∃f,n9 r.1 f)∨r.2≠0):=by
 rcases tU l j with⟨e,_⟩ | ⟨t,e,_,h⟩
 ·exact⟨_,e,.inr (by decide)⟩
 ·exact⟨_,e,.inl ⟨rfl,_,h⟩⟩
theorem D9{m:Option Z5}:Ho (cj m) (fun _=>True):=by
 cases m with
 | none=>exact aq trivial
 | some x=>exact⟨_,rfl,trivial⟩
theorem CT(v x z A:XK)(B C D:QX)(E I:Int):Ho (jH v x z A B C D E I) (fun r=>r.2.1=0∧RB r.1∨r.2.1≠0∧r.1=none):=by
 refine ao (vb B) fun(m1,M) f=>aH (fun h=>aq (.inr ⟨by simpa using h,rfl⟩)) fun h1=>ao (vb C) fun(m2,N) j=>aH (fun h=>aq (.inr ⟨by simpa using h,rfl⟩)) fun h2=>ao D9 fun O _=>ao D9 fun V _=>aU (by decide) (ao (pj v O) fun(t1,X) p=>aH (fun h=>aq (.inr ⟨by simpa using h,rfl⟩)) fun Y=>aU (by decide) (ao (pj x V) fun(t2,Z) q=>aH (fun h=>aq (.inr ⟨by simpa using h,rfl⟩)) fun h4=>aU (by decide) (ao (pj z 3) fun(t3,e3) u=>aH (fun h=>aq (.inr ⟨by simpa using h,rfl⟩)) fun h5=>ao (C6 D A E I) fun(hy,e4) hh=>aH (fun h=>aq (.inr ⟨by simpa using h,rfl⟩)) fun h6=>aq (.inl ⟨rfl,?_⟩))))
 have z1:M.1=0:=by simpa using h1
 have z2:N.1=0:=by simpa using h2
 have z3:X=0:=by simpa using Y
 have z4:Z=0:=by simpa using h4
 have z5:e3=0:=by simpa using h5
 have z6:e4.1=0:=by simpa using h6
 obtain⟨_,x1,J,r1,_⟩:=f.resolve_right fun h=>h.1 z1
 obtain⟨_,x2,L,r2,_⟩:=j.resolve_right fun h=>h.1 z2
 obtain⟨_,f1,g1⟩:=p.resolve_right fun h=>h z3
 obtain⟨_,f2,g2⟩:=q.resolve_right fun h=>h z4
 obtain⟨_,f3,g3⟩:=u.resolve_right fun h=>h z5
 obtain⟨_,rh⟩:=hh.resolve_right fun h=>h.1 z6
 simp only at J L;rw[J,L];exact KJ r1 r2 g1 g2 g3 rh
def Nc(b:Option Z1):Prop:=∀x,ba b x=ba MF x
theorem JS:∃b,jH [] jP lS [] GZ GA [] 2 2=some (b,0,0)∧Nc b:=by
 obtain⟨q,u,v,e,f,j,p⟩:=Ld;exact⟨_,e,J6 f j p⟩
theorem uT{j f u v x:Int}{z:QJ}(h:ig j f u v x z=some true):1≤f∧f≤64:=by
 unfold ig at h;by_cases h1:j≥1
 case neg=>simp[h1]at h
 by_cases h2:j≤1048576
 case neg=>simp[h1,h2]at h
 by_cases p:f≥1
 case neg=>simp[h1,h2,p]at h
 by_cases q:f≤64
 case neg=>simp[h1,h2,p,q]at h
 exact⟨p,q⟩
structure Ng(b:Option Z1)(c:Wy)(x:QK)(p:Qk×QK)(kn:Kn):Prop where
 KW:Bytes x
 len:x.length≤4096
 para:ba b x=some (p,0)
 pm:PM (x.length:Int) p
 wy:Cg c
 Nf:Kx c kn
end
end Go.Proofs.YtobbjfkfmdiklaaGreatDoor.T
