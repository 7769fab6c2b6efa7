import Derived.Test.YtobbjfkfmdiklaaGreatDoorTv50hbm
import Derived.Test.YtobbjfkfmdiklaaGreatDoorTvFbm
namespace Go.Proofs.YtobbjfkfmdiklaaGreatDoor.T
open Go Go.Tv Go.Proofs
open Go.IntKind (i64)
noncomputable section
def xy(c:Wy):Prop:=0≤c.2.2.2.1∧c.2.2.2.1≤1048576∧0≤c.2.2.2.2.1∧c.2.2.2.2.1≤1048576
theorem sN{c:Wy}(w:xy c)(op e n g:Int)(last:Bool):0≤(fZ c op e n g last).1∧(fZ c op e n g last).1≤1000000000:=by
 obtain⟨L,M,N,O⟩:=w;have tail:∀f:Int,0≤f→f≤10000→∃v:Int,(((if(e == (3:Int))=true then(if 0≤(0:Int)∧(0:Int)<(([op]:QK).length:Int)then(if((([op]:QK).getD (0:Int).toNat (0:Int)) == (3:Int))=true then some ((i64.wrap ((i64.wrap ((i64.wrap ((i64.wrap ((10:Int)+f))*(i64.wrap ((10:Int)+f))))+c.2.2.2.1))+c.2.2.2.2.1)))
    else some ((i64.wrap ((i64.wrap ((i64.wrap ((10:Int)+f))*(i64.wrap ((10:Int)+f))))+c.2.2.2.1))))else none)
    else some ((i64.wrap ((i64.wrap ((10:Int)+f))*(i64.wrap ((10:Int)+f))))))).bind fun j=>some (j,true))=some (v,true)∧0≤v∧v≤1000000000:=fun f u x=>by
  have B:i64.wrap ((10:Int)+f)=10+f:=wrap_i64 (by omega) (by omega);have C:0≤(10+f)*(10+f):=Int.mul_nonneg (by omega) (by omega);have D:(10+f)*(10+f)≤10010*10010:=Int.mul_le_mul (by omega) (by omega) (by omega) (by omega);rw[B];generalize (10+f)*(10+f)=q at C D;have E:i64.wrap q=q:=wrap_i64 (by omega) (by omega);have I:i64.wrap (q+c.2.2.2.1)=q+c.2.2.2.1:=wrap_i64 (by omega) (by omega);have J:i64.wrap (q+c.2.2.2.1+c.2.2.2.2.1)=q+c.2.2.2.1+c.2.2.2.2.1:=wrap_i64 (by omega) (by omega);rw[E,I,J];by_cases z:(e == 3)=true
  ·rw[if_pos z,if_pos (by simp)];split
   ·exact⟨_,rfl,by omega,by omega⟩
   ·exact⟨_,rfl,by omega,by omega⟩
  ·rw[if_neg z];exact⟨_,rfl,by omega,by omega⟩
 unfold fZ dE;by_cases hn:n > c.1
 ·rw[if_pos (by simpa using hn)];exact⟨Int.le_refl (0:Int),(by decide:(0:Int)≤1000000000)⟩
 ·rw[if_neg (by simpa using hn)];cases last with
  | true =>
   obtain⟨v,p,v0,v1⟩:=tail 0 (by omega) (by omega);simp only[Bool.not_true,Bool.false_eq_true,if_false,Option.bind_some];rw[p];exact⟨v0,v1⟩
  | false =>
   obtain⟨b,hb,u,x⟩:=wH (bR .quo (ofInt (i64.wrap (c.1 - n))) (ofInt g));simp only[Bool.not_false,if_true,oT,lA,Option.bind_some];by_cases A:(!(!(Md (bR .quo (ofInt (i64.wrap (c.1 - n))) (ofInt g)) c.2.2.2.2.2)))=true
   ·rw[if_pos A];exact⟨Int.le_refl (0:Int),(by decide:(0:Int)≤1000000000)⟩
   ·rw[if_neg A,hb];obtain⟨v,p,v0,v1⟩:=tail b u x;simp only[Option.bind_some];rw[p];exact⟨v0,v1⟩
def B0(d:Dt)(a:Nat):Nat→Nat
 | 0=>0
 | k+1=>if(d (a+k)).2.1=1 then B0 d a k+1 else B0 d a k
theorem CQ(d:Dt)(a:Nat):∀k,B0 d a k≤k
 | 0=>Nat.le_refl _
 | k+1=>by
  have:=CQ d a k;simp only[B0];split <;> omega
def Fo(d:Dt)(a k:Nat):Int:=(B0 d a (gR d a k - a):Int)
theorem G3(d:Dt)(a:Nat):Fo d a a=0:=by
 have:=kd d a a (Nat.le_refl _);unfold Fo;rw[show gR d a a - a=0 by omega];rfl
theorem Jv(d:Dt){a k:Nat}(h:a≤k):Fo d a (k+1)=if iD (d k)=true then Fo d a k else(B0 d a (k+1 - a):Int):=by
 unfold Fo;simp only[gR];by_cases e:iD (d k)=true
 ·rw[if_pos ⟨by omega,e⟩,if_pos e]
 ·rw[if_neg (fun q=>e q.2),if_neg e]
def Aj(d:Dt)(n:Nat)(c:Wy)(a b:Nat):Int×Bool:=if ll d b=0 then(0,false)else fZ c (ll d a) (ll d b) (kx d c.2.1 a b (ll d b)) (Fo d a b) (b == n)
theorem Hd(d:Dt)(n:Nat){c:Wy}(w:xy c)(a b:Nat):0≤(Aj d n c a b).1∧(Aj d n c a b).1≤1000000000:=by
 unfold Aj;split
 ·exact⟨Int.le_refl (0:Int),(by decide:(0:Int)≤1000000000)⟩
 ·exact sN w _ _ _ _ _
theorem zb{d:Dt}{n:Nat}{c:Wy}{a b:Nat}(h:(Aj d n c a b).2=true):ll d b≠0∧kx d c.2.1 a b (ll d b)≤c.1:=by
 unfold Aj at h;by_cases e:ll d b=0
 ·rw[if_pos e]at h;cases h
 ·rw[if_neg e]at h;exact⟨e,Dx h⟩
def zY(d:Dt)(n:Nat)(c:Wy):Nat→QV→Prop
 | a,[]=>a=n
 | a,b::r=>a<b∧b≤n∧(Aj d n c a b).2=true∧zY d n c b r
def xC(d:Dt)(n:Nat)(c:Wy):Nat→QV→Int
 | _,[]=>0
 | a,b::r=>(Aj d n c a b).1+xC d n c b r
theorem zY.le{d:Dt}{n:Nat}{c:Wy}:∀ {r:QV} {a:Nat},zY d n c a r→a+r.length≤n
 | [],a,h=>by simp only[zY]at h;simp;omega
 | b::r,a,h=>by
  have:=zY.le h.2.2.2;have:=h.1;simp only[List.length_cons];omega
theorem zY.mono{d:Dt}{n:Nat}{c c':Wy}(h:∀a b,(Aj d n c a b).2=true→(Aj d n c' a b).2=true):∀ {r:QV} {a:Nat},zY d n c a r→zY d n c' a r
 | [],_,q=>q
 | _::_,_,q=>⟨q.1,q.2.1,h _ _ q.2.2.1,zY.mono h q.2.2.2⟩
def FO(d:Dt)(n:Nat)(c:Wy)(all:Nat→Int×Int)(a b:Nat):Prop:=(Aj d n c a b).2=true∧(b<n→0≤(all b).2)
def Ay(d:Dt)(n:Nat)(c:Wy)(all:Nat→Int×Int)(a b:Nat):Int:=(Aj d n c a b).1+(all b).1
def Ez(d:Dt)(n:Nat)(c:Wy)(all:Nat→Int×Int)(a k:Nat)(v:Int×Int):Prop :=
 (v.2 = -1∧∀b,a<b→b≤k→¬FO d n c all a b) ∨
 ∃t:Nat,v.2=(t:Int)∧a<t∧t≤k∧FO d n c all a t∧v.1=Ay d n c all a t∧∀b,a<b→b≤k→FO d n c all a b→v.1≤Ay d n c all a b
section
variable{d:Dt}{n:Nat}{c:Wy}(hn:n≤4096)(w:xy c)(hc:∀a k,a+k≤n→0≤dD d c.2.1 a k∧dD d c.2.1 a k≤1000000)(hm:∀a k,a+k<n→dD d c.2.1 a k≤dD d c.2.1 a (k+1))
include hm in
theorem yF(a:Nat):∀ {j i:Nat},i≤j→a+j≤n→dD d c.2.1 a i≤dD d c.2.1 a j
 | 0,i,h,_=>by
  obtain rfl:i=0:=by omega
  exact Int.le_refl _
 | j+1,i,h,f=>by
  by_cases e:i=j+1
  ·rw[e];exact Int.le_refl _
  ·exact Int.le_trans (yF a (j:=j) (by omega) (by omega)) (hm a j (by omega))
include hm in
theorem Ax(a:Nat):∀ {j i:Nat},a≤i→i≤j→j≤n→CB d c.2.1 a i≤CB d c.2.1 a j
 | 0,i,_,h,_=>by
  obtain rfl:i=0:=by omega
  exact Int.le_refl _
 | j+1,i,f,h,p=>by
  by_cases e:i=j+1
  ·rw[e];exact Int.le_refl _
  ·refine Int.le_trans (Ax a (j:=j) f (by omega) (by omega)) ?_;rw[Ef d c.2.1 (by omega)];split
   ·exact Int.le_refl _
   ·have:=kd d a j (by omega);exact yF hm a (by omega) (by omega)
include hn w hc hm
theorem yz(all:Nat→Int×Int)(a:Nat)(C:∀k,a<k→k≤n→0≤(all k).1∧(all k).1≤5000000000000):∀m k f A full sp L,a≤k→k+m=n→full=CB d c.2.1 a k→sp=(B0 d a (k - a):Int)→L=Fo d a k→Ez d n c all a k (f,A) →
  Ez d n c all a n (dY d n c all a m k f A full sp L)
 | 0,k,f,A,full,sp,L,_,h1,_,_,_,h=>by
  obtain rfl:k=n:=by omega
  exact h
 | m+1,k,f,A,full,sp,L,X,h1,Z,hs,hg,h=>by
  simp only[dY];have a1:=CQ d a (k - a);have es:(if(d k).2.1=1 then i64.wrap (sp+1)else sp)=(B0 d a (k+1 - a):Int):=by
   rw[show k+1 - a=(k - a)+1 by omega];simp only[B0];rw[show a+(k - a)=k by omega,hs];split
   ·rw[wrap_i64 (by omega) (by omega)];omega
   ·rfl
  rw[es];have e1:(if iD (d k)=true then(full,L)else(dD d c.2.1 a (k+1 - a),(B0 d a (k+1 - a):Int)))=(CB d c.2.1 a (k+1),Fo d a (k+1)):=by rw[Ef d c.2.1 X,Jv d X,Z,hg];split <;> rfl
  rw[e1];simp only;have eo:ll d (k+1)=(d k).2.2:=rfl;have skip:¬FO d n c all a (k+1)→Ez d n c all a (k+1) (f,A):=fun z=>by
   rcases h with⟨p,u⟩ | ⟨t,p,u,N,I,J,D⟩
   ·refine .inl ⟨p,fun b v B hb=>?_⟩;by_cases e:b=k+1
    ·rw[e]at hb;exact z hb
    ·exact u b v (by omega) hb
   ·refine .inr ⟨t,p,u,by omega,I,J,fun b v B hb=>?_⟩;by_cases e:b=k+1
    ·rw[e]at hb;exact absurd hb z
    ·exact D b v (by omega) hb
  have M:=fun E O=>yz all a C m (k+1) E O (CB d c.2.1 a (k+1)) (B0 d a (k+1 - a)) (Fo d a (k+1)) (by omega) (by omega) rfl rfl rfl
  by_cases Y:CB d c.2.1 a (k+1) > c.1
  ·rw[if_pos Y];have z:∀b,k<b→b≤n→¬FO d n c all a b:=fun b v B hb=>by have h2:=(zb hb.1).2;rw[yn]at h2;have:=Ax hm a (i:=k+1) (j:=b) (by omega) (by omega) B;split at h2 <;> omega
   rcases h with⟨p,u⟩ | ⟨t,p,u,N,I,J,D⟩
   ·refine .inl ⟨p,fun b v B hb=>?_⟩;by_cases e:b≤k
    ·exact u b v e hb
    ·exact z b (by omega) B hb
   ·refine .inr ⟨t,p,u,by omega,I,J,fun b v B hb=>?_⟩;by_cases e:b≤k
    ·exact D b v e hb
    ·exact absurd hb (z b (by omega) B)
  ·rw[if_neg Y];by_cases hk:(d k).2.2=0∨(k+1<n∧(all (k+1)).2<0)
   ·rw[if_pos hk];refine M f A (skip fun hb=>?_);rcases hk with q | ⟨q,q'⟩
    ·exact(zb hb.1).1 q
    ·have:=hb.2 q;omega
   ·rw[if_neg hk];have hb:=hc a (gR d a (k+1) - a) (by have:=kd d a (k+1) (by omega);omega);have a2:0≤CB d c.2.1 a (k+1)∧CB d c.2.1 a (k+1)≤1000000:=hb;have ep:fZ c (ll d a) (d k).2.2 (if(d k).2.2=3 then i64.wrap (CB d c.2.1 a (k+1)+1)else CB d c.2.1 a (k+1)) (Fo d a (k+1)) (k+1 == n)=Aj d n c a (k+1):=by
     unfold Aj;rw[eo,if_neg (fun q=>hk (.inl q)),yn];congr 1;split
     ·rw[wrap_i64 (by omega) (by omega)]
     ·omega
    rw[ep];have hp:=Hd d n w a (k+1);have ha:=C (k+1) (by omega) (by omega);have ew:i64.wrap ((Aj d n c a (k+1)).1+(all (k+1)).1)=Ay d n c all a (k+1):=wrap_i64 (by omega) (by omega);rw[ew];have V:k+1<n→0≤(all (k+1)).2:=fun q=>by
     have:¬(all (k+1)).2<0:=fun hh=>hk (.inr ⟨q,hh⟩)
     omega
    by_cases x:(Aj d n c a (k+1)).2=true∧(A<0∨Ay d n c all a (k+1)<f)
    ·rw[if_pos x];refine M _ _ (.inr ⟨k+1,rfl,by omega,Nat.le_refl _,⟨x.1,V⟩,rfl,fun b v B hb=>?_⟩);by_cases e:b=k+1
     ·rw[e];exact Int.le_refl _
     ·rcases h with⟨p,u⟩ | ⟨t,p,u,N,I,J,D⟩
      ·exact absurd hb (u b v (by omega))
      ·have:=D b v (by omega) hb;simp only at this p ⊢;rcases x.2 with q | q <;> omega
    ·rw[if_neg x];by_cases h2:(Aj d n c a (k+1)).2=true
     ·refine M f A ?_;rcases h with⟨p,u⟩ | ⟨t,p,u,N,I,J,D⟩
      ·simp only at p;exact absurd ⟨h2,.inl (by omega)⟩ x
      ·refine .inr ⟨t,p,u,by omega,I,J,fun b v B hb=>?_⟩;by_cases e:b=k+1
       ·rw[e];simp only;rcases Int.lt_or_le (Ay d n c all a (k+1)) f with q | q
        ·exact absurd ⟨h2,.inr q⟩ x
        ·exact q
       ·exact D b v (by omega) hb
     ·exact M f A (skip fun hb=>h2 hb.1)
omit hn w hc hm in
theorem sH:∀i j,i+j≤n→∀k,k≤j→(cZ d n c j).getD k (0,0)=(cZ d n c (i+j)).getD (i+k) (0,0)
 | 0,j,_,k,_=>by rw[Nat.zero_add,Nat.zero_add]
 | i+1,j,h,k,hk=>by
  rw[sH i j (by omega) k hk,show i+1+j=(i+j)+1 by omega,show i+1+k=(i+k)+1 by omega];simp only[cZ,List.getD_cons_succ]
variable(d n c) in
def TT(k:Nat):Int×Int:=(cZ d n c n).getD k (0,0)
omit hn w hc hm in
theorem Kq:TT d n c n=(0,0):=by
 have:=sH (d:=d) (n:=n) (c:=c) n 0 (by omega) 0 (by omega);rw[Nat.add_zero]at this;exact this.symm
omit hn w hc hm in
theorem LD{a:Nat}(ha:a<n):TT d n c a=if a=0∨ll d a≠0 then dY d n c (TT d n c) a (n - a) a 0 (-1) 0 0 0 else(0,-1):=by
 have h:=sH (d:=d) (n:=n) (c:=c) a (n - a) (by omega) 0 (by omega);rw[show a+(n - a)=n by omega,Nat.add_zero]at h;unfold TT;rw[←h];obtain⟨j,f⟩:∃j,n - a=j+1:=⟨n - a - 1,by omega⟩;rw[f];simp only[cZ,List.getD_cons_zero];unfold sV;rw[show n - (j+1)=a by omega,f];split
 ·refine mB (fun _ _=>rfl) c _ _ a (by omega) (fun k p q=>?_) _ _ _ _ _ _ _ (Nat.le_refl _) (by omega);have:=sH (d:=d) (n:=n) (c:=c) (a+1) j (by omega) (k - a - 1) (by omega);rw[show a+1+j=n by omega,show a+1+(k - a - 1)=k by omega]at this;exact this
 ·rfl
theorem wT:∀m a,n - a≤m→a<n→(0≤(TT d n c a).1∧(TT d n c a).1≤((n:Int) - (a:Int))*1000000000)∧((a=0∨ll d a≠0)→Ez d n c (TT d n c) a n (TT d n c a))
 | 0,a,h,ha=>by omega
 | m+1,a,h,ha=>by
  have v:∀k,a<k→k≤n→0≤(TT d n c k).1∧(TT d n c k).1≤((n:Int) - (k:Int))*1000000000:=fun k B C=>by
   by_cases e:k=n
   ·rw[e,Kq];simp only;omega
   ·exact(wT m k (by omega) (by omega)).1
  rw[LD ha];by_cases hb:a=0∨ll d a≠0
  ·rw[if_pos hb];have:=yz hn w hc hm (TT d n c) a (fun k B C=>by have:=v k B C;omega) (n - a) a 0 (-1) 0 0 0 (Nat.le_refl _) (by omega) (Hf d c.2.1 a).symm (by rw[Nat.sub_self];rfl) (G3 d a).symm (.inl ⟨rfl,fun b N O=>by omega⟩);refine⟨?_,fun _=>this⟩;have hin:=pd d n c (TT d n c) a (n - a) a 0 (-1) 0 0 0 (Nat.le_refl _) (by omega) (.inl rfl);rcases this with⟨D,E⟩ | ⟨t,D,E,I,V,J,X⟩
   ·-- nothing z found: L j Y as Z z
    have hz:∀m k full sp u,(dY d n c (TT d n c) a m k 0 (-1) full sp u).2 = -1→(dY d n c (TT d n c) a m k 0 (-1) full sp u).1=0:=by
     have key:∀m k j x full sp u,(0≤x→0≤(dY d n c (TT d n c) a m k j x full sp u).2)∧((dY d n c (TT d n c) a m k j x full sp u).2 = -1→(dY d n c (TT d n c) a m k j x full sp u).1=j):=fun m=>by
      induction m with
      | zero=>intro k j x full sp u;exact⟨id,fun _=>rfl⟩
      | succ m A =>
       intro k j x full sp u;simp only[dY];generalize (if iD (d k)=true then(full,u)else(dD d c.2.1 a (k+1 - a),(if(d k).2.1=1 then i64.wrap (sp+1)else sp)))=f;generalize fZ c (ll d a) (d k).2.2 (if(d k).2.2=3 then i64.wrap (f.1+1)else f.1) f.2 (k+1 == n)=p;split
       ·exact⟨id,fun _=>rfl⟩
       ·split
        ·exact A _ _ _ _ _ _
        ·split
         ·have:=A (k+1) (i64.wrap (p.1+(TT d n c (k+1)).1)) ((k+1:Nat):Int) f.1 (if(d k).2.1=1 then i64.wrap (sp+1)else sp) f.2;have M:=this.1 (by omega);exact⟨fun _=>M,fun q=>by omega⟩
         ·exact A _ _ _ _ _ _
     exact fun m k full sp u=>(key m k 0 (-1) full sp u).2
    rw[hz _ _ _ _ _ D];omega
   ·rw[J];unfold Ay;have hp:=Hd d n w a t;have:=v t E I;omega
  ·rw[if_neg hb];exact⟨by simp only;omega,fun q=>absurd q hb⟩
theorem Hk:∀ {r:QV} {a:Nat},a<n→(a=0∨ll d a≠0)→zY d n c a r→0≤(TT d n c a).2∧(TT d n c a).1≤xC d n c a r
 | [],a,ha,_,h=>by simp only[zY]at h;omega
 | b::r,a,ha,v,h=>by
  obtain⟨h1,h2,f,j⟩:=h;have hB:=(wT hn w hc hm (n - a) a (Nat.le_refl _) ha).2 v;have p:FO d n c (TT d n c) a b∧(TT d n c b).1≤xC d n c b r:=by
   by_cases e:b<n
   ·have:=Hk e (.inr (zb f).1) j;exact⟨⟨f,fun _=>this.1⟩,this.2⟩
   ·obtain rfl:b=n:=by omega
    refine⟨⟨f,fun q=>absurd q e⟩,?_⟩;have:=j.le;obtain rfl:r=[]:=List.length_eq_zero_iff.1 (by omega);rw[Kq];exact Int.le_refl _
  simp only[xC];rcases hB with⟨x,u⟩ | ⟨t,x,u,A,B,C,z⟩
  ·exact absurd p.1 (u b h1 h2)
  ·have:=z b h1 h2 p.1;unfold Ay at this;omega
theorem vb:∀m a,a≤n→n≤a+m→(a<n→0≤(TT d n c a).2∧(a=0∨ll d a≠0)) →
  zY d n c a ((gT d n c.2.1 (cZ d n c n) m a).map fun x=>x.2.1.toNat)∧xC d n c a ((gT d n c.2.1 (cZ d n c n) m a).map fun x=>x.2.1.toNat)=if a<n then(TT d n c a).1 else 0
 | 0,a,h,h1,_=>by
  obtain rfl:a=n:=by omega
  exact⟨rfl,by rw[if_neg (by omega)];rfl⟩
 | m+1,a,h,h1,h2=>by
  simp only[gT];by_cases ha:a<n
  ·obtain⟨D,v⟩:=h2 ha;rw[if_pos ha,if_pos ha];rcases(wT hn w hc hm (n - a) a (Nat.le_refl _) ha).2 v with⟨p,q⟩ | ⟨t,p,q,u,f,z,E⟩
   ·omega
   ·have A:((cZ d n c n).getD a (0,0)).2=(t:Int):=p;rw[A,Int.toNat_natCast];obtain⟨B,C⟩:=vb m t u (by omega) (fun j=>⟨f.2 j,.inr (zb f.1).1⟩);simp only[List.map_cons];have em:(La d c.2.1 a t (ll d t)).2.1.toNat=t:=Int.toNat_natCast t;rw[em];refine⟨⟨q,u,f.1,B⟩,?_⟩;simp only[xC];rw[C,z];unfold Ay;by_cases e:t<n
    ·rw[if_pos e]
    ·obtain rfl:t=n:=by omega
     rw[if_neg e,Kq]
  ·obtain rfl:a=n:=by omega
   rw[if_neg ha,if_neg ha];exact⟨rfl,rfl⟩
theorem wQ(j:0<n):(∀ {r},zY d n c 0 r→∃l,iP d n c=some l∧zY d n c 0 (l.map fun x=>x.2.1.toNat)∧xC d n c 0 (l.map fun x=>x.2.1.toNat)≤xC d n c 0 r)∧(∀ {l},iP d n c=some l→zY d n c 0 (l.map fun x=>x.2.1.toNat)):=by
 have e:iP d n c=if(TT d n c 0).2<0 then none else some (gT d n c.2.1 (cZ d n c n) n 0):=by unfold iP;rw[if_neg (by omega)];rfl
 constructor
 ·intro r q;obtain⟨u,v⟩:=Hk hn w hc hm j (.inl rfl) q;obtain⟨z,p⟩:=vb hn w hc hm n 0 (by omega) (by omega) (fun _=>⟨u,.inl rfl⟩);rw[if_pos j]at p;exact⟨_,by rw[e,if_neg (by omega)],z,by rw[p];exact v⟩
 ·intro l hl;rw[e]at hl;by_cases f:(TT d n c 0).2<0
  ·rw[if_pos f]at hl;cases hl
  ·rw[if_neg f]at hl;cases hl;exact(vb hn w hc hm n 0 (by omega) (by omega) (fun _=>⟨by omega,.inl rfl⟩)).1
end
end
end Go.Proofs.YtobbjfkfmdiklaaGreatDoor.T
namespace Go.Tv
open Go
open Go.IntKind (i64)
end Go.Tv
namespace Go.Proofs.YtobbjfkfmdiklaaGreatDoor.T
open Go Go.Tv Go.Proofs
open Go.IntKind (i64)
noncomputable section
section
variable{d:Dt}{n:Nat}{c c':Wy}(h1:c'.1=c.1)(h2:c'.2.1=c.2.1)(hp:∀op e k g last,fZ c' op e k g last=fZ c op e k g last)
include h1 h2 hp
end
theorem IS{cl:Qw}(f:uT cl)(o:QK){c:Wy}(w:vP c){fr n:Nat}(h:fr+n≤cl.length)(a k:Nat)(hk:a+k≤n):0≤dD (aH cl o fr) c.2.1 a k∧dD (aH cl o fr) c.2.1 a k≤1000000:=by
 rw[←nA];have:=f.1;have:=nC f w.1 w.2 (fr+a) k (by omega);omega
theorem IW{cl:Qw}(f:uT cl)(o:QK){c:Wy}(w:vP c){fr n:Nat}(h:fr+n≤cl.length)(a k:Nat)(hk:a+k<n):dD (aH cl o fr) c.2.1 a k≤dD (aH cl o fr) c.2.1 a (k+1):=by
 rw[←nA,←nA];have:=f.1;have:=nC f w.1 w.2 (fr+a) k (by omega);simp only[p7];exact(sa this.1 (by omega) w.1 w.2 (f.2 _).1 (f.2 _).2).2.1
section
variable{d:Dt}{n:Nat}{c:Wy}(hn:n≤4096)(w:xy c)(hc:∀a k,a+k≤n→0≤dD d c.2.1 a k∧dD d c.2.1 a k≤1000000)(hm:∀a k,a+k<n→dD d c.2.1 a k≤dD d c.2.1 a (k+1))
include hn w hc hm
theorem Bs:(cV d n c).2=true↔c.2.2.1=1∧0<n∧∀r,¬zY d n c 0 r:=by
 unfold cV;by_cases f:c.2.2.1=1
 ·rw[if_pos f];by_cases j:n=0
  ·have:iP d n c=some []:=by unfold iP;rw[if_pos j]
   rw[this];exact⟨fun h=>absurd (show false=true from h) (by decide),fun h=>by omega⟩
  ·obtain⟨p,q⟩:=wQ hn w hc hm (by omega);cases hb:iP d n c with
   | none =>
    refine⟨fun _=>⟨f,by omega,fun r u=>?_⟩,fun _=>rfl⟩;obtain⟨l,e,-⟩:=p u;rw[hb]at e;cases e
   | some l=>exact⟨fun h=>absurd (show false=true from h) (by decide),fun h=>absurd (q hb) (h.2.2 _)⟩
 ·rw[if_neg f];exact⟨fun h=>absurd (show false=true from h) (by decide),fun h=>absurd h.1 f⟩
end
end
end Go.Proofs.YtobbjfkfmdiklaaGreatDoor.T
