import Derived.Test.YtobbjfkfmdiklaaGreatDoorTvUm
import Derived.Test.YtobbjfkfmdiklaaGreatDoorTv50um
import Derived.Test.YtobbjfkfmdiklaaGreatDoorTv50gim
namespace Go.Proofs.YtobbjfkfmdiklaaGreatDoor.T
open Go Go.Tv Go.Proofs
open Go.IntKind (i64)
noncomputable section
def CP(d:Dt)(p:Int)(a k:Nat):Int:=dE d p a (gu d a k - a)
theorem IE(d:Dt)(j:Int)(a:Nat):CP d j a a=0:=by
 have:=ka d a a (Nat.le_refl _);unfold CP;rw[show gu d a a - a=0 by omega];rfl
theorem Ec(d:Dt)(p:Int){a k:Nat}(h:a≤k):CP d p a (k+1)=if iy (d k)=true then CP d p a k else dE d p a (k+1 - a):=by
 unfold CP;simp only[gu];by_cases e:iy (d k)=true
 ·rw[if_pos ⟨by omega,e⟩,if_pos e]
 ·rw[if_neg (fun q=>e q.2),if_neg e]
theorem yu(d:Dt)(p:Int)(a b:Nat)(e:Int):jJ d p a b e=CP d p a b+(if e=3 then 1 else 0):=rfl
theorem qs{c:Wy}{op e n g:Int}{last:Bool}(h:(dq c op e n g last).2=true):n≤c.1:=by
 by_cases hn:n > c.1
 ·unfold dq cR at h;rw[if_pos (by simpa using hn)]at h;cases h
 ·omega
section
variable{d:Dt}{n:Nat}{c:Wy}(hc:∀a k,a+k≤n→0≤dE d c.2.1 a k∧dE d c.2.1 a k≤1000000)
include hc
end
def Jy(cl:XZ)(n:Int)(i:Nat):Int:=if i<cl.length then(cl.getD i c0).1 else n
theorem sW.next{n:Int}:∀ {a:Int} {cl:XZ} {i:Nat},sW a cl n→i<cl.length→(cl.getD i c0).1+(cl.getD i c0).2.1=Jy cl n (i+1)
 | a,[],i,_,h=>absurd h (by simp)
 | a,[x],0,h,_=>by
  obtain⟨h1,-,-,-,-,-,h2⟩:=h;simp only[sW]at h2;simp only[Jy,List.getD_cons_zero,List.length_singleton,Nat.zero_add,Nat.lt_irrefl,if_false];omega
 | a,x::y::r,0,h,_=>by
  obtain⟨h1,-,-,-,-,-,h2,-⟩:=h;simp only[Jy,List.getD_cons_zero,List.length_cons,List.getD_cons_succ,Nat.zero_add];rw[if_pos (by omega)];omega
 | a,x::r,i+1,h,hi=>by
  have:=sW.next (i:=i) h.2.2.2.2.2.2 (by simpa using hi);unfold Jy at this ⊢;simp only[List.getD_cons_succ,List.length_cons];rw[this];by_cases e:i+1<r.length
  ·rw[if_pos e,if_pos (by omega)]
  ·rw[if_neg e,if_neg (by omega)]
def DL(cl:XZ)(n:Int)(x:cO):cO:=(Jy cl n x.1.toNat,Jy cl n x.2.1.toNat,x.2.2)
theorem Jh{cl:XZ}{n:Int}(hc:sW 0 cl n)(hcl:cl.length≤4096)(hn:n≤1000000){l:XZ}(hl:l.length≤4096)(u:∀k,k<l.length→0≤(l.getD k c0).1∧(l.getD k c0).1<(l.getD k c0).2.1∧(l.getD k c0).2.1≤(cl.length:Int))(o:QK):
  ll cl o l=some (if l=[]then[(0,0,0,2)]else l.map (DL cl n)):=by
 unfold ll;by_cases j:l=[]
 ·subst j;rfl
 rw[if_neg j,if_neg (by
  have:=List.length_pos_iff.2 j;simp only[beq_iff_eq];omega)]
 have v:iter (il cl l) ((l.take 0).map (DL cl n),((0:Nat):Int))=some (l.map (DL cl n)):=by
  refine iz (fun k=>((l.take k).map (DL cl n),(k:Int))) l.length (fun k hk=>?_) ?_
  ·obtain⟨a0,I,J⟩:=u k hk;have p:(k:Int)<(l.length:Int):=by omega
   have z:0≤(k:Int):=by omega
   have A:i64.wrap ((l.getD k c0).2.1 - 1)=(l.getD k c0).2.1 - 1:=wrap_i64 (by omega) (by omega);have B:0≤(l.getD k c0).2.1 - 1∧(l.getD k c0).2.1 - 1<(cl.length:Int):=by omega
   have C:(l.getD k c0).1<(cl.length:Int):=by omega
   have q:=hc.next (i:=((l.getD k c0).2.1 - 1).toNat) (by omega);rw[show((l.getD k c0).2.1 - 1).toNat+1=(l.getD k c0).2.1.toNat by omega]at q;have L:=hc.NJ.2 ((l.getD k c0).2.1 - 1).toNat (by omega);have D:i64.wrap ((cl.getD ((l.getD k c0).2.1 - 1).toNat c0).1+(cl.getD ((l.getD k c0).2.1 - 1).toNat c0).2.1)=Jy cl n (l.getD k c0).2.1.toNat:=by rw[wrap_i64 (by omega) (by omega),q]
   have E:(cl.getD (l.getD k c0).1.toNat c0).1=Jy cl n (l.getD k c0).1.toNat:=by unfold Jy;rw[if_pos (by omega)]
   have g:∀x:cO,(((l.take k).map (DL cl n)).length+([x]:XZ).length)*32≤140737488355328∧((l.take k).map (DL cl n)).length+([x]:XZ).length≤9223372036854775807:=fun x=>by simp;omega
   simp only[il,p,z,A,B,C,a0,D,E,g,and_self,decide_true,if_true,Int.toNat_natCast,bM (show k≤9000000000000000000 by omega)];rw[qw (d:=c0) hk,List.map_append];rfl
  ·have p:¬((l.length:Int)<(l.length:Int)):=by omega
   simp only[il,p,decide_false,Bool.false_eq_true,if_false,List.take_length]
 exact congrArg (fun x=>Option.bind x fun o=>some o) v
def Lb(j p q u v:Int)(x:QJ):Wy:=(1+j,1+p % 64,q % 2,u,v,x)
def MN(c:Wy):Prop:=ix c.1 c.2.1 c.2.2.1 c.2.2.2.1 c.2.2.2.2.1 c.2.2.2.2.2=some true
theorem K3{c:Wy}(h:(1≤c.1∧c.1≤1048576)∧(1≤c.2.1∧c.2.1≤64)∧c.2.2.1≤1∧(0≤c.2.2.2.1∧c.2.2.2.1≤1048576)∧0≤c.2.2.2.2.1∧c.2.2.2.2.1≤1048576):MN c:=by
 unfold MN ix;rw[if_pos (by rw[decide_eq_true_eq];omega),if_pos (by rw[decide_eq_true_eq];omega),if_pos (by rw[decide_eq_true_eq];omega),if_pos (by rw[decide_eq_true_eq];omega),if_pos (by rw[decide_eq_true_eq];omega),if_pos (by rw[decide_eq_true_eq];omega),if_pos (by rw[decide_eq_true_eq];omega),if_pos (by rw[decide_eq_true_eq];omega)];rw[Option.bind_some,decide_eq_true (by omega)]
theorem yA{p j v q u:Int}(x:QJ)(h1:0≤p∧p≤255)(h2:0≤j∧j≤255)(z:0≤v∧v≤255)(A:0≤q∧q≤65535)(B:0≤u∧u≤65535):
  dN p j v q u x=some (Lb p j v q u x)∧∀m:Int,0≤m→m≤1→∀l:QJ,MN (1+p,1+j % 64,m,q,u,l):=by
 constructor
 ·have C:i64.wrap p=p:=wrap_i64 (by omega) (by omega);have D:i64.wrap (1+p)=1+p:=wrap_i64 (by omega) (by omega);have E:Int.tmod j 64=j % 64:=Int.tmod_eq_emod_of_nonneg h2.1;have I:i64.wrap (j % 64)=j % 64:=wrap_i64 (by omega) (by omega);have J:i64.wrap (1+j % 64)=1+j % 64:=wrap_i64 (by omega) (by omega);have L:Int.tmod v 2=v % 2:=Int.tmod_eq_emod_of_nonneg z.1;have M:i64.wrap q=q:=wrap_i64 (by omega) (by omega);have N:i64.wrap u=u:=wrap_i64 (by omega) (by omega);unfold dN Lb;rw[if_pos (by decide),if_pos (by decide),C,D,E,I,J,L,M,N]
 ·intro m V O l;exact K3 ⟨⟨by simp only;omega,by simp only;omega⟩,⟨by simp only;omega,by simp only;omega⟩,O,⟨A.1,by simp only;omega⟩,B.1,by simp only;omega⟩
theorem Ez{n:Int}{p:XZ×QK}(h:PM n p)(c:Wy):(∀x∈(LF p.1 p.2 c).1,Rg p.1.length x)∧(LF p.1 p.2 c).1.length≤p.1.length:=by
 have hl:=h.Mz.len;have j:Gn p.2 p.1.length 0 (fN p.2 p.2.length):=by rw[sA];exact nz _ _ _ (by omega)
 obtain⟨q,u⟩:=yw c j;exact⟨q,by unfold LF;omega⟩
theorem KU{n:Int}{p:XZ×QK}(h:PM n p)(c:Wy)(k:Nat)(hk:k<(LF p.1 p.2 c).1.length):0≤((LF p.1 p.2 c).1.getD k c0).1∧((LF p.1 p.2 c).1.getD k c0).1<((LF p.1 p.2 c).1.getD k c0).2.1∧((LF p.1 p.2 c).1.getD k c0).2.1≤(p.1.length:Int):=by
 obtain⟨a,b,j,q,u,v⟩:=(Ez h c).1 ((LF p.1 p.2 c).1.getD k c0) (sN hk);omega
def HB(cl:XZ)(n:Int)(l:XZ):XZ:=if l=[]then[(0,0,0,2)]else l.map (DL cl n)
theorem M3{b:Option Z1}(hb:RB b){x:QK}(h1:Bytes x)(h2:x.length≤4096):∃p,ba b x=some (p,0)∧PM (x.length:Int) p∧∀c:Wy,MN c →
  fH p.1 p.2 c.1 c.2.1 c.2.2.1 c.2.2.2.1 c.2.2.2.2.1 c.2.2.2.2.2=some (LF p.1 p.2 c)∧cf b x c.1 c.2.1 c.2.2.1 c.2.2.2.1 c.2.2.2.2.1 c.2.2.2.2.2=some ((HB p.1 (x.length:Int) (LF p.1 p.2 c).1,(LF p.1 p.2 c).2),0):=by
 obtain⟨p,hp,j⟩:=hb.para x h1 h2;refine⟨p,hp,j,fun c hc=>?_⟩;have q:=j.NT (by omega);have e:=xH q j.Mz j.zero (so hc);have u:fH p.1 p.2 c.1 c.2.1 c.2.2.1 c.2.2.2.1 c.2.2.2.2.1 c.2.2.2.2.2=some (LF p.1 p.2 c):=e;refine⟨u,?_⟩;have hl:=q.1;have v:=Jh j.Lj hl (by omega) (l:=(LF p.1 p.2 c).1) (by have:=(Ez j c).2;omega) (KU j c) p.2;unfold cf;rw[hc,Option.bind_some,if_neg (by decide),hp,Option.bind_some];simp only[bne_self_eq_false,Bool.false_eq_true,if_false,u,Option.bind_some,v];rfl
def Cb(c:Wy):Prop:=0≤c.2.2.2.1∧c.2.2.2.1≤1048576∧0≤c.2.2.2.2.1∧c.2.2.2.2.1≤1048576
theorem Fv{c:Wy}(w:Cb c)(op e n g:Int)(last:Bool):0≤(dq c op e n g last).1∧(dq c op e n g last).1≤1000000000:=by
 obtain⟨M,N,O,V⟩:=w;have tail:∀j:Int,0≤j→j≤10000→∃v:Int,(((if(e == (3:Int))=true then(if 0≤(0:Int)∧(0:Int)<(([op]:QK).length:Int)then(if((([op]:QK).getD (0:Int).toNat (0:Int)) == (3:Int))=true then some ((i64.wrap ((i64.wrap ((i64.wrap ((i64.wrap ((10:Int)+j))*(i64.wrap ((10:Int)+j))))+c.2.2.2.1))+c.2.2.2.2.1)))
    else some ((i64.wrap ((i64.wrap ((i64.wrap ((10:Int)+j))*(i64.wrap ((10:Int)+j))))+c.2.2.2.1))))else none)
    else some ((i64.wrap ((i64.wrap ((10:Int)+j))*(i64.wrap ((10:Int)+j))))))).bind fun p=>some (p,true))=some (v,true)∧0≤v∧v≤1000000000:=fun j x z=>by
  have C:i64.wrap ((10:Int)+j)=10+j:=wrap_i64 (by omega) (by omega);have D:0≤(10+j)*(10+j):=Int.mul_nonneg (by omega) (by omega);have E:(10+j)*(10+j)≤10010*10010:=Int.mul_le_mul (by omega) (by omega) (by omega) (by omega);rw[C];generalize (10+j)*(10+j)=q at D E;have I:i64.wrap q=q:=wrap_i64 (by omega) (by omega);have J:i64.wrap (q+c.2.2.2.1)=q+c.2.2.2.1:=wrap_i64 (by omega) (by omega);have L:i64.wrap (q+c.2.2.2.1+c.2.2.2.2.1)=q+c.2.2.2.1+c.2.2.2.2.1:=wrap_i64 (by omega) (by omega);rw[I,J,L];by_cases A:(e == 3)=true
  ·rw[if_pos A,if_pos (by simp)];split
   ·exact⟨_,rfl,by omega,by omega⟩
   ·exact⟨_,rfl,by omega,by omega⟩
  ·rw[if_neg A];exact⟨_,rfl,by omega,by omega⟩
 unfold dq cR;by_cases hn:n > c.1
 ·rw[if_pos (by simpa using hn)];exact⟨Int.le_refl (0:Int),(by decide:(0:Int)≤1000000000)⟩
 ·rw[if_neg (by simpa using hn)];cases last with
  | true =>
   obtain⟨v,u,v0,v1⟩:=tail 0 (by omega) (by omega);simp only[Bool.not_true,Bool.false_eq_true,if_false,Option.bind_some];rw[u];exact⟨v0,v1⟩
  | false =>
   obtain⟨b,hb,x,z⟩:=qo (bN .quo (ofInt (i64.wrap (c.1 - n))) (ofInt g));simp only[Bool.not_false,if_true,lQ,gB,Option.bind_some];by_cases B:(!(!(xP (bN .quo (ofInt (i64.wrap (c.1 - n))) (ofInt g)) c.2.2.2.2.2)))=true
   ·rw[if_pos B];exact⟨Int.le_refl (0:Int),(by decide:(0:Int)≤1000000000)⟩
   ·rw[if_neg B,hb];obtain⟨v,u,v0,v1⟩:=tail b x z;simp only[Option.bind_some];rw[u];exact⟨v0,v1⟩
def Gq(d:Dt)(a:Nat):Nat→Nat
 | 0=>0
 | k+1=>if(d (a+k)).2.1=1 then Gq d a k+1 else Gq d a k
theorem C4(d:Dt)(a:Nat):∀k,Gq d a k≤k
 | 0=>Nat.le_refl _
 | k+1=>by
  have:=C4 d a k;simp only[Gq];split <;> omega
def IL(d:Dt)(a k:Nat):Int:=(Gq d a (gu d a k - a):Int)
theorem GW(d:Dt)(a:Nat):IL d a a=0:=by
 have:=ka d a a (Nat.le_refl _);unfold IL;rw[show gu d a a - a=0 by omega];rfl
theorem IM(d:Dt){a k:Nat}(h:a≤k):IL d a (k+1)=if iy (d k)=true then IL d a k else(Gq d a (k+1 - a):Int):=by
 unfold IL;simp only[gu];by_cases e:iy (d k)=true
 ·rw[if_pos ⟨by omega,e⟩,if_pos e]
 ·rw[if_neg (fun q=>e q.2),if_neg e]
def uR(d:Dt)(n:Nat)(c:Wy)(a b:Nat):Int×Bool:=if lU d b=0 then(0,false)else dq c (lU d a) (lU d b) (jJ d c.2.1 a b (lU d b)) (IL d a b) (b == n)
theorem Gt(d:Dt)(n:Nat){c:Wy}(w:Cb c)(a b:Nat):0≤(uR d n c a b).1∧(uR d n c a b).1≤1000000000:=by
 unfold uR;split
 ·exact⟨Int.le_refl (0:Int),(by decide:(0:Int)≤1000000000)⟩
 ·exact Fv w _ _ _ _ _
theorem sO{d:Dt}{n:Nat}{c:Wy}{a b:Nat}(h:(uR d n c a b).2=true):lU d b≠0∧jJ d c.2.1 a b (lU d b)≤c.1:=by
 unfold uR at h;by_cases e:lU d b=0
 ·rw[if_pos e]at h;cases h
 ·rw[if_neg e]at h;exact⟨e,qs h⟩
def CR(d:Dt)(n:Nat)(c:Wy):Nat→QV→Prop
 | a,[]=>a=n
 | a,b::r=>a<b∧b≤n∧(uR d n c a b).2=true∧CR d n c b r
def Cp(d:Dt)(n:Nat)(c:Wy):Nat→QV→Int
 | _,[]=>0
 | a,b::r=>(uR d n c a b).1+Cp d n c b r
theorem CR.le{d:Dt}{n:Nat}{c:Wy}:∀ {r:QV} {a:Nat},CR d n c a r→a+r.length≤n
 | [],a,h=>by simp only[CR]at h;simp;omega
 | b::r,a,h=>by
  have:=CR.le h.2.2.2;have:=h.1;simp only[List.length_cons];omega
theorem CR.mono{d:Dt}{n:Nat}{c c':Wy}(h:∀a b,(uR d n c a b).2=true→(uR d n c' a b).2=true):∀ {r:QV} {a:Nat},CR d n c a r→CR d n c' a r
 | [],_,q=>q
 | _::_,_,q=>⟨q.1,q.2.1,h _ _ q.2.2.1,CR.mono h q.2.2.2⟩
def FW(d:Dt)(n:Nat)(c:Wy)(all:Nat→Int×Int)(a b:Nat):Prop:=(uR d n c a b).2=true∧(b<n→0≤(all b).2)
def AV(d:Dt)(n:Nat)(c:Wy)(all:Nat→Int×Int)(a b:Nat):Int:=(uR d n c a b).1+(all b).1
def EB(d:Dt)(n:Nat)(c:Wy)(all:Nat→Int×Int)(a k:Nat)(v:Int×Int):Prop :=
 (v.2 = -1∧∀b,a<b→b≤k→¬FW d n c all a b) ∨
 ∃t:Nat,v.2=(t:Int)∧a<t∧t≤k∧FW d n c all a t∧v.1=AV d n c all a t∧∀b,a<b→b≤k→FW d n c all a b→v.1≤AV d n c all a b
section
variable{d:Dt}{n:Nat}{c:Wy}(hn:n≤4096)(w:Cb c)(hc:∀a k,a+k≤n→0≤dE d c.2.1 a k∧dE d c.2.1 a k≤1000000)(hm:∀a k,a+k<n→dE d c.2.1 a k≤dE d c.2.1 a (k+1))
include hm in
theorem yL(a:Nat):∀ {j i:Nat},i≤j→a+j≤n→dE d c.2.1 a i≤dE d c.2.1 a j
 | 0,i,h,_=>by
  obtain rfl:i=0:=by omega
  exact Int.le_refl _
 | j+1,i,h,p=>by
  by_cases e:i=j+1
  ·rw[e];exact Int.le_refl _
  ·exact Int.le_trans (yL a (j:=j) (by omega) (by omega)) (hm a j (by omega))
include hm in
theorem Cq(a:Nat):∀ {j i:Nat},a≤i→i≤j→j≤n→CP d c.2.1 a i≤CP d c.2.1 a j
 | 0,i,_,h,_=>by
  obtain rfl:i=0:=by omega
  exact Int.le_refl _
 | j+1,i,p,h,q=>by
  by_cases e:i=j+1
  ·rw[e];exact Int.le_refl _
  ·refine Int.le_trans (Cq a (j:=j) p (by omega) (by omega)) ?_;rw[Ec d c.2.1 (by omega)];split
   ·exact Int.le_refl _
   ·have:=ka d a j (by omega);exact yL hm a (by omega) (by omega)
include hn w hc hm
theorem y5(all:Nat→Int×Int)(a:Nat)(D:∀k,a<k→k≤n→0≤(all k).1∧(all k).1≤5000000000000):∀m k p B full sp M,a≤k→k+m=n→full=CP d c.2.1 a k→sp=(Gq d a (k - a):Int)→M=IL d a k→EB d n c all a k (p,B) →
  EB d n c all a n (dI d n c all a m k p B full sp M)
 | 0,k,p,B,full,sp,M,_,h1,_,_,_,h=>by
  obtain rfl:k=n:=by omega
  exact h
 | m+1,k,p,B,full,sp,M,Y,h1,hf,hs,hg,h=>by
  simp only[dI];have a1:=C4 d a (k - a);have es:(if(d k).2.1=1 then i64.wrap (sp+1)else sp)=(Gq d a (k+1 - a):Int):=by
   rw[show k+1 - a=(k - a)+1 by omega];simp only[Gq];rw[show a+(k - a)=k by omega,hs];split
   ·rw[wrap_i64 (by omega) (by omega)];omega
   ·rfl
  rw[es];have e1:(if iy (d k)=true then(full,M)else(dE d c.2.1 a (k+1 - a),(Gq d a (k+1 - a):Int)))=(CP d c.2.1 a (k+1),IL d a (k+1)):=by rw[Ec d c.2.1 Y,IM d Y,hf,hg];split <;> rfl
  rw[e1];simp only;have eo:lU d (k+1)=(d k).2.2:=rfl;have skip:¬FW d n c all a (k+1)→EB d n c all a (k+1) (p,B):=fun A=>by
   rcases h with⟨u,v⟩ | ⟨t,u,v,O,J,L,E⟩
   ·refine .inl ⟨u,fun b x C hb=>?_⟩;by_cases e:b=k+1
    ·rw[e]at hb;exact A hb
    ·exact v b x (by omega) hb
   ·refine .inr ⟨t,u,v,by omega,J,L,fun b x C hb=>?_⟩;by_cases e:b=k+1
    ·rw[e]at hb;exact absurd hb A
    ·exact E b x (by omega) hb
  have N:=fun I V=>y5 all a D m (k+1) I V (CP d c.2.1 a (k+1)) (Gq d a (k+1 - a)) (IL d a (k+1)) (by omega) (by omega) rfl rfl rfl
  by_cases Z:CP d c.2.1 a (k+1) > c.1
  ·rw[if_pos Z];have A:∀b,k<b→b≤n→¬FW d n c all a b:=fun b x C hb=>by have h2:=(sO hb.1).2;rw[yu]at h2;have:=Cq hm a (i:=k+1) (j:=b) (by omega) (by omega) C;split at h2 <;> omega
   rcases h with⟨u,v⟩ | ⟨t,u,v,O,J,L,E⟩
   ·refine .inl ⟨u,fun b x C hb=>?_⟩;by_cases e:b≤k
    ·exact v b x e hb
    ·exact A b (by omega) C hb
   ·refine .inr ⟨t,u,v,by omega,J,L,fun b x C hb=>?_⟩;by_cases e:b≤k
    ·exact E b x e hb
    ·exact absurd hb (A b (by omega) C)
  ·rw[if_neg Z];by_cases hk:(d k).2.2=0∨(k+1<n∧(all (k+1)).2<0)
   ·rw[if_pos hk];refine N p B (skip fun hb=>?_);rcases hk with q | ⟨q,q'⟩
    ·exact(sO hb.1).1 q
    ·have:=hb.2 q;omega
   ·rw[if_neg hk];have hb:=hc a (gu d a (k+1) - a) (by have:=ka d a (k+1) (by omega);omega);have a2:0≤CP d c.2.1 a (k+1)∧CP d c.2.1 a (k+1)≤1000000:=hb;have ep:dq c (lU d a) (d k).2.2 (if(d k).2.2=3 then i64.wrap (CP d c.2.1 a (k+1)+1)else CP d c.2.1 a (k+1)) (IL d a (k+1)) (k+1 == n)=uR d n c a (k+1):=by
     unfold uR;rw[eo,if_neg (fun q=>hk (.inl q)),yu];congr 1;split
     ·rw[wrap_i64 (by omega) (by omega)]
     ·omega
    rw[ep];have hp:=Gt d n w a (k+1);have ha:=D (k+1) (by omega) (by omega);have ew:i64.wrap ((uR d n c a (k+1)).1+(all (k+1)).1)=AV d n c all a (k+1):=wrap_i64 (by omega) (by omega);rw[ew];have X:k+1<n→0≤(all (k+1)).2:=fun q=>by
     have:¬(all (k+1)).2<0:=fun hh=>hk (.inr ⟨q,hh⟩)
     omega
    by_cases z:(uR d n c a (k+1)).2=true∧(B<0∨AV d n c all a (k+1)<p)
    ·rw[if_pos z];refine N _ _ (.inr ⟨k+1,rfl,by omega,Nat.le_refl _,⟨z.1,X⟩,rfl,fun b x C hb=>?_⟩);by_cases e:b=k+1
     ·rw[e];exact Int.le_refl _
     ·rcases h with⟨u,v⟩ | ⟨t,u,v,O,J,L,E⟩
      ·exact absurd hb (v b x (by omega))
      ·have:=E b x (by omega) hb;simp only at this u ⊢;rcases z.2 with q | q <;> omega
    ·rw[if_neg z];by_cases h2:(uR d n c a (k+1)).2=true
     ·refine N p B ?_;rcases h with⟨u,v⟩ | ⟨t,u,v,O,J,L,E⟩
      ·simp only at u;exact absurd ⟨h2,.inl (by omega)⟩ z
      ·refine .inr ⟨t,u,v,by omega,J,L,fun b x C hb=>?_⟩;by_cases e:b=k+1
       ·rw[e];simp only;rcases Int.lt_or_le (AV d n c all a (k+1)) p with q | q
        ·exact absurd ⟨h2,.inr q⟩ z
        ·exact q
       ·exact E b x (by omega) hb
     ·exact N p B (skip fun hb=>h2 hb.1)
omit hn w hc hm in
theorem rN:∀i j,i+j≤n→∀k,k≤j→(cK d n c j).getD k (0,0)=(cK d n c (i+j)).getD (i+k) (0,0)
 | 0,j,_,k,_=>by rw[Nat.zero_add,Nat.zero_add]
 | i+1,j,h,k,hk=>by
  rw[rN i j (by omega) k hk,show i+1+j=(i+j)+1 by omega,show i+1+k=(i+k)+1 by omega];simp only[cK,List.getD_cons_succ]
variable(d n c) in
def TT(k:Nat):Int×Int:=(cK d n c n).getD k (0,0)
omit hn w hc hm in
theorem KS:TT d n c n=(0,0):=by
 have:=rN (d:=d) (n:=n) (c:=c) n 0 (by omega) 0 (by omega);rw[Nat.add_zero]at this;exact this.symm
omit hn w hc hm in
theorem LX{a:Nat}(ha:a<n):TT d n c a=if a=0∨lU d a≠0 then dI d n c (TT d n c) a (n - a) a 0 (-1) 0 0 0 else(0,-1):=by
 have h:=rN (d:=d) (n:=n) (c:=c) a (n - a) (by omega) 0 (by omega);rw[show a+(n - a)=n by omega,Nat.add_zero]at h;unfold TT;rw[←h];obtain⟨j,p⟩:∃j,n - a=j+1:=⟨n - a - 1,by omega⟩;rw[p];simp only[cK,List.getD_cons_zero];unfold sC;rw[show n - (j+1)=a by omega,p];split
 ·refine mf (fun _ _=>rfl) c _ _ a (by omega) (fun k q u=>?_) _ _ _ _ _ _ _ (Nat.le_refl _) (by omega);have:=rN (d:=d) (n:=n) (c:=c) (a+1) j (by omega) (k - a - 1) (by omega);rw[show a+1+j=n by omega,show a+1+(k - a - 1)=k by omega]at this;exact this
 ·rfl
theorem qV:∀m a,n - a≤m→a<n→(0≤(TT d n c a).1∧(TT d n c a).1≤((n:Int) - (a:Int))*1000000000)∧((a=0∨lU d a≠0)→EB d n c (TT d n c) a n (TT d n c a))
 | 0,a,h,ha=>by omega
 | m+1,a,h,ha=>by
  have v:∀k,a<k→k≤n→0≤(TT d n c k).1∧(TT d n c k).1≤((n:Int) - (k:Int))*1000000000:=fun k B C=>by
   by_cases e:k=n
   ·rw[e,KS];simp only;omega
   ·exact(qV m k (by omega) (by omega)).1
  rw[LX ha];by_cases hb:a=0∨lU d a≠0
  ·rw[if_pos hb];have:=y5 hn w hc hm (TT d n c) a (fun k B C=>by have:=v k B C;omega) (n - a) a 0 (-1) 0 0 0 (Nat.le_refl _) (by omega) (IE d c.2.1 a).symm (by rw[Nat.sub_self];rfl) (GW d a).symm (.inl ⟨rfl,fun b N O=>by omega⟩);refine⟨?_,fun _=>this⟩;have hin:=oG d n c (TT d n c) a (n - a) a 0 (-1) 0 0 0 (Nat.le_refl _) (by omega) (.inl rfl);rcases this with⟨D,E⟩ | ⟨t,D,E,I,V,J,X⟩
   ·-- nothing z found: L j Y as Z z
    have hz:∀m k full sp u,(dI d n c (TT d n c) a m k 0 (-1) full sp u).2 = -1→(dI d n c (TT d n c) a m k 0 (-1) full sp u).1=0:=by
     have key:∀m k j x full sp u,(0≤x→0≤(dI d n c (TT d n c) a m k j x full sp u).2)∧((dI d n c (TT d n c) a m k j x full sp u).2 = -1→(dI d n c (TT d n c) a m k j x full sp u).1=j):=fun m=>by
      induction m with
      | zero=>intro k j x full sp u;exact⟨id,fun _=>rfl⟩
      | succ m A =>
       intro k j x full sp u;simp only[dI];generalize (if iy (d k)=true then(full,u)else(dE d c.2.1 a (k+1 - a),(if(d k).2.1=1 then i64.wrap (sp+1)else sp)))=f;generalize dq c (lU d a) (d k).2.2 (if(d k).2.2=3 then i64.wrap (f.1+1)else f.1) f.2 (k+1 == n)=p;split
       ·exact⟨id,fun _=>rfl⟩
       ·split
        ·exact A _ _ _ _ _ _
        ·split
         ·have:=A (k+1) (i64.wrap (p.1+(TT d n c (k+1)).1)) ((k+1:Nat):Int) f.1 (if(d k).2.1=1 then i64.wrap (sp+1)else sp) f.2;have M:=this.1 (by omega);exact⟨fun _=>M,fun q=>by omega⟩
         ·exact A _ _ _ _ _ _
     exact fun m k full sp u=>(key m k 0 (-1) full sp u).2
    rw[hz _ _ _ _ _ D];omega
   ·rw[J];unfold AV;have hp:=Gt d n w a t;have:=v t E I;omega
  ·rw[if_neg hb];exact⟨by simp only;omega,fun q=>absurd q hb⟩
theorem Ic:∀ {r:QV} {a:Nat},a<n→(a=0∨lU d a≠0)→CR d n c a r→0≤(TT d n c a).2∧(TT d n c a).1≤Cp d n c a r
 | [],a,ha,_,h=>by simp only[CR]at h;omega
 | b::r,a,ha,x,h=>by
  obtain⟨h1,h2,j,p⟩:=h;have hB:=(qV hn w hc hm (n - a) a (Nat.le_refl _) ha).2 x;have u:FW d n c (TT d n c) a b∧(TT d n c b).1≤Cp d n c b r:=by
   by_cases e:b<n
   ·have:=Ic e (.inr (sO j).1) p;exact⟨⟨j,fun _=>this.1⟩,this.2⟩
   ·obtain rfl:b=n:=by omega
    refine⟨⟨j,fun q=>absurd q e⟩,?_⟩;have:=p.le;obtain rfl:r=[]:=List.length_eq_zero_iff.1 (by omega);rw[KS];exact Int.le_refl _
  simp only[Cp];rcases hB with⟨z,v⟩ | ⟨t,z,v,B,C,D,A⟩
  ·exact absurd u.1 (v b h1 h2)
  ·have:=A b h1 h2 u.1;unfold AV at this;omega
theorem vZ:∀m a,a≤n→n≤a+m→(a<n→0≤(TT d n c a).2∧(a=0∨lU d a≠0)) →
  CR d n c a ((hH d n c.2.1 (cK d n c n) m a).map fun x=>x.2.1.toNat)∧Cp d n c a ((hH d n c.2.1 (cK d n c n) m a).map fun x=>x.2.1.toNat)=if a<n then(TT d n c a).1 else 0
 | 0,a,h,h1,_=>by
  obtain rfl:a=n:=by omega
  exact⟨rfl,by rw[if_neg (by omega)];rfl⟩
 | m+1,a,h,h1,h2=>by
  simp only[hH];by_cases ha:a<n
  ·obtain⟨E,z⟩:=h2 ha;rw[if_pos ha,if_pos ha];rcases(qV hn w hc hm (n - a) a (Nat.le_refl _) ha).2 z with⟨q,u⟩ | ⟨t,q,u,v,j,A,I⟩
   ·omega
   ·have B:((cK d n c n).getD a (0,0)).2=(t:Int):=q;rw[B,Int.toNat_natCast];obtain⟨C,D⟩:=vZ m t v (by omega) (fun p=>⟨j.2 p,.inr (sO j.1).1⟩);simp only[List.map_cons];have em:(I4 d c.2.1 a t (lU d t)).2.1.toNat=t:=Int.toNat_natCast t;rw[em];refine⟨⟨u,v,j.1,C⟩,?_⟩;simp only[Cp];rw[D,A];unfold AV;by_cases e:t<n
    ·rw[if_pos e]
    ·obtain rfl:t=n:=by omega
     rw[if_neg e,KS]
  ·obtain rfl:a=n:=by omega
   rw[if_neg ha,if_neg ha];exact⟨rfl,rfl⟩
theorem DN(p:0<n):(∀ {r},CR d n c 0 r→∃l,iE d n c=some l∧CR d n c 0 (l.map fun x=>x.2.1.toNat)∧Cp d n c 0 (l.map fun x=>x.2.1.toNat)≤Cp d n c 0 r)∧(∀ {l},iE d n c=some l→CR d n c 0 (l.map fun x=>x.2.1.toNat)):=by
 have e:iE d n c=if(TT d n c 0).2<0 then none else some (hH d n c.2.1 (cK d n c n) n 0):=by unfold iE;rw[if_neg (by omega)];rfl
 constructor
 ·intro r u;obtain⟨v,z⟩:=Ic hn w hc hm p (.inl rfl) u;obtain⟨A,q⟩:=vZ hn w hc hm n 0 (by omega) (by omega) (fun _=>⟨v,.inl rfl⟩);rw[if_pos p]at q;exact⟨_,by rw[e,if_neg (by omega)],A,by rw[q];exact z⟩
 ·intro l hl;rw[e]at hl;by_cases j:(TT d n c 0).2<0
  ·rw[if_pos j]at hl;cases hl
  ·rw[if_neg j]at hl;cases hl;exact(vZ hn w hc hm n 0 (by omega) (by omega) (fun _=>⟨by omega,.inl rfl⟩)).1
end
end
end Go.Proofs.YtobbjfkfmdiklaaGreatDoor.T
