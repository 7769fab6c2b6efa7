import Derived.Test.YtobbjfkfmdiklaaGreatDoorTvUm
import Derived.Test.YtobbjfkfmdiklaaGreatDoorTv50um
import Derived.Test.YtobbjfkfmdiklaaGreatDoorTvT50aTopLeastm
namespace Go.Proofs.YtobbjfkfmdiklaaGreatDoor.T
open Go Go.Tv Go.Proofs
open Go.IntKind (i64)
noncomputable section
section
variable{d:Dt}{n:Nat}{c:Wy}(hc:∀a k,a+k≤n→0≤fh d c.2.1 a k∧fh d c.2.1 a k≤1000000)
include hc
end
def rD(f:Qk)(n:Int)(i:Nat):Int:=if i<f.length then(f.getD i c0).1 else n
theorem pK.next{n:Int}:∀ {a:Int} {f:Qk} {i:Nat},pK a f n→i<f.length→(f.getD i c0).1+(f.getD i c0).2.1=rD f n (i+1)
 | a,[],i,_,h=>absurd h (by simp)
 | a,[x],0,h,_=>by
  obtain⟨h1,-,-,-,-,-,h2⟩:=h;simp only[pK]at h2;simp only[rD,List.getD_cons_zero,List.length_singleton,Nat.zero_add,Nat.lt_irrefl,if_false];omega
 | a,x::y::r,0,h,_=>by
  obtain⟨h1,-,-,-,-,-,h2,-⟩:=h;simp only[rD,List.getD_cons_zero,List.length_cons,List.getD_cons_succ,Nat.zero_add];rw[if_pos (by omega)];omega
 | a,x::r,i+1,h,hi=>by
  have:=pK.next (i:=i) h.2.2.2.2.2.2 (by simpa using hi);unfold rD at this ⊢;simp only[List.getD_cons_succ,List.length_cons];rw[this];by_cases e:i+1<r.length
  ·rw[if_pos e,if_pos (by omega)]
  ·rw[if_neg e,if_neg (by omega)]
theorem pK.KF{n:Int}{f:Qk}(h:pK 0 f n):∀ {i:Nat},i≤f.length→∀ {j:Nat},j<i→rD f n j<rD f n i:=fun {i} hi=>by
 induction i with
 | zero=>intro j u;omega
 | succ i v =>
  intro j u;have e:=h.next (i:=i) (by omega);have p:=(h.L7.2 i (by omega)).2.1;have x:rD f n i=(f.getD i c0).1:=by unfold rD;rw[if_pos (by omega)]
  by_cases q:j=i
  ·rw[q];omega
  ·have:=v (by omega) (j:=j) (by omega);omega
def qx(f:Qk)(n:Int)(x:bV):bV:=(rD f n x.1.toNat,rD f n x.2.1.toNat,x.2.2)
theorem HJ{f:Qk}{n:Int}(hc:pK 0 f n)(u:f.length≤4096)(hn:n≤1000000){l:Qk}(hl:l.length≤4096)(v:∀k,k<l.length→0≤(l.getD k c0).1∧(l.getD k c0).1<(l.getD k c0).2.1∧(l.getD k c0).2.1≤(f.length:Int))(o:QK):
  lg f o l=some (if l=[]then[(0,0,0,2)]else l.map (qx f n)):=by
 unfold lg;by_cases j:l=[]
 ·subst j;rfl
 rw[if_neg j,if_neg (by
  have:=List.length_pos_iff.2 j;simp only[beq_iff_eq];omega)]
 have z:iter (hI f l) ((l.take 0).map (qx f n),((0:Nat):Int))=some (l.map (qx f n)):=by
  refine ib (fun k=>((l.take k).map (qx f n),(k:Int))) l.length (fun k hk=>?_) ?_
  ·obtain⟨a0,J,L⟩:=v k hk;have p:(k:Int)<(l.length:Int):=by omega
   have A:0≤(k:Int):=by omega
   have B:i64.wrap ((l.getD k c0).2.1 - 1)=(l.getD k c0).2.1 - 1:=wrap_i64 (by omega) (by omega);have C:0≤(l.getD k c0).2.1 - 1∧(l.getD k c0).2.1 - 1<(f.length:Int):=by omega
   have D:(l.getD k c0).1<(f.length:Int):=by omega
   have q:=hc.next (i:=((l.getD k c0).2.1 - 1).toNat) (by omega);rw[show((l.getD k c0).2.1 - 1).toNat+1=(l.getD k c0).2.1.toNat by omega]at q;have M:=hc.L7.2 ((l.getD k c0).2.1 - 1).toNat (by omega);have E:i64.wrap ((f.getD ((l.getD k c0).2.1 - 1).toNat c0).1+(f.getD ((l.getD k c0).2.1 - 1).toNat c0).2.1)=rD f n (l.getD k c0).2.1.toNat:=by rw[wrap_i64 (by omega) (by omega),q]
   have I:(f.getD (l.getD k c0).1.toNat c0).1=rD f n (l.getD k c0).1.toNat:=by unfold rD;rw[if_pos (by omega)]
   have g:∀x:bV,(((l.take k).map (qx f n)).length+([x]:Qk).length)*32≤140737488355328∧((l.take k).map (qx f n)).length+([x]:Qk).length≤9223372036854775807:=fun x=>by simp;omega
   simp only[hI,p,A,B,C,D,a0,E,I,g,and_self,decide_true,if_true,Int.toNat_natCast,bF (show k≤9000000000000000000 by omega)];rw[qy (d:=c0) hk,List.map_append];rfl
  ·have p:¬((l.length:Int)<(l.length:Int)):=by omega
   simp only[hI,p,decide_false,Bool.false_eq_true,if_false,List.take_length]
 exact congrArg (fun x=>Option.bind x fun o=>some o) z
def JM(f j p q u:Int)(v:QJ):Wy:=(1+f,1+j % 64,p % 2,q,u,v)
def Lz(c:Wy):Prop:=ig c.1 c.2.1 c.2.2.1 c.2.2.2.1 c.2.2.2.2.1 c.2.2.2.2.2=some true
theorem JL{c:Wy}(h:(1≤c.1∧c.1≤1048576)∧(1≤c.2.1∧c.2.1≤64)∧c.2.2.1≤1∧(0≤c.2.2.2.1∧c.2.2.2.1≤1048576)∧0≤c.2.2.2.2.1∧c.2.2.2.2.1≤1048576):Lz c:=by
 unfold Lz ig;rw[if_pos (by rw[decide_eq_true_eq];omega),if_pos (by rw[decide_eq_true_eq];omega),if_pos (by rw[decide_eq_true_eq];omega),if_pos (by rw[decide_eq_true_eq];omega),if_pos (by rw[decide_eq_true_eq];omega),if_pos (by rw[decide_eq_true_eq];omega),if_pos (by rw[decide_eq_true_eq];omega),if_pos (by rw[decide_eq_true_eq];omega)];rw[Option.bind_some,decide_eq_true (by omega)]
theorem EY{j f u p q:Int}(v:QJ)(h1:0≤j∧j≤255)(h2:0≤f∧f≤255)(x:0≤u∧u≤255)(z:0≤p∧p≤65535)(A:0≤q∧q≤65535):
  dH j f u p q v=some (JM j f u p q v)∧∀m:Int,0≤m→m≤1→∀l:QJ,Lz (1+j,1+f % 64,m,p,q,l):=by
 constructor
 ·have B:i64.wrap j=j:=wrap_i64 (by omega) (by omega);have C:i64.wrap (1+j)=1+j:=wrap_i64 (by omega) (by omega);have D:Int.tmod f 64=f % 64:=Int.tmod_eq_emod_of_nonneg h2.1;have E:i64.wrap (f % 64)=f % 64:=wrap_i64 (by omega) (by omega);have I:i64.wrap (1+f % 64)=1+f % 64:=wrap_i64 (by omega) (by omega);have J:Int.tmod u 2=u % 2:=Int.tmod_eq_emod_of_nonneg x.1;have L:i64.wrap p=p:=wrap_i64 (by omega) (by omega);have M:i64.wrap q=q:=wrap_i64 (by omega) (by omega);unfold dH JM;rw[if_pos (by decide),if_pos (by decide),B,C,D,E,I,J,L,M]
 ·intro m O N l;exact JL ⟨⟨by simp only;omega,by simp only;omega⟩,⟨by simp only;omega,by simp only;omega⟩,N,⟨z.1,by simp only;omega⟩,A.1,by simp only;omega⟩
theorem FB{n:Int}{p:Qk×QK}(h:PM n p)(c:Wy):(∀x∈(LF p.1 p.2 c).1,Rg p.1.length x)∧(LF p.1 p.2 c).1.length≤p.1.length:=by
 have hl:=h.Ji.len;have f:F7 p.2 p.1.length 0 (eT p.2 p.2.length):=by rw[sa];exact nc _ _ _ (by omega)
 obtain⟨j,q⟩:=yi c f;exact⟨j,by unfold LF;omega⟩
theorem Fs{n:Int}{p:Qk×QK}(h:PM n p)(c:Wy)(k:Nat)(hk:k<(LF p.1 p.2 c).1.length):0≤((LF p.1 p.2 c).1.getD k c0).1∧((LF p.1 p.2 c).1.getD k c0).1<((LF p.1 p.2 c).1.getD k c0).2.1∧((LF p.1 p.2 c).1.getD k c0).2.1≤(p.1.length:Int):=by
 obtain⟨a,b,f,j,q,u⟩:=(FB h c).1 ((LF p.1 p.2 c).1.getD k c0) (yv hk);omega
def xV(f:Qk)(n:Int)(l:Qk):Qk:=if l=[]then[(0,0,0,2)]else l.map (qx f n)
theorem L3{b:Option Z1}(hb:RB b){x:QK}(h1:Bytes x)(h2:x.length≤4096):∃p,ba b x=some (p,0)∧PM (x.length:Int) p∧∀c:Wy,Lz c →
  fB p.1 p.2 c.1 c.2.1 c.2.2.1 c.2.2.2.1 c.2.2.2.2.1 c.2.2.2.2.2=some (LF p.1 p.2 c)∧dp b x c.1 c.2.1 c.2.2.1 c.2.2.2.1 c.2.2.2.2.1 c.2.2.2.2.2=some ((xV p.1 (x.length:Int) (LF p.1 p.2 c).1,(LF p.1 p.2 c).2),0):=by
 obtain⟨p,hp,f⟩:=hb.para x h1 h2;refine⟨p,hp,f,fun c hc=>?_⟩;have j:=f.MA (by omega);have e:=w7 j f.Ji f.zero (uT hc);have q:fB p.1 p.2 c.1 c.2.1 c.2.2.1 c.2.2.2.1 c.2.2.2.2.1 c.2.2.2.2.2=some (LF p.1 p.2 c):=e;refine⟨q,?_⟩;have hl:=j.1;have u:=HJ f.Jj hl (by omega) (l:=(LF p.1 p.2 c).1) (by have:=(FB f c).2;omega) (Fs f c) p.2;unfold dp;rw[hc,Option.bind_some,if_neg (by decide),hp,Option.bind_some];simp only[bne_self_eq_false,Bool.false_eq_true,if_false,q,Option.bind_some,u];rfl
theorem Ih{f:Qk}{n:Int}:rD f n f.length=n:=by unfold rD;rw[if_neg (by omega)]
theorem GW{f:Qk}{n:Int}(h:pK 0 f n):rD f n 0=0:=by
 unfold rD;cases f with
 | nil=>simp only[pK]at h;simp[h.symm]
 | cons x r=>simp[h.1]
def Bi(c:Wy):Prop:=0≤c.2.2.2.1∧c.2.2.2.1≤1048576∧0≤c.2.2.2.2.1∧c.2.2.2.2.1≤1048576
theorem yb{c:Wy}(w:Bi c)(op e n g:Int)(last:Bool):0≤(iY c op e n g last).1∧(iY c op e n g last).1≤1000000000:=by
 obtain⟨L,M,N,O⟩:=w;have tail:∀f:Int,0≤f→f≤10000→∃v:Int,(((if(e == (3:Int))=true then(if 0≤(0:Int)∧(0:Int)<(([op]:QK).length:Int)then(if((([op]:QK).getD (0:Int).toNat (0:Int)) == (3:Int))=true then some ((i64.wrap ((i64.wrap ((i64.wrap ((i64.wrap ((10:Int)+f))*(i64.wrap ((10:Int)+f))))+c.2.2.2.1))+c.2.2.2.2.1)))
    else some ((i64.wrap ((i64.wrap ((i64.wrap ((10:Int)+f))*(i64.wrap ((10:Int)+f))))+c.2.2.2.1))))else none)
    else some ((i64.wrap ((i64.wrap ((10:Int)+f))*(i64.wrap ((10:Int)+f))))))).bind fun j=>some (j,true))=some (v,true)∧0≤v∧v≤1000000000:=fun f u x=>by
  have B:i64.wrap ((10:Int)+f)=10+f:=wrap_i64 (by omega) (by omega);have C:0≤(10+f)*(10+f):=Int.mul_nonneg (by omega) (by omega);have D:(10+f)*(10+f)≤10010*10010:=Int.mul_le_mul (by omega) (by omega) (by omega) (by omega);rw[B];generalize (10+f)*(10+f)=q at C D;have E:i64.wrap q=q:=wrap_i64 (by omega) (by omega);have I:i64.wrap (q+c.2.2.2.1)=q+c.2.2.2.1:=wrap_i64 (by omega) (by omega);have J:i64.wrap (q+c.2.2.2.1+c.2.2.2.2.1)=q+c.2.2.2.1+c.2.2.2.2.1:=wrap_i64 (by omega) (by omega);rw[E,I,J];by_cases z:(e == 3)=true
  ·rw[if_pos z,if_pos (by simp)];split
   ·exact⟨_,rfl,by omega,by omega⟩
   ·exact⟨_,rfl,by omega,by omega⟩
  ·rw[if_neg z];exact⟨_,rfl,by omega,by omega⟩
 unfold iY dS;by_cases hn:n > c.1
 ·rw[if_pos (by simpa using hn)];exact⟨Int.le_refl (0:Int),(by decide:(0:Int)≤1000000000)⟩
 ·rw[if_neg (by simpa using hn)];cases last with
  | true =>
   obtain⟨v,p,v0,v1⟩:=tail 0 (by omega) (by omega);simp only[Bool.not_true,Bool.false_eq_true,if_false,Option.bind_some];rw[p];exact⟨v0,v1⟩
  | false =>
   obtain⟨b,hb,u,x⟩:=vJ (bR .quo (ofInt (i64.wrap (c.1 - n))) (ofInt g));simp only[Bool.not_false,if_true,o8,lB,Option.bind_some];by_cases A:(!(!(KO (bR .quo (ofInt (i64.wrap (c.1 - n))) (ofInt g)) c.2.2.2.2.2)))=true
   ·rw[if_pos A];exact⟨Int.le_refl (0:Int),(by decide:(0:Int)≤1000000000)⟩
   ·rw[if_neg A,hb];obtain⟨v,p,v0,v1⟩:=tail b u x;simp only[Option.bind_some];rw[p];exact⟨v0,v1⟩
def FC(d:Dt)(a:Nat):Nat→Nat
 | 0=>0
 | k+1=>if(d (a+k)).2.1=1 then FC d a k+1 else FC d a k
theorem Gw(d:Dt)(a:Nat):∀k,FC d a k≤k
 | 0=>Nat.le_refl _
 | k+1=>by
  have:=Gw d a k;simp only[FC];split <;> omega
def Lw(d:Dt)(a k:Nat):Int:=(FC d a (kb d a k - a):Int)
def Mc(d:Dt)(n:Nat)(c:Wy)(a b:Nat):Int×Bool:=if oH d b=0 then(0,false)else iY c (oH d a) (oH d b) (mi d c.2.1 a b (oH d b)) (Lw d a b) (b == n)
def HT(d:Dt)(n:Nat)(c:Wy):Nat→QV→Prop
 | a,[]=>a=n
 | a,b::r=>a<b∧b≤n∧(Mc d n c a b).2=true∧HT d n c b r
theorem HT.le{d:Dt}{n:Nat}{c:Wy}:∀ {r:QV} {a:Nat},HT d n c a r→a+r.length≤n
 | [],a,h=>by simp only[HT]at h;simp;omega
 | b::r,a,h=>by
  have:=HT.le h.2.2.2;have:=h.1;simp only[List.length_cons];omega
theorem HT.mono{d:Dt}{n:Nat}{c c':Wy}(h:∀a b,(Mc d n c a b).2=true→(Mc d n c' a b).2=true):∀ {r:QV} {a:Nat},HT d n c a r→HT d n c' a r
 | [],_,q=>q
 | _::_,_,q=>⟨q.1,q.2.1,h _ _ q.2.2.1,HT.mono h q.2.2.2⟩
section
variable{d:Dt}{n:Nat}{c:Wy}(hn:n≤4096)(w:Bi c)(hc:∀a k,a+k≤n→0≤fh d c.2.1 a k∧fh d c.2.1 a k≤1000000)(hm:∀a k,a+k<n→fh d c.2.1 a k≤fh d c.2.1 a (k+1))
include hn w hc hm
end
end
end Go.Proofs.YtobbjfkfmdiklaaGreatDoor.T
