import Derived.Test.YtobbjfkfmdiklaaGreatDoorTvUm
import Derived.Test.YtobbjfkfmdiklaaGreatDoorTv50um
import Derived.Test.YtobbjfkfmdiklaaGreatDoorTvT50aTopLeastm
namespace Go.Proofs.YtobbjfkfmdiklaaGreatDoor.T
open Go Go.Tv Go.Proofs
open Go.IntKind (i64)
noncomputable section
def CB(d:Dt)(f:Int)(a k:Nat):Int:=dD d f a (gR d a k - a)
theorem Hf(d:Dt)(f:Int)(a:Nat):CB d f a a=0:=by
 have:=kd d a a (Nat.le_refl _);unfold CB;rw[show gR d a a - a=0 by omega];rfl
theorem Ef(d:Dt)(f:Int){a k:Nat}(h:a≤k):CB d f a (k+1)=if iD (d k)=true then CB d f a k else dD d f a (k+1 - a):=by
 unfold CB;simp only[gR];by_cases e:iD (d k)=true
 ·rw[if_pos ⟨by omega,e⟩,if_pos e]
 ·rw[if_neg (fun q=>e q.2),if_neg e]
theorem yn(d:Dt)(f:Int)(a b:Nat)(e:Int):kx d f a b e=CB d f a b+(if e=3 then 1 else 0):=rfl
theorem Dx{c:Wy}{op e n g:Int}{last:Bool}(h:(fZ c op e n g last).2=true):n≤c.1:=by
 by_cases hn:n > c.1
 ·unfold fZ dE at h;rw[if_pos (by simpa using hn)]at h;cases h
 ·omega
section
variable{d:Dt}{n:Nat}{c:Wy}(hc:∀a k,a+k≤n→0≤dD d c.2.1 a k∧dD d c.2.1 a k≤1000000)
include hc
end
def Jp(cl:Qw)(n:Int)(i:Nat):Int:=if i<cl.length then(cl.getD i c0).1 else n
theorem sQ.next{n:Int}:∀ {a:Int} {cl:Qw} {i:Nat},sQ a cl n→i<cl.length→(cl.getD i c0).1+(cl.getD i c0).2.1=Jp cl n (i+1)
 | a,[],i,_,h=>absurd h (by simp)
 | a,[x],0,h,_=>by
  obtain⟨h1,-,-,-,-,-,h2⟩:=h;simp only[sQ]at h2;simp only[Jp,List.getD_cons_zero,List.length_singleton,Nat.zero_add,Nat.lt_irrefl,if_false];omega
 | a,x::y::r,0,h,_=>by
  obtain⟨h1,-,-,-,-,-,h2,-⟩:=h;simp only[Jp,List.getD_cons_zero,List.length_cons,List.getD_cons_succ,Nat.zero_add];rw[if_pos (by omega)];omega
 | a,x::r,i+1,h,hi=>by
  have:=sQ.next (i:=i) h.2.2.2.2.2.2 (by simpa using hi);unfold Jp at this ⊢;simp only[List.getD_cons_succ,List.length_cons];rw[this];by_cases e:i+1<r.length
  ·rw[if_pos e,if_pos (by omega)]
  ·rw[if_neg e,if_neg (by omega)]
def CV(cl:Qw)(n:Int)(x:bK):bK:=(Jp cl n x.1.toNat,Jp cl n x.2.1.toNat,x.2.2)
theorem Js{cl:Qw}{n:Int}(hc:sQ 0 cl n)(q:cl.length≤4096)(hn:n≤1000000){l:Qw}(hl:l.length≤4096)(u:∀k,k<l.length→0≤(l.getD k c0).1∧(l.getD k c0).1<(l.getD k c0).2.1∧(l.getD k c0).2.1≤(cl.length:Int))(o:QK):
  lu cl o l=some (if l=[]then[(0,0,0,2)]else l.map (CV cl n)):=by
 unfold lu;by_cases f:l=[]
 ·subst f;rfl
 rw[if_neg f,if_neg (by
  have:=List.length_pos_iff.2 f;simp only[beq_iff_eq];omega)]
 have v:iter (hU cl l) ((l.take 0).map (CV cl n),((0:Nat):Int))=some (l.map (CV cl n)):=by
  refine jz (fun k=>((l.take k).map (CV cl n),(k:Int))) l.length (fun k hk=>?_) ?_
  ·obtain⟨a0,I,J⟩:=u k hk;have j:(k:Int)<(l.length:Int):=by omega
   have z:0≤(k:Int):=by omega
   have A:i64.wrap ((l.getD k c0).2.1 - 1)=(l.getD k c0).2.1 - 1:=wrap_i64 (by omega) (by omega);have B:0≤(l.getD k c0).2.1 - 1∧(l.getD k c0).2.1 - 1<(cl.length:Int):=by omega
   have C:(l.getD k c0).1<(cl.length:Int):=by omega
   have p:=hc.next (i:=((l.getD k c0).2.1 - 1).toNat) (by omega);rw[show((l.getD k c0).2.1 - 1).toNat+1=(l.getD k c0).2.1.toNat by omega]at p;have L:=hc.Nq.2 ((l.getD k c0).2.1 - 1).toNat (by omega);have D:i64.wrap ((cl.getD ((l.getD k c0).2.1 - 1).toNat c0).1+(cl.getD ((l.getD k c0).2.1 - 1).toNat c0).2.1)=Jp cl n (l.getD k c0).2.1.toNat:=by rw[wrap_i64 (by omega) (by omega),p]
   have E:(cl.getD (l.getD k c0).1.toNat c0).1=Jp cl n (l.getD k c0).1.toNat:=by unfold Jp;rw[if_pos (by omega)]
   have g:∀x:bK,(((l.take k).map (CV cl n)).length+([x]:Qw).length)*32≤140737488355328∧((l.take k).map (CV cl n)).length+([x]:Qw).length≤9223372036854775807:=fun x=>by simp;omega
   simp only[hU,j,z,A,B,C,a0,D,E,g,and_self,decide_true,if_true,Int.toNat_natCast,bD (show k≤9000000000000000000 by omega)];rw[qR (d:=c0) hk,List.map_append];rfl
  ·have j:¬((l.length:Int)<(l.length:Int)):=by omega
   simp only[hU,j,decide_false,Bool.false_eq_true,if_false,List.take_length]
 exact congrArg (fun x=>Option.bind x fun o=>some o) v
def KN(f j p q u:Int)(v:QJ):Wy:=(1+f,1+j % 64,p % 2,q,u,v)
def Mp(c:Wy):Prop:=iA c.1 c.2.1 c.2.2.1 c.2.2.2.1 c.2.2.2.2.1 c.2.2.2.2.2=some true
theorem K8{c:Wy}(h:(1≤c.1∧c.1≤1048576)∧(1≤c.2.1∧c.2.1≤64)∧c.2.2.1≤1∧(0≤c.2.2.2.1∧c.2.2.2.1≤1048576)∧0≤c.2.2.2.2.1∧c.2.2.2.2.1≤1048576):Mp c:=by
 unfold Mp iA;rw[if_pos (by rw[decide_eq_true_eq];omega),if_pos (by rw[decide_eq_true_eq];omega),if_pos (by rw[decide_eq_true_eq];omega),if_pos (by rw[decide_eq_true_eq];omega),if_pos (by rw[decide_eq_true_eq];omega),if_pos (by rw[decide_eq_true_eq];omega),if_pos (by rw[decide_eq_true_eq];omega),if_pos (by rw[decide_eq_true_eq];omega)];rw[Option.bind_some,decide_eq_true (by omega)]
theorem yD{j f u p q:Int}(v:QJ)(h1:0≤j∧j≤255)(h2:0≤f∧f≤255)(x:0≤u∧u≤255)(z:0≤p∧p≤65535)(A:0≤q∧q≤65535):
  dG j f u p q v=some (KN j f u p q v)∧∀m:Int,0≤m→m≤1→∀l:QJ,Mp (1+j,1+f % 64,m,p,q,l):=by
 constructor
 ·have B:i64.wrap j=j:=wrap_i64 (by omega) (by omega);have C:i64.wrap (1+j)=1+j:=wrap_i64 (by omega) (by omega);have D:Int.tmod f 64=f % 64:=Int.tmod_eq_emod_of_nonneg h2.1;have E:i64.wrap (f % 64)=f % 64:=wrap_i64 (by omega) (by omega);have I:i64.wrap (1+f % 64)=1+f % 64:=wrap_i64 (by omega) (by omega);have J:Int.tmod u 2=u % 2:=Int.tmod_eq_emod_of_nonneg x.1;have L:i64.wrap p=p:=wrap_i64 (by omega) (by omega);have M:i64.wrap q=q:=wrap_i64 (by omega) (by omega);unfold dG KN;rw[if_pos (by decide),if_pos (by decide),B,C,D,E,I,J,L,M]
 ·intro m O N l;exact K8 ⟨⟨by simp only;omega,by simp only;omega⟩,⟨by simp only;omega,by simp only;omega⟩,N,⟨z.1,by simp only;omega⟩,A.1,by simp only;omega⟩
theorem GJ{n:Int}{p:Qw×QK}(h:PM n p)(c:Wy):(∀x∈(LF p.1 p.2 c).1,Rg p.1.length x)∧(LF p.1 p.2 c).1.length≤p.1.length:=by
 have hl:=h.Hp.len;have f:I4 p.2 p.1.length 0 (gh p.2 p.2.length):=by rw[rF];exact qv _ _ _ (by omega)
 obtain⟨j,q⟩:=yE c f;exact⟨j,by unfold LF;omega⟩
theorem KC{n:Int}{p:Qw×QK}(h:PM n p)(c:Wy)(k:Nat)(hk:k<(LF p.1 p.2 c).1.length):0≤((LF p.1 p.2 c).1.getD k c0).1∧((LF p.1 p.2 c).1.getD k c0).1<((LF p.1 p.2 c).1.getD k c0).2.1∧((LF p.1 p.2 c).1.getD k c0).2.1≤(p.1.length:Int):=by
 obtain⟨a,b,f,j,q,u⟩:=(GJ h c).1 ((LF p.1 p.2 c).1.getD k c0) (ym hk);omega
def Mg(cl:Qw)(n:Int)(l:Qw):Qw:=if l=[]then[(0,0,0,2)]else l.map (CV cl n)
theorem ME{b:Option Z1}(hb:RB b){x:QK}(h1:Bytes x)(h2:x.length≤4096):∃p,aZ b x=some (p,0)∧PM (x.length:Int) p∧∀c:Wy,Mp c →
  fG p.1 p.2 c.1 c.2.1 c.2.2.1 c.2.2.2.1 c.2.2.2.2.1 c.2.2.2.2.2=some (LF p.1 p.2 c)∧dO b x c.1 c.2.1 c.2.2.1 c.2.2.2.1 c.2.2.2.2.1 c.2.2.2.2.2=some ((Mg p.1 (x.length:Int) (LF p.1 p.2 c).1,(LF p.1 p.2 c).2),0):=by
 obtain⟨p,hp,f⟩:=hb.para x h1 h2;refine⟨p,hp,f,fun c hc=>?_⟩;have j:=f.Ns (by omega);have e:=xj j f.Hp f.zero (pb hc);have q:fG p.1 p.2 c.1 c.2.1 c.2.2.1 c.2.2.2.1 c.2.2.2.2.1 c.2.2.2.2.2=some (LF p.1 p.2 c):=e;refine⟨q,?_⟩;have hl:=j.1;have u:=Js f.KD hl (by omega) (l:=(LF p.1 p.2 c).1) (by have:=(GJ f c).2;omega) (KC f c) p.2;unfold dO;rw[hc,Option.bind_some,if_neg (by decide),hp,Option.bind_some];simp only[bne_self_eq_false,Bool.false_eq_true,if_false,q,Option.bind_some,u];rfl
end
end Go.Proofs.YtobbjfkfmdiklaaGreatDoor.T
