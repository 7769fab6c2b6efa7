import Derived.Test.YtflahpmlcfhpcaaGreatDoorTvUm
import Derived.Test.YtflahpmlcfhpcaaGreatDoorTv30um
import Derived.Test.YtflahpmlcfhpcaaGreatDoorTv30gim
import Derived.Test.YtflahpmlcfhpcaaGreatDoorTv30bm
import Derived.Test.YtflahpmlcfhpcaaGreatDoorTvT20d0
import Derived.Test.YtflahpmlcfhpcaaGreatDoorTvT20da
import Derived.Test.YtflahpmlcfhpcaaGreatDoorTvT20da3
namespace Go.Proofs.YtflahpmlcfhpcaaGreatDoor.T
open Go Go.Tv Go.Proofs
open Go.IntKind (i64)
noncomputable section
def DA(d:Dt)(e:Int)(a k:Nat):Int:=fP d e a (jM d a k - a)
theorem zG(d:Dt)(e:Int)(a:Nat):DA d e a a=0:=by
 have:=oJ d a a (Nat.le_refl _);unfold DA;rw[show jM d a a - a=0 by omega];rfl
theorem Dd(d:Dt)(f:Int){a k:Nat}(h:a≤k):DA d f a (k+1)=if iF (d k)=true then DA d f a k else fP d f a (k+1 - a):=by
 unfold DA;simp only[jM];by_cases e:iF (d k)=true
 ·rw[if_pos ⟨by omega,e⟩,if_pos e]
 ·rw[if_neg (fun q=>e q.2),if_neg e]
theorem sH(d:Dt)(f:Int)(a b:Nat)(e:Int):gN d f a b e=DA d f a b+(if e=3 then 1 else 0):=rfl
theorem BH(d:Dt)(p f:Int)(a:Nat):∀m k j cut full,a≤k→full=DA d f a k→(j = -1∨∃b:Nat,j=(b:Int)∧gN d f a b (n8 d b)≤p)→(cut=a+1∨DA d f a cut≤p) →
  ((kr d p f a m k j cut full).1 = -1∨∃b:Nat,(kr d p f a m k j cut full).1=(b:Int)∧gN d f a b (n8 d b)≤p)∧((kr d p f a m k j cut full).2=a+1∨DA d f a (kr d p f a m k j cut full).2≤p)
 | 0,k,j,cut,full,_,_,q,u=>⟨q,u⟩
 | m+1,k,j,cut,full,A,B,q,u=>by
  simp only[kr];have e:(if iF (d k)=true then full else fP d f a (k+1 - a))=DA d f a (k+1):=by rw[Dd d f A,B]
  rw[e];by_cases v:DA d f a (k+1) > p
  ·rw[if_pos v];exact⟨q,u⟩
  ·rw[if_neg v];refine BH d p f a m (k+1) _ (k+1) _ (by omega) rfl ?_ (.inr (by omega));by_cases g:(d k).2.2≠0∧((d k).2.2≠3∨DA d f a (k+1)<p)
   ·rw[if_pos g];refine .inr ⟨k+1,rfl,?_⟩;rw[sH];obtain⟨-,g2⟩:=g;have x:n8 d (k+1)=(d k).2.2:=rfl;by_cases z:(d k).2.2=3
    ·rw[if_pos (x.trans z)];omega
    ·rw[if_neg (x ▸ z)];omega
   ·rw[if_neg g];exact q
theorem Fa(d:Dt){n:Nat}(hn:n8 d n≠3)(f e:Int)(a:Nat):gN d e a (iB d n f e a).1 (iB d n f e a).2≤f∨(iB d n f e a).1=a+1:=by
 have h:=BH d f e a (n - a) a (-1) (a+1) 0 (Nat.le_refl _) (zG d e a).symm (.inl rfl) (.inl rfl);unfold iB;generalize kr d f e a (n - a) a (-1) (a+1) 0=p at h;obtain⟨j,q⟩:=h;simp only;by_cases u:0≤p.1
 ·rw[if_pos u];rcases j with j | ⟨b,j,v⟩
  ·omega
  ·simp only;rw[j,Int.toNat_natCast];exact .inl v
 ·rw[if_neg u];simp only;rcases q with q | q
  ·exact .inr q
  ·left
   rw[sH,if_neg ?_]
   ·omega
   ·split
    ·decide
    ·split
     ·exact hn
     ·decide
def Fit(e:Int)(x:cv):Prop:=x.2.2.1≤e∨x.2.1=x.1+1
theorem vW(d:Dt){n:Nat}(hn:n8 d n≠3)(f e:Int):∀m a,∀x∈eD d n f e m a,Fit f x
 | 0,_,x,h=>by cases h
 | m+1,a,x,h=>by
  simp only[eD]at h;by_cases ha:a<n
  ·rw[if_pos ha]at h;rcases List.mem_cons.1 h with h | h
   ·rw[h];rcases Fa d hn f e a with q | q
    ·exact .inl q
    ·refine .inr ?_;show(((iB d n f e a).1:Nat):Int)=(a:Int)+1;omega
   ·exact vW d hn f e m _ x h
  ·rw[if_neg ha]at h;cases h
theorem CD{c:Wy}{op e n g:Int}{last:Bool}(h:(kS c op e n g last).2=true):n≤c.1:=by
 by_cases hn:n > c.1
 ·unfold kS eW at h;rw[if_pos (by simpa using hn)]at h;cases h
 ·omega
section
variable{d:Dt}{n:Nat}{c:Wy}(hc:∀a k,a+k≤n→0≤fP d c.2.1 a k∧fP d c.2.1 a k≤1000000)
include hc
theorem pw(all:Nat→Int×Int)(a:Nat):∀m k j q full sp u,a≤k→k+m=n→full=DA d c.2.1 a k→(q = -1∨gN d c.2.1 a q.toNat (n8 d q.toNat)≤c.1) →
  ((fC d n c all a m k j q full sp u).2 = -1∨gN d c.2.1 a (fC d n c all a m k j q full sp u).2.toNat (n8 d (fC d n c all a m k j q full sp u).2.toNat)≤c.1)
 | 0,k,j,q,full,sp,u,_,_,_,h=>h
 | m+1,k,j,q,full,sp,u,A,D,B,h=>by
  simp only[fC];have e:(if iF (d k)=true then(full,u)else(fP d c.2.1 a (k+1 - a),(if(d k).2.1=1 then i64.wrap (sp+1)else sp))).1=DA d c.2.1 a (k+1):=by rw[Dd d c.2.1 A,B];split <;> rfl
  generalize (if iF (d k)=true then(full,u)else(fP d c.2.1 a (k+1 - a),(if(d k).2.1=1 then i64.wrap (sp+1)else sp)))=f at e;have hb:0≤f.1∧f.1≤1000000:=by rw[e];have:=oJ d a (k+1) (by omega);exact hc _ _ (by omega)
  have x:(kS c (n8 d a) (d k).2.2 (if(d k).2.2=3 then i64.wrap (f.1+1)else f.1) f.2 (k+1 == n)).2=true→(if(d k).2.2=3 then i64.wrap (f.1+1)else f.1)≤c.1:=CD;generalize kS c (n8 d a) (d k).2.2 (if(d k).2.2=3 then i64.wrap (f.1+1)else f.1) f.2 (k+1 == n)=p at x;split
  ·exact h
  ·split
   ·exact pw all a m (k+1) _ _ _ _ _ (by omega) (by omega) e h
   ·split
    ·rename_i C;refine pw all a m (k+1) _ _ _ _ _ (by omega) (by omega) e (.inr ?_);have:=x C.1;rw[Int.toNat_natCast,sH];have z:n8 d (k+1)=(d k).2.2:=rfl;by_cases v:(d k).2.2=3
     ·rw[if_pos v,wrap_i64 (by omega) (by omega)]at this;rw[if_pos (z.trans v)];omega
     ·rw[if_neg v]at this;rw[if_neg (z ▸ v)];omega
    ·exact pw all a m (k+1) _ _ _ _ _ (by omega) (by omega) e h
theorem Bo:∀j i,j≤n→i<j→((dB d n c j).getD i (0,0)).2 = -1∨gN d c.2.1 (n - j+i) ((dB d n c j).getD i (0,0)).2.toNat (n8 d ((dB d n c j).getD i (0,0)).2.toNat)≤c.1
 | 0,i,_,hi=>by omega
 | j+1,0,e,_=>by
  simp only[dB,List.getD_cons_zero,Nat.add_zero];unfold sG;split
  ·exact pw hc _ (n - (j+1)) (n - (n - (j+1))) (n - (j+1)) 0 (-1) 0 0 0 (Nat.le_refl _) (by omega) (zG d c.2.1 _).symm (.inl rfl)
  ·exact .inl rfl
 | j+1,i+1,e,hi=>by
  have f:=Bo j i (by omega) (by omega);simp only[dB,List.getD_cons_succ];rw[show n - (j+1)+(i+1)=n - j+i by omega];exact f
omit hc in
theorem xT{T:Qq}(hT:∀a,a<n→0≤(T.getD a (0,0)).2→(a:Int)<(T.getD a (0,0)).2∧(T.getD a (0,0)).2≤(n:Int)∧((T.getD a (0,0)).2<(n:Int)→0≤(T.getD (T.getD a (0,0)).2.toNat (0,0)).2))
  (e:∀a,a<n→(T.getD a (0,0)).2 = -1∨gN d c.2.1 a (T.getD a (0,0)).2.toNat (n8 d (T.getD a (0,0)).2.toNat)≤c.1):∀m a,(a<n→0≤(T.getD a (0,0)).2)→∀x∈iu d n c.2.1 T m a,Fit c.1 x
 | 0,_,_,x,h=>by cases h
 | m+1,a,f,x,h=>by
  simp only[iu]at h;by_cases ha:a<n
  ·rw[if_pos ha]at h;obtain⟨p,u,j⟩:=hT a ha (f ha);rcases List.mem_cons.1 h with h | h
   ·rw[h];rcases e a ha with q | q
    ·omega
    ·exact .inl q
   ·exact xT hT e m _ (fun _=>j (by omega)) x h
  ·rw[if_neg ha]at h;cases h
theorem Fb(hn:n8 d n≠3):∀x∈(fA d n c).1,Fit c.1 x:=by
 have e:=vW d hn c.1 c.2.1 n 0;unfold fA nP;by_cases f:c.2.2.1=1
 ·rw[if_pos f];by_cases j:n=0
  ·rw[if_pos j];intro x h;cases h
  ·rw[if_neg j];by_cases p:((dB d n c n).getD 0 (0,0)).2<0
   ·rw[if_pos p];exact e
   ·rw[if_neg p];exact xT (oX d n c) (fun a ha=>by have:=Bo hc n a (Nat.le_refl _) ha;rwa [show n - n+a=a by omega]at this) n 0 (fun _=>by omega)
 ·rw[if_neg f];exact e
end
theorem vP{p:Qk}(j:BR p){o:QK}{c:Wy}(w:Hx c):∀ {l:QK} {f:Nat},EF o p.length f l→∀x∈(gM p o c f l).1,Fit c.1 x
 | [],_,_,x,h=>by cases h
 | t::r,f,⟨z,A,p3,p4,p5⟩,x,h=>by
  have hl:=j.1;simp only[gM]at h;rcases List.mem_append.1 h with h | h
  ·obtain⟨y,u,rfl⟩:=List.mem_map.1 h;by_cases e:t.toNat - f=0
   ·rw[e]at u;have:(fA (aQ p o f) 0 c).1=[]:=by
     unfold fA nP;by_cases v:c.2.2.1=1
     ·rw[if_pos v,if_pos rfl]
     ·rw[if_neg v];rfl
    rw[this]at u;cases u
   ·have:=Fb (d:=aQ p o f) (n:=t.toNat - f) (c:=c) (fun a k hk=>by
     rw[←rZ];have:=pq j w.1 w.2 (f+a) k (by omega);omega) (by
     rw[←ll p o f (by omega),show f+(t.toNat - f)=t.toNat by omega,p4];decide) y u
    rcases this with q | q
    ·exact .inl q
    ·refine .inr ?_;show y.2.1+(f:Int)=y.1+(f:Int)+1;omega
  ·exact vP j w p5 x h
theorem Km{n:Int}{p:Qk×QK}(h:PM n p)(hc:BR p.1){c:Wy}(w:Hx c):∀x∈(LF p.1 p.2 c).1,Fit c.1 x:=by
 have hl:=h.JK.len;have e:EF p.2 p.1.length 0 (eC p.2 p.2.length):=by rw[oK];exact kX _ _ _ (by omega)
 exact vP hc w e
def ph(e:Qk)(n:Int)(i:Nat):Int:=if i<e.length then(e.getD i c0).1 else n
theorem oA.next{n:Int}:∀ {a:Int} {f:Qk} {i:Nat},oA a f n→i<f.length→(f.getD i c0).1+(f.getD i c0).2.1=ph f n (i+1)
 | a,[],i,_,h=>absurd h (by simp)
 | a,[x],0,h,_=>by
  obtain⟨q,-,-,-,-,-,p⟩:=h;simp only[oA]at p;simp only[ph,List.getD_cons_zero,List.length_singleton,Nat.zero_add,Nat.lt_irrefl,if_false];omega
 | a,x::y::r,0,h,_=>by
  obtain⟨q,-,-,-,-,-,p,-⟩:=h;simp only[ph,List.getD_cons_zero,List.length_cons,List.getD_cons_succ,Nat.zero_add];rw[if_pos (by omega)];omega
 | a,x::r,i+1,h,hi=>by
  have:=oA.next (i:=i) h.2.2.2.2.2.2 (by simpa using hi);unfold ph at this ⊢;simp only[List.getD_cons_succ,List.length_cons];rw[this];by_cases e:i+1<r.length
  ·rw[if_pos e,if_pos (by omega)]
  ·rw[if_neg e,if_neg (by omega)]
theorem oA.IV{n:Int}{f:Qk}(h:oA 0 f n):∀ {i:Nat},i≤f.length→∀ {j:Nat},j<i→ph f n j<ph f n i:=fun {i} hi=>by
 induction i with
 | zero=>intro j u;omega
 | succ i v =>
  intro j u;have e:=h.next (i:=i) (by omega);have p:=(h.Ml.2 i (by omega)).2.1;have x:ph f n i=(f.getD i c0).1:=by unfold ph;rw[if_pos (by omega)]
  by_cases q:j=i
  ·rw[q];omega
  ·have:=v (by omega) (j:=j) (by omega);omega
def pL(e:Qk)(n:Int)(x:cv):cv:=(ph e n x.1.toNat,ph e n x.2.1.toNat,x.2.2)
theorem HH{e:Qk}{n:Int}(hc:oA 0 e n)(q:e.length≤4096)(hn:n≤1000000){l:Qk}(hl:l.length≤4096)(u:∀k,k<l.length→0≤(l.getD k c0).1∧(l.getD k c0).1<(l.getD k c0).2.1∧(l.getD k c0).2.1≤(e.length:Int))(o:QK):
  lj e o l=some (if l=[]then[(0,0,0,2)]else l.map (pL e n)):=by
 unfold lj;by_cases f:l=[]
 ·subst f;rfl
 rw[if_neg f,if_neg (by
  have:=List.length_pos_iff.2 f;simp only[beq_iff_eq];omega)]
 have v:iter (hD e l) ((l.take 0).map (pL e n),((0:Nat):Int))=some (l.map (pL e n)):=by
  refine jk (fun k=>((l.take k).map (pL e n),(k:Int))) l.length (fun k hk=>?_) ?_
  ·obtain⟨a0,I,J⟩:=u k hk;have j:(k:Int)<(l.length:Int):=by omega
   have z:0≤(k:Int):=by omega
   have A:i64.wrap ((l.getD k c0).2.1 - 1)=(l.getD k c0).2.1 - 1:=wrap_i64 (by omega) (by omega);have B:0≤(l.getD k c0).2.1 - 1∧(l.getD k c0).2.1 - 1<(e.length:Int):=by omega
   have C:(l.getD k c0).1<(e.length:Int):=by omega
   have p:=hc.next (i:=((l.getD k c0).2.1 - 1).toNat) (by omega);rw[show((l.getD k c0).2.1 - 1).toNat+1=(l.getD k c0).2.1.toNat by omega]at p;have L:=hc.Ml.2 ((l.getD k c0).2.1 - 1).toNat (by omega);have D:i64.wrap ((e.getD ((l.getD k c0).2.1 - 1).toNat c0).1+(e.getD ((l.getD k c0).2.1 - 1).toNat c0).2.1)=ph e n (l.getD k c0).2.1.toNat:=by rw[wrap_i64 (by omega) (by omega),p]
   have E:(e.getD (l.getD k c0).1.toNat c0).1=ph e n (l.getD k c0).1.toNat:=by unfold ph;rw[if_pos (by omega)]
   have g:∀x:cv,(((l.take k).map (pL e n)).length+([x]:Qk).length)*32≤140737488355328∧((l.take k).map (pL e n)).length+([x]:Qk).length≤9223372036854775807:=fun x=>by simp;omega
   simp only[hD,j,z,A,B,C,a0,D,E,g,and_self,decide_true,if_true,Int.toNat_natCast,bJ (show k≤9000000000000000000 by omega)];rw[qc (d:=c0) hk,List.map_append];rfl
  ·have j:¬((l.length:Int)<(l.length:Int)):=by omega
   simp only[hD,j,decide_false,Bool.false_eq_true,if_false,List.take_length]
 exact congrArg (fun x=>Option.bind x fun o=>some o) v
def Jl(e f j p q:Int)(u:QJ):Wy:=(1+e,1+f % 64,j % 2,p,q,u)
def LA(c:Wy):Prop:=ik c.1 c.2.1 c.2.2.1 c.2.2.2.1 c.2.2.2.2.1 c.2.2.2.2.2=some true
theorem JX{c:Wy}(h:(1≤c.1∧c.1≤1048576)∧(1≤c.2.1∧c.2.1≤64)∧c.2.2.1≤1∧(0≤c.2.2.2.1∧c.2.2.2.1≤1048576)∧0≤c.2.2.2.2.1∧c.2.2.2.2.1≤1048576):LA c:=by
 unfold LA ik;rw[if_pos (by rw[decide_eq_true_eq];omega),if_pos (by rw[decide_eq_true_eq];omega),if_pos (by rw[decide_eq_true_eq];omega),if_pos (by rw[decide_eq_true_eq];omega),if_pos (by rw[decide_eq_true_eq];omega),if_pos (by rw[decide_eq_true_eq];omega),if_pos (by rw[decide_eq_true_eq];omega),if_pos (by rw[decide_eq_true_eq];omega)];rw[Option.bind_some,decide_eq_true (by omega)]
theorem EL{f e q j p:Int}(u:QJ)(O:0≤f∧f≤255)(v:0≤e∧e≤255)(x:0≤q∧q≤255)(z:0≤j∧j≤65535)(A:0≤p∧p≤65535):
  dK f e q j p u=some (Jl f e q j p u)∧∀m:Int,0≤m→m≤1→∀l:QJ,LA (1+f,1+e % 64,m,j,p,l):=by
 constructor
 ·have B:i64.wrap f=f:=wrap_i64 (by omega) (by omega);have C:i64.wrap (1+f)=1+f:=wrap_i64 (by omega) (by omega);have D:Int.tmod e 64=e % 64:=Int.tmod_eq_emod_of_nonneg v.1;have E:i64.wrap (e % 64)=e % 64:=wrap_i64 (by omega) (by omega);have I:i64.wrap (1+e % 64)=1+e % 64:=wrap_i64 (by omega) (by omega);have J:Int.tmod q 2=q % 2:=Int.tmod_eq_emod_of_nonneg x.1;have L:i64.wrap j=j:=wrap_i64 (by omega) (by omega);have M:i64.wrap p=p:=wrap_i64 (by omega) (by omega);unfold dK Jl;rw[if_pos (by decide),if_pos (by decide),B,C,D,E,I,J,L,M]
 ·intro m V N l;exact JX ⟨⟨by simp only;omega,by simp only;omega⟩,⟨by simp only;omega,by simp only;omega⟩,N,⟨z.1,by simp only;omega⟩,A.1,by simp only;omega⟩
theorem Hd{n:Int}{p:Qk×QK}(h:PM n p)(c:Wy):(∀x∈(LF p.1 p.2 c).1,Rg p.1.length x)∧(LF p.1 p.2 c).1.length≤p.1.length:=by
 have hl:=h.JK.len;have e:EF p.2 p.1.length 0 (eC p.2 p.2.length):=by rw[oK];exact kX _ _ _ (by omega)
 obtain⟨f,j⟩:=xV c e;exact⟨f,by unfold LF;omega⟩
theorem GF{n:Int}{p:Qk×QK}(h:PM n p)(c:Wy)(k:Nat)(hk:k<(LF p.1 p.2 c).1.length):0≤((LF p.1 p.2 c).1.getD k c0).1∧((LF p.1 p.2 c).1.getD k c0).1<((LF p.1 p.2 c).1.getD k c0).2.1∧((LF p.1 p.2 c).1.getD k c0).2.1≤(p.1.length:Int):=by
 obtain⟨a,b,e,f,j,q⟩:=(Hd h c).1 ((LF p.1 p.2 c).1.getD k c0) (sV hk);omega
def ri(e:Qk)(n:Int)(l:Qk):Qk:=if l=[]then[(0,0,0,2)]else l.map (pL e n)
theorem Em(e:Qk)(n:Int)(l:Qk):0<(ri e n l).length:=by
 unfold ri;split
 ·decide
 ·rw[List.length_map];exact List.length_pos_iff.2 (by assumption)
theorem LL{b:Option Z1}(hb:RB b){x:QK}(v:Bytes x)(z:x.length≤4096):∃p,bc b x=some (p,0)∧PM (x.length:Int) p∧∀c:Wy,LA c →
  gx p.1 p.2 c.1 c.2.1 c.2.2.1 c.2.2.2.1 c.2.2.2.2.1 c.2.2.2.2.2=some (LF p.1 p.2 c)∧dy b x c.1 c.2.1 c.2.2.1 c.2.2.2.1 c.2.2.2.2.1 c.2.2.2.2.2=some ((ri p.1 (x.length:Int) (LF p.1 p.2 c).1,(LF p.1 p.2 c).2),0):=by
 obtain⟨p,q,f⟩:=hb.para x v z;refine⟨p,q,f,fun c hc=>?_⟩;have j:=f.Mp (by omega);have e:=xx j f.JK f.zero (Bq hc);have u:gx p.1 p.2 c.1 c.2.1 c.2.2.1 c.2.2.2.1 c.2.2.2.2.1 c.2.2.2.2.2=some (LF p.1 p.2 c):=e;refine⟨u,?_⟩;have hl:=j.1;have A:=HH f.HW hl (by omega) (l:=(LF p.1 p.2 c).1) (by have:=(Hd f c).2;omega) (GF f c) p.2;unfold dy;rw[hc,Option.bind_some,if_neg (by decide),q,Option.bind_some];simp only[bne_self_eq_false,Bool.false_eq_true,if_false,u,Option.bind_some,A];rfl
theorem DF{e:Qk}{n:Int}:ph e n e.length=n:=by unfold ph;rw[if_neg (by omega)]
theorem AY{e:Qk}{n:Int}(h:oA 0 e n):ph e n 0=0:=by
 unfold ph;cases e with
 | nil=>simp only[oA]at h;simp[h.symm]
 | cons x r=>simp[h.1]
theorem CC:ff=some ([],jT,lU,[],Fy,FF,[],2,2):=rfl
theorem Fc{b e:Option Z1}(h:∀x,bc b x=bc e x)(x:QK)(f j p q u:Int)(v:QJ):dy b x f j p q u v=dy e x f j p q u v:=by
 unfold dy;rw[h]
theorem IE:eJ=some true:=by
 obtain⟨b,e,hb⟩:=Jn;unfold eJ;rw[CC];simp only[Option.bind,e,Fc hb];kernel_rfl
set_option maxRecDepth 100000
set_option maxHeartbeats 4000000
def bP(e:Qv×QK):(Qq×Int)→Option ((Qq×Int)⊕Qq):=fun(v4,f) =>
 (if(decide (f<(e.1.length:Int)))=true then(if 0≤f∧f<(e.1.length:Int)then some (Sum.inl ((cm (.int .i64) v4 ((e.1.getD f.toNat (0,0,0,0)).1) f),(i64.wrap (f+1))))else none)
 else some (Sum.inr v4))
def br(j:Int×Int×Int×Int×Int×QJ)(f:Qv×Bool)(v6:Qq):(Int×Int)→Option ((Int×Int)⊕((Int)⊕(Bool))):=fun(v11,e) =>
 (if(decide (e<(f.1.length:Int)))=true then(if 0≤e∧e<(f.1.length:Int)then(((if(((f.1.getD e.toNat (0,0,0,0)).1) != v11)=true then some (true)
 else(if(!((aW (.int .i64) v6 ((f.1.getD e.toNat (0,0,0,0)).1)).isSome))=true then some (true)
 else(if(!((aW (.int .i64) v6 ((f.1.getD e.toNat (0,0,0,0)).2.1)).isSome))=true then some (true)
 else(if(decide (((f.1.getD e.toNat (0,0,0,0)).2.2.1) > j.1))=true then some ((((aW (.int .i64) v6 ((f.1.getD e.toNat (0,0,0,0)).2.1)).getD 0) != (i64.wrap (((aW (.int .i64) v6 ((f.1.getD e.toNat (0,0,0,0)).1)).getD 0)+1))))
 else some (false)))))).bind fun p=>(if p=true then some (Sum.inr (Sum.inr false))
 else some (Sum.inl ((f.1.getD e.toNat (0,0,0,0)).2.1,(i64.wrap (e+1))))))else none)
 else some (Sum.inr (Sum.inl v11)))
def cV(O V X:Int)(Y:QK)(Z:List wI)(d6 d7 d8:Int)(d9:QK)(u:List wI)(v x z A:QK)(B C i1 i2 i3 i4 i5:Int)(i6:QJ)(N:QK):Option (Bool) :=
 ((eJ).bind fun r2 =>
 (if(!r2)=true then some false
 else(if(decide ((N.length:Int) > 200))=true then some true
 else((dE O V X Y Z d6 d7 d8 d9 u v x z A B C).bind fun f =>
 ((jS f.1 f.2.1 f.2.2.1 f.2.2.2.1 f.2.2.2.2.1 f.2.2.2.2.2.1 f.2.2.2.2.2.2.1 f.2.2.2.2.2.2.2.1 f.2.2.2.2.2.2.2.2).bind fun(D,r8) =>
 (if(r8.1 != 0)=true then some D.isNone
 else((dT N).bind fun j =>
 ((dK i1 i2 i3 i4 i5 i6).bind fun e =>
 ((dy D j e.1 e.2.1 e.2.2.1 e.2.2.2.1 e.2.2.2.2.1 e.2.2.2.2.2).bind fun(p,E) =>
 ((bc D j).bind fun(q,I) =>
 (((if(E != 0)=true then some (true)
 else(if(I != 0)=true then some (true)
 else some (((p.1.length:Int) == 0))))).bind fun v1=>(if v1=true then some false
 else((iter (bP q) ((cm (.int .i64) ([]:Qq) (j.length:Int) (q.1.length:Int)),0)).bind fun v6=>((iter (br e p v6) (0,0)).bind fun(J:((Int)⊕(Bool)))=>match J with
 | .inl L=>some (L == (j.length:Int))
 | .inr (M)=>some M))))))))))))))
theorem mq(V X E I J L M:Bool){d1 d2 d3:Int}{d4:QK}{d5:List wI}{d6 d7 d8:Int}{d9:QK}{Y:List wI}{Z a1 a2 a3:QK}{a4 a5 i1 i2 i3 i4 i5:Int}{i6:QJ}{x1:QK}{a6:Bool}(h:cV d1 d2 d3 d4 d5 d6 d7 d8 d9 Y Z a1 a2 a3 a4 a5 i1 i2 i3 i4 i5 i6 x1=some a6):
  Pure Tryz.prog 6 [.agg [.u8 d1,.u8 d2,.u8 d3,.p V (.slice (.int .u8)) d4,.p false (.slice (.prod (.int .u8) Fv)) d5,.u8 d6,.u8 d7,.u8 d8,.p X (.slice (.int .u8)) d9,.p false (.slice (.prod (.int .u8) Fv)) Y,.p E (.slice (.int .u8)) Z,.p I (.slice (.int .u8)) a1,.p J (.slice (.int .u8)) a2,.p L (.slice (.int .u8)) a3,.u8 a4,.u8 a5],.agg [.u8 i1,.u8 i2,.u8 i3,.p false (.int .u16) i4,.p false (.int .u16) i5,.p false .flt i6],.p M (.slice (.int .u8)) x1] (aL (bh false [⟨.bool,a6⟩])):=by
 refine PB Tryz.func6 (fun Bw w0=>?_);unfold cV at h;refine G (ag ?_);obtain⟨r2,q2,h⟩:=aj h;refine GP 0 (og q2) (aC h (fun B1 h=>?_) (fun B1 h=>?_))
 ·refine G (aw (ai ?_));obtain rfl:=sI h;exact RI [.bool]
 refine ae (ab (ag (G (aC h (fun B2 h=>?_) (fun B2 h=>?_)))))
 ·refine G (aw (ai ?_));obtain rfl:=sI h;exact RI [.bool]
 refine ae (ab ?_);obtain⟨r6,q5,h⟩:=aj h;obtain⟨⟨r7,r8⟩,q6,h⟩:=aj h;have A:=(oB V X E I J L q5);have B:=(tY false false false false q6);refine GN ⟨[],[(1,(oP A)),(2,(oP B))]⟩ [(1,1,oc A),(2,2,oc B)] (ag (G (aC h (fun B3 h=>?_) (fun B3 h=>?_))))
 ·refine GN a0 [(1,1,⟨∃e,Tryz.prog.underlying 29=some (.pointer e),⟨_,rfl⟩⟩)] (aw (ai ?_));obtain rfl:=sI h;exact RI [.bool]
 refine ae (ab ?_);obtain⟨z,q9,h⟩:=aj h;obtain⟨f,a9,h⟩:=aj h;have A:=(nX M q9);have B:=(nj a9);refine GD ⟨[],[(1,(oP A)),(3,(oP B))]⟩ [(1,1,oc A),(3,3,oc B)] ?_;obtain⟨⟨j,b5⟩,aa,h⟩:=aj h;refine GP 3 (mH false aa) ?_;obtain⟨⟨D,b6⟩,ac,h⟩:=aj h;refine GP 2 (lI false ac) (ag (ag (bB h (fun v1=>aA [(9,.p false (.slice (.int .u8)) z),(10,.adr 0 0 6 0),(11,.adr 1 0 2 0),(13,.adr 2 0 2 0),(69,.bo v1)] (KD f.1 f.2.1 f.2.2.1 f.2.2.2.1 f.2.2.2.2.1 f.2.2.2.2.2 j.1 j.2 D.1 D.2) 3) (fun v1 h=>?_) (fun v1 h=>?_))))
 ·rcases aM h with⟨O,h⟩ | ⟨O,h⟩
  ·exact bC ⟨[(2,true),(5,true)],[]⟩ [(3,5,oc O)] (eN h (gg [] [192,272,344]))
  rcases aM h with⟨B9,h⟩ | ⟨B9,h⟩
  ·exact bC ⟨[(2,false),(5,false),(6,true),(11,true)],[]⟩ [(3,4,an O),(5,5,oc O),(7,11,oc B9)] (eN h (gg [] [192,272,344]))
  exact bC ⟨[(2,false),(5,false),(6,false),(11,false)],[]⟩ [(3,4,an O),(5,5,oc O),(7,10,an B9),(11,11,oc B9)] (eN h (gg [] [192,272,344]))
 refine ab (aC h (fun ad h=>?_) (fun ad h=>?_))
 ·refine G (aw (ai ?_));obtain rfl:=sI h;exact RI [.bool]
 refine ae (ab (G (G (ag (G (ak (cI h (fun(v4,v5)=>aA [(9,.p false (.slice (.int .u8)) z),(10,.adr 0 0 6 0),(11,.adr 1 0 2 0),(15,.i64 0),(16,.mp 2),(78,.p false (.slice fF) D.1),(79,.i64 (D.1.length:Int)),(80,.i64 v5)] (IZ f.1 f.2.1 f.2.2.1 f.2.2.2.1 f.2.2.2.2.1 f.2.2.2.2.2 j.1 j.2 v4) 3) 0 (fun v6=>aA [(9,.p false (.slice (.int .u8)) z),(10,.adr 0 0 6 0),(11,.adr 1 0 2 0),(15,.i64 0),(16,.mp 2)] (IZ f.1 f.2.1 f.2.2.1 f.2.2.2.1 f.2.2.2.2.1 f.2.2.2.2.2 j.1 j.2 v6) 3) (gg [] [0,1,11]) (fun y o h=>?_) (fun v6 h=>?_))))))))
 ·obtain⟨v4,v5⟩:=y;unfold bP at h;refine G (ag (aC h (fun ax h=>?_) (fun ax h=>?_)))
  ·refine ae (ab (ag (ak (GC 1 h (fun h=>Ge (ay (ab (Ge ?_))))))));exact eB h (gg [] [0,1,2])
  refine au (aP ?_);exact eX h (gg [] [0,1,2])
 refine av (ab (ag (G (ak (kF h (fun(v11,x)=>aA [(9,.p false (.slice (.int .u8)) z),(10,.adr 0 0 6 0),(15,.i64 v11),(16,.mp 1),(91,.p false (.slice fF) j.1),(92,.i64 (j.1.length:Int)),(93,.i64 x)] (KT f.1 f.2.1 f.2.2.1 f.2.2.2.1 f.2.2.2.2.1 f.2.2.2.2.2 v6) 2) (dz (fp Tryz.f6.ntmps 2 (fun a7=>aA [(9,.p false (.slice (.int .u8)) z),(15,.i64 a7)] [] 0)) (gv tb Tryz.f6.results.toList (fun a8=>[⟨.bool,a8⟩]))) (gg [] [0,2]) (fun y o h=>?_) (fun b1 h e σ' hq=>?_))))))
 ·obtain⟨v11,x⟩:=y;unfold br at h;refine G (ag (aC h (fun b2 h=>?_) (fun b2 h=>?_)))
  ·refine ae (ab (ag (ak (GC 0 h (fun h=>G (G (ag (ag (bB h (fun N=>aA [(9,.p false (.slice (.int .u8)) z),(10,.adr 0 0 6 0),(16,.mp 1),(20,.adr 2 0 4 0),(91,.p false (.slice fF) j.1),(92,.i64 (j.1.length:Int)),(93,.i64 x),(135,.bo N)] (KN f.1 f.2.1 f.2.2.1 f.2.2.2.1 f.2.2.2.2.1 f.2.2.2.2.2 v6 ((j.1.getD x.toNat (0,0,0,0)).1) ((j.1.getD x.toNat (0,0,0,0)).2.1) ((j.1.getD x.toNat (0,0,0,0)).2.2.1) ((j.1.getD x.toNat (0,0,0,0)).2.2.2)) 3) (fun N h=>?_) (fun N h=>?_))))))))))
   ·rcases aM h with⟨q,h⟩ | ⟨q,h⟩
    ·exact bC ⟨[(4,true),(7,true)],[]⟩ [(5,7,oc q)] (eN h (gg [] [0,1,26]))
    rcases aM h with⟨v,h⟩ | ⟨v,h⟩
    ·exact bC ⟨[(4,false),(7,false),(8,true),(11,true)],[]⟩ [(5,6,an q),(7,7,oc q),(9,11,oc v)] (eN h (gg [] [0,1,26]))
    rcases aM h with⟨u,h⟩ | ⟨u,h⟩
    ·exact bC ⟨[(4,false),(7,false),(8,false),(11,false),(12,true),(24,true)],[]⟩ [(5,6,an q),(7,7,oc q),(9,10,an v),(11,11,oc v),(13,18,oc u),(23,24,oc u)] (eN h (gg [] [0,1,26]))
    rcases aM h with⟨C,h⟩ | ⟨C,h⟩
    ·exact bC ⟨[(4,false),(7,false),(8,false),(11,false),(12,false),(18,true),(23,true),(24,false)],[]⟩ [(5,6,an q),(7,7,oc q),(9,10,an v),(11,11,oc v),(13,18,an u),(19,22,an C),(23,23,oc (And.intro u C)),(24,24,oc u)] (eN h (gg [] [0,1,26]))
    exact bC ⟨[(4,false),(7,false),(8,false),(11,false),(12,false),(18,false),(23,false),(24,false)],[]⟩ [(5,6,an q),(7,7,oc q),(9,10,an v),(11,11,oc v),(13,18,an u),(19,22,oc C),(23,23,oc (And.intro u C)),(24,24,oc u)] (eN h (gg [] [0,1,26]))
   refine ab (aC h (fun b3 h=>?_) (fun b3 h=>?_))
   ·refine G (aw ?_);obtain rfl:=sI h;refine ai (az (ai (bL (aK ?_))));exact bK (RI [.bool])
   refine ae (ab (Ge (ay (ab (Ge ?_)))));exact eB h (gg [] [0,1])
  refine au (aP ?_);obtain rfl:=sI h;refine dN (bk ?_);exact bR (gg [] [])
 rcases b1 with a7 | a8
 ·obtain⟨rfl,b4⟩:=hq;refine cJ ?_ b4;refine av (ab (G (aw ?_)));obtain rfl:=sI h;exact RI [.bool]
 obtain⟨rfl,hr⟩:=hq;refine az (ai ?_);obtain rfl:=sI h;exact hr
end
end Go.Proofs.YtflahpmlcfhpcaaGreatDoor.T
namespace Go.Proofs.YtflahpmlcfhpcaaGreatDoor.T
open Go Go.Tv Go.Proofs
open Go.IntKind (i64)
noncomputable section
theorem qg(k f x:Int):∀v:Qq,aW (.int .i64) (cm (.int .i64) v k x) f=if f=k then some x else aW (.int .i64) v f
 | []=>by
  show(if cd (.int .i64) k f=true then some x else none)=_;by_cases h:f=k
  ·subst h;rw[if_pos (by simp[cd]),if_pos rfl]
  ·rw[if_neg (show ¬cd (.int .i64) k f=true by simpa [cd]using Ne.symm h),if_neg h];rfl
 | p::r=>by
  simp only[cm,aW];by_cases q:p.1=k
  ·rw[if_pos (show cd (.int .i64) p.1 k=true by simpa [cd]using q)];simp only[aW];by_cases h:f=k
   ·subst h;rw[if_pos rfl,if_pos (by simp[cd])]
   ·have j:¬cd (.int .i64) k f=true:=by simpa [cd]using Ne.symm h
    have u:¬cd (.int .i64) p.1 f=true:=by rw[q];exact j
    rw[if_neg h,if_neg j,if_neg u]
  ·rw[if_neg (show ¬cd (.int .i64) p.1 k=true by simpa [cd]using q)];simp only[aW];by_cases h:p.1=f
   ·have j:cd (.int .i64) p.1 f=true:=by simpa [cd]using h
    have u:¬f=k:=fun e=>q (h.trans e)
    rw[if_pos j,if_neg u,if_pos j]
   ·have j:¬cd (.int .i64) p.1 f=true:=by simpa [cd]using h
    rw[if_neg j,if_neg j];exact qg k f x r
theorem IK{f:Qk}{n:Int}(h:oA 0 f n){i j:Nat}(hi:i≤f.length)(p:j≤f.length)(e:ph f n i=ph f n j):i=j:=by
 rcases Nat.lt_trichotomy i j with q | q | q
 ·have:=h.IV p q;omega
 ·exact q
 ·have:=h.IV hi q;omega
theorem EZ{f:Qk}{n:Int}(h:oA 0 f n)(hl:f.length≤4096)(o:QK):
  ∃m,iter (bP (f,o)) (cm (.int .i64) ([]:Qq) n (f.length:Int),0)=some m∧∀i,i≤f.length→aW (.int .i64) m (ph f n i)=some (i:Int):=by
 refine dn (body:=bP (f,o)) (fun z:Qq×Int=>∃k:Nat,z.2=(k:Int)∧k≤f.length∧∀i,i≤f.length→(i<k∨i=f.length)→aW (.int .i64) z.1 (ph f n i)=some (i:Int)) (fun z=>f.length - z.2.toNat) _ ?_
  ⟨0,rfl,by omega,fun i hi x=>by
   obtain rfl:i=f.length:=by omega
   rw[qg,DF,if_pos rfl]⟩
 rintro⟨m,v⟩ ⟨k,rfl,hk,j⟩;simp only at j;by_cases p:k<f.length
 ·left
  have u:(k:Int)<(f.length:Int):=by omega
  have A:0≤(k:Int):=by omega
  have B:(f.getD k c0).1=ph f n k:=by unfold ph;rw[if_pos p]
  refine⟨(cm (.int .i64) m (ph f n k) (k:Int),((k+1:Nat):Int)),?_,⟨k+1,rfl,by omega,fun i hi x=>?_⟩,by simp only[Int.toNat_natCast];omega⟩
  ·simp only[bP,u,A,and_self,decide_true,if_true,Int.toNat_natCast,B,bJ (show k≤9000000000000000000 by omega)]
  ·simp only;rw[qg];by_cases e:i=k
   ·rw[e,if_pos rfl]
   ·rw[if_neg (fun q=>e (IK h hi (by omega) q))];exact j i hi (by omega)
 ·right
  obtain rfl:k=f.length:=by omega
  refine⟨m,?_,fun i hi=>j i hi (by omega)⟩;have u:¬((f.length:Int)<(f.length:Int)):=Int.lt_irrefl _;simp only[bP,u,decide_false,Bool.false_eq_true,if_false]
theorem GA{e:Qk}{n:Int}(h:oA 0 e n)(hl:e.length≤4096){c:Wy}(hw:0≤c.1){m:Qq}(E:∀i,i≤e.length→aW (.int .i64) m (ph e n i)=some (i:Int)){l:Qk}(V:l.length≤4096)(f:uG 0 l e.length)(X:∀k,k<l.length→0≤(l.getD k c0).1∧(l.getD k c0).1<(l.getD k c0).2.1∧(l.getD k c0).2.1≤(e.length:Int))(Y:∀x∈l,Fit c.1 x)(b:Bool):
  iter (br c (ri e n l,b) m) (0,0)=some (.inl n):=by
 by_cases I:l=[]
 ·subst I;have Z:e.length=0:=by simpa [uG]using f.symm
  have hn:n=0:=by have hz:e=[]:=List.length_eq_zero_iff.1 Z;rw[hz]at h;simp only[oA]at h;exact h.symm
  have A:=E 0 (by omega);rw[AY h]at A;subst hn;have J:¬(0 > c.1):=by omega
  have ew:i64.wrap 1=1:=wrap_i64 (by omega) (by omega);refine(fg (y:=((0:Int),(1:Int))) ?_).trans (dg ?_)
  ·simp[br,ri,A,J,ew]
  ·simp[br,ri]
 ·have hR:ri e n l=l.map (pL e n):=by unfold ri;rw[if_neg I]
  rw[hR];have M:iter (br c (l.map (pL e n),b) m) ((if 0<l.length then ph e n (l.getD 0 c0).1.toNat else n),((0:Nat):Int))=some (.inl n):=by
   refine jk (fun k=>((if k<l.length then ph e n (l.getD k c0).1.toNat else n),((k:Nat):Int))) l.length (fun k hk=>?_) ?_
   ·obtain⟨g0,g1,g2⟩:=X k hk;obtain⟨u,v,D,c2,c3,N,c5,c6⟩:=f.get k hk;have L:(k:Int)<((l.map (pL e n)).length:Int):=by rw[List.length_map];omega
    have q2:0≤(k:Int):=by omega
    have q3:(l.map (pL e n)).getD k c0=pL e n (l.getD k c0):=by rw[List.getD_eq_getElem?_getD,List.getElem?_map,List.getElem?_eq_getElem hk,List.getD_eq_getElem?_getD,List.getElem?_eq_getElem hk];rfl
    have m1:=E u (by omega);have m2:=E v (by omega);have B:=Y (l.getD k c0) (sV hk);have J:(pL e n (l.getD k c0)).1=ph e n u:=by show ph e n (l.getD k c0).1.toNat=_;rw[D,Int.toNat_natCast]
    have e2:(pL e n (l.getD k c0)).2.1=ph e n v:=by show ph e n (l.getD k c0).2.1.toNat=_;rw[c2,Int.toNat_natCast]
    have e3:(pL e n (l.getD k c0)).2.2.1=(l.getD k c0).2.2.1:=rfl;have e4:ph e n (l.getD k c0).1.toNat=ph e n u:=by rw[D,Int.toNat_natCast]
    have p:(if k+1<l.length then ph e n (l.getD (k+1) c0).1.toNat else n)=ph e n v:=by
     by_cases z:k+1<l.length
     ·rw[if_pos z];obtain⟨u',v',d1,d2,d3,d4,d5,d6⟩:=f.get (k+1) z;have:=d5 k rfl;rw[d1,Int.toNat_natCast,show u'=v by omega]
     ·rw[if_neg z,c6 (by omega),DF]
    have C:(if decide ((l.getD k c0).2.2.1 > c.1)=true then some ((v:Int) != i64.wrap ((u:Int)+1))else some false)=some false:=by
     by_cases O:(l.getD k c0).2.2.1 > c.1
     ·rw[if_pos (by simpa using O)];rcases B with q | q
      ·omega
      ·rw[wrap_i64 (by omega) (by omega),show(v:Int)=(u:Int)+1 by omega];simp
     ·rw[if_neg (by simpa using O)]
    simp only[br,L,q2,q3,hk,and_self,decide_true,if_true,Int.toNat_natCast,J,e2,e3,e4,m1,m2,bne_self_eq_false,Bool.false_eq_true,if_false,Option.isSome_some,Bool.not_true,Option.getD_some];rw[C];simp only[Option.bind_some,Bool.false_eq_true,if_false,bJ (show k≤9000000000000000000 by omega),p]
   ·have L:¬((l.length:Int)<((l.map (pL e n)).length:Int)):=by rw[List.length_map];omega
    simp only[br,L,decide_false,Bool.false_eq_true,if_false,Nat.lt_irrefl]
  have j:=List.length_pos_iff.2 I;obtain⟨u,v,D,-,-,N,-⟩:=f.get 0 j;rw[if_pos j,D,N rfl,Int.toNat_natCast,AY h]at M;exact M
theorem yP{d1 d2 d3:Int}{d4:QK}{d5:List wI}{d6 d7 d8:Int}{d9:QK}{C:List wI}{D E I J:QK}{L M u v j x z:Int}(A:QJ)(hd:Ho (dE d1 d2 d3 d4 d5 d6 d7 d8 d9 C D E I J L M) (fun _=>True))
  (h1:0≤u∧u≤255) (h2:0≤v∧v≤255) (h3:0≤j∧j≤255) (h4:0≤x∧x≤65535) (h5:0≤z∧z≤65535) {N:QK} (hx:∀i,0≤N.getD i 0∧N.getD i 0≤255) :
  cV d1 d2 d3 d4 d5 d6 d7 d8 d9 C D E I J L M u v j x z A N=some true:=by
 unfold cV;rw[IE];simp only[Option.bind_some,Bool.not_true,Bool.false_eq_true,if_false];split
 ·rfl
 rename_i O;have Z:N.length≤200:=by simp at O;omega
 obtain⟨d,e,_⟩:=hd;rw[e];simp only[Option.bind_some];obtain⟨⟨b,k⟩,eb,V⟩:=CR d.1 d.2.1 d.2.2.1 d.2.2.2.1 d.2.2.2.2.1 d.2.2.2.2.2.1 d.2.2.2.2.2.2.1 d.2.2.2.2.2.2.2.1 d.2.2.2.2.2.2.2.2;rw[eb];simp only[Option.bind_some];by_cases hk:(k.1 != 0)=true
 ·rw[if_pos hk];rcases V with⟨q,-⟩ | ⟨-,q⟩
  ·exact absurd (show k.1=0 from q) (by simpa using hk)
  ·simp only at q;rw[q];rfl
 rw[if_neg hk];have rb:RB b:=(V.resolve_right fun h=>by simp at hk;exact h.1 hk).2;obtain⟨t,et,tb,tl⟩:=GR (l:=N) (by omega) hx;obtain⟨ec,hc⟩:=EL A h1 h2 h3 h4 h5;obtain⟨p,ep,f,X⟩:=LL rb tb (by omega);have Y:=hc (j % 2) (by omega) (by omega) A;have l0:=(X _ Y).2;have B:=f.Mp (by omega);have hl:=B.1;obtain⟨m,em,hm⟩:=EZ f.HW hl p.2;have a1:=(Hd f (1+u,1+v % 64,j % 2,x,z,A)).2;have hw:=GA f.HW hl (c:=(1+u,1+v % 64,j % 2,x,z,A)) (by simp only;omega) hm (l:=(LF p.1 p.2 (1+u,1+v % 64,j % 2,x,z,A)).1) (by omega) (K5 f _) (GF f _) (Km f B (Bq Y)) (LF p.1 p.2 (1+u,1+v % 64,j % 2,x,z,A)).2;have hz:(((ri p.1 (t.length:Int) (LF p.1 p.2 (1+u,1+v % 64,j % 2,x,z,A)).1).length:Int) == 0)=false:=by have:=Em p.1 (t.length:Int) (LF p.1 p.2 (1+u,1+v % 64,j % 2,x,z,A)).1;rw[beq_eq_false_iff_ne];omega
 simp only at l0;rw[et,ec];simp only[Option.bind_some,Jl];rw[l0,ep];simp only[Option.bind_some,bne_self_eq_false,Bool.false_eq_true,if_false,hz];rw[em];simp only[Option.bind_some];rw[hw];simp only[Option.bind_some,BEq.rfl]
abbrev gC:List Ty:=[Ma,(.prod (.int .u8) (.prod (.int .u8) (.prod (.int .u8) (.prod (.int .u16) (.prod (.int .u16) .flt))))),(.slice (.int .u8))]
theorem wL(x:Kw gC)(e:Lu gC x):cV x.1.1.1 x.1.1.2.1 x.1.1.2.2.1 x.1.1.2.2.2.1 x.1.1.2.2.2.2 x.1.2.1.1 x.1.2.1.2.1 x.1.2.1.2.2.1 x.1.2.1.2.2.2.1 x.1.2.1.2.2.2.2 x.1.2.2.1 x.1.2.2.2.1 x.1.2.2.2.2.1 x.1.2.2.2.2.2.1 x.1.2.2.2.2.2.2.1 x.1.2.2.2.2.2.2.2 x.2.1.1 x.2.1.2.1 x.2.1.2.2.1 x.2.1.2.2.2.1 x.2.1.2.2.2.2.1 x.2.1.2.2.2.2.2 x.2.2.1=some true :=
 yP _ (Ib e.1) e.2.1.1 e.2.1.2.1 e.2.1.2.2.1 e.2.1.2.2.2.1 e.2.1.2.2.2.2.1 (Br e.2.2.1)
end
end Go.Proofs.YtflahpmlcfhpcaaGreatDoor.T
