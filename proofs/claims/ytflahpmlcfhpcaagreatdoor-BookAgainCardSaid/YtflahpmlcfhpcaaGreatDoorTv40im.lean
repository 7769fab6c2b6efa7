import Derived.Test.YtflahpmlcfhpcaaGreatDoorTv40fm
namespace Go.Proofs.YtflahpmlcfhpcaaGreatDoor.T
open Go Go.Tv Go.Proofs
noncomputable section
structure OM(m:Nat)(o:QK):Prop where
 len:o.length=m+1
 val:∀i,0≤o.getD i 0∧o.getD i 0≤3
 last:o.getD m 0=2
 zero:0<m→o.getD 0 0=0
theorem G1{s:Qx}(hs:s.length≤4096){f:QK}(hb:Is s.length f)(j:List Bool){st:QK}(a2:st.length≤s.length)(X:∀i,i<st.length→0≤st.getD i 0∧st.getD i 0<(s.length:Int))(h0:0<st.length→st.getD 0 0=0):
  ∃o,iter (cC s f j (st++[(s.length:Int)])) (([]:QK),(0:Int))=some o∧OM st.length o:=by
 obtain⟨b1,b2,b3⟩:=hb;refine cW (fun z:QK×Int=>∃k:Nat,z.2=(k:Int)∧k≤st.length+1∧z.1.length=k∧(∀i,0≤z.1.getD i 0∧z.1.getD i 0≤3)∧(k=st.length+1→z.1.getD st.length 0=2)∧(0<st.length→0<k→z.1.getD 0 0=0)) (fun z=>st.length+1 - z.2.toNat) _ ?_
  ⟨0,rfl,by omega,rfl,fun i=>by simp,fun h=>by omega,fun _ h=>by omega⟩
 rintro⟨o,v⟩ ⟨k,rfl,hk,hl,Y,E,hz⟩;simp only at hl Y E hz;have u:(st++[(s.length:Int)]).length=st.length+1:=by simp
 by_cases a3:k<st.length+1
 ·left
  have D:(k:Int)<((st++[(s.length:Int)]).length:Int):=by rw[u];omega
  have L:0≤(k:Int):=by omega
  have M:k<(st++[(s.length:Int)]).length:=by rw[u];omega
  have g:∀x:Int,(o.length+([x]:QK).length)*1≤140737488355328∧o.length+([x]:QK).length≤9223372036854775807:=fun x=>by simp;omega
  have N:IntKind.i64.wrap ((k:Int)+1)=((k+1:Nat):Int):=bE (by omega);have p:∀x:Int,cC s f j (st++[(s.length:Int)]) (o,(k:Int))=some (.inl (o++[x],((k+1:Nat):Int)))→0≤x→x≤3→(k=st.length→x=2)→(k<st.length→k=0→x=0) →
    ∃y,cC s f j (st++[(s.length:Int)]) (o,(k:Int))=some (.inl y)∧(∃k:Nat,y.2=(k:Int)∧k≤st.length+1∧y.1.length=k∧(∀i,0≤y.1.getD i 0∧y.1.getD i 0≤3)∧(k=st.length+1→y.1.getD st.length 0=2)∧(0<st.length→0<k→y.1.getD 0 0=0))∧st.length+1 - y.2.toNat<st.length+1 - (k:Int).toNat:=fun x he x0 x3 xl xz=>by
   refine⟨_,he,⟨k+1,rfl,by omega,by simp[hl],fun i=>?_,fun e=>?_,fun hp _=>?_⟩,by simp only[Int.toNat_natCast];omega⟩
   ·simp only;rw[lh];split
    ·exact Y i
    ·split
     ·exact⟨x0,x3⟩
     ·omega
   ·simp only;rw[lh,if_neg (by omega),if_pos (by omega)];exact xl (by omega)
   ·simp only;rw[lh];by_cases e:k=0
    ·rw[if_neg (by omega),if_pos (by omega)];exact xz (by omega) e
    ·rw[if_pos (by omega)];exact hz hp (by omega)
  by_cases q:k=st.length
  ·have I:(st++[(s.length:Int)]).getD k 0=(s.length:Int):=by rw[q];exact lC _ _ _
   have J:((s.length:Int) == (s.length:Int))=true:=by simp
   refine p 2 ?_ (by omega) (by omega) (fun _=>rfl) (fun h=>by omega);simp only[cC,D,L,M,I,J,g,N,and_self,decide_true,if_true,Option.bind,Int.toNat_natCast]
  ·have I:(st++[(s.length:Int)]).getD k 0=st.getD k 0:=by rw[lh,if_pos (by omega)]
   obtain⟨a0,a1⟩:=X k (by omega);have J:(st.getD k 0 == (s.length:Int))=false:=by rw[beq_eq_false_iff_ne];omega
   by_cases C:st.getD k 0=0
   ·have O:(st.getD k 0 == 0)=true:=by rw[C];rfl
    refine p 0 ?_ (by omega) (by omega) (fun h=>absurd h q) (fun _ _=>rfl);simp only[cC,D,L,M,I,J,O,g,N,and_self,decide_true,if_true,Option.bind,Int.toNat_natCast,Bool.false_eq_true,if_false]
   ·have O:(st.getD k 0 == 0)=false:=by rw[beq_eq_false_iff_ne];exact C
    have e3:¬(st.getD k 0≥(f.length:Int)):=by rw[b1];omega
    have e4:st.getD k 0<(f.length:Int):=by rw[b1];omega
    have B:k=0→False:=fun e=>by subst e;exact C (h0 (by omega))
    obtain⟨v0,v1⟩:=b3 (st.getD k 0).toNat;have A:∀(hh:((if(f.getD (st.getD k 0).toNat 0 == 0)=true then(if decide (st.getD k 0<(j.length:Int))=true then(if True∧st.getD k 0<(j.length:Int)then some (j.getD (st.getD k 0).toNat false)else none)else some false)else some false):Option Bool)=some false),
      cC s f j (st++[(s.length:Int)]) (o,(k:Int))=some (.inl (o++[f.getD (st.getD k 0).toNat 0],((k+1:Nat):Int))):=fun hh=>by
     simp only[cC,D,L,M,I,J,O,e3,e4,a0,and_self,decide_true,decide_false,if_true,Int.toNat_natCast,Bool.false_eq_true,if_false];rw[hh];simp only[Option.bind,g,N,and_self,if_true,Bool.false_eq_true,if_false]
    by_cases V:(f.getD (st.getD k 0).toNat 0 == 0)=true
    ·by_cases Z:st.getD k 0<(j.length:Int)
     ·cases e7:j.getD (st.getD k 0).toNat false with
      | true =>
       refine p 3 ?_ (by omega) (by omega) (fun h=>absurd h q) (fun _ h=>(B h).elim);simp only[cC,D,L,M,I,J,O,e3,e4,V,Z,e7,a0,g,N,and_self,decide_true,decide_false,if_true,Option.bind,Int.toNat_natCast,Bool.false_eq_true,if_false]
      | false =>
       refine p _ (A ?_) v0 (by omega) (fun h=>absurd h q) (fun _ h=>(B h).elim);simp only[V,Z,e7,decide_true,and_self,if_true]
     ·refine p _ (A ?_) v0 (by omega) (fun h=>absurd h q) (fun _ h=>(B h).elim);simp only[V,Z,decide_false,Bool.false_eq_true,if_true,if_false]
    ·refine p _ (A ?_) v0 (by omega) (fun h=>absurd h q) (fun _ h=>(B h).elim);simp only[V,Bool.false_eq_true,if_false]
 ·right
  obtain rfl:k=st.length+1:=by omega
  refine⟨o,?_,⟨hl,Y,E rfl,fun h=>hz h (by omega)⟩⟩;have D:¬(((st.length+1:Nat):Int)<((st++[(s.length:Int)]).length:Int)):=by rw[u];omega
  simp only[cC,D,decide_false,Bool.false_eq_true,if_false]
structure PM(n:Int)(p:XZ×QK):Prop where
 Jk:sO 0 p.1 n
 len:(p.1.length:Int)≤n
 pos:0<n→0<p.1.length
 KW:OM p.1.length p.2
abbrev c0:cR:=(0,(0,(0,0)))
def tR(c:cR)(e f:Int):Int:=if c.2.2.2=2 then e+f - e % f else e+c.2.2.1
def qu(c:cR):Bool:=c.2.2.2 == 1 || (c.2.2.2 == 0 && c.2.2.1 == 0)
theorem uv{c:cR}{e f:Int}(j:0≤e)(q:e≤1000000000)(u:1≤f)(v:f≤64)(z:0≤c.2.2.1)(A:c.2.2.1≤2):
  jz c.1 c.2.1 c.2.2.1 c.2.2.2 e f=some (tR c e f)∧e≤tR c e f∧tR c e f≤e+64:=by
 have B:=Int.emod_nonneg e (show f≠0 by omega);have p:=Int.emod_lt_of_pos e (show 0<f by omega);unfold jz tR;by_cases hk:c.2.2.2=2
 ·rw[if_pos (by rw[hk];rfl),if_pos (by omega),if_pos hk,Int.tmod_eq_emod_of_nonneg j,wrap_i64 (x:=e+f) (by omega) (by omega),wrap_i64 (by omega) (by omega)];exact⟨rfl,by omega,by omega⟩
 ·rw[if_neg (by simpa using hk),if_neg hk,wrap_i64 (by omega) (by omega)];exact⟨rfl,by omega,by omega⟩
theorem empty_eq(c:cR):lj c.1 c.2.1 c.2.2.1 c.2.2.2=some (qu c):=by
 unfold lj qu;by_cases e:c.2.2.2=1
 ·simp[e]
 ·by_cases f:c.2.2.2=0
  ·simp[f]
  ·simp[e,f]
def dV(cl:XZ)(fr:Nat):Nat→Nat
 | 0=>0
 | n+1=>if fr<n+1∧qu (cl.getD n c0)=true then dV cl fr n else n+1
theorem qW{cl:XZ}(o:QK){fr:Nat}:∀ {f:Nat},fr≤f→f≤cl.length→f≤1000000→fS cl o (fr:Int) (f:Int)=some (dV cl fr f:Int)∧fr≤dV cl fr f∧dV cl fr f≤f:=by
 intro f;induction f with
 | zero =>
  intro x _ _;obtain rfl:fr=0:=by omega
  refine⟨?_,by simp[dV],by simp[dV]⟩;unfold fS;rw[dN (r:=(0:Int)) (by simp[eQ])];rfl
 | succ n z =>
  intro x D E;by_cases A:fr<n+1
  ·have p:((n+1:Nat):Int) > (fr:Int):=by omega
   have q:IntKind.i64.wrap (((n+1:Nat):Int) - 1)=(n:Int):=ll (by omega);have u:0≤(n:Int):=by omega
   have v:(n:Int)<(cl.length:Int):=by omega
   by_cases j:qu (cl.getD n c0)=true
   ·have st:eQ cl (fr:Int) ((n+1:Nat):Int)=some (.inl (n:Int)):=by simp only[eQ,p,q,u,v,and_self,decide_true,if_true,Int.toNat_natCast,empty_eq,Option.bind,j]
    obtain⟨B,C,I⟩:=z (by omega) (by omega) (by omega);have e:dV cl fr (n+1)=dV cl fr n:=by simp only[dV];rw[if_pos ⟨A,j⟩]
    refine⟨?_,by rw[e];exact C,by rw[e];omega⟩;rw[e,←B];unfold fS;rw[fR st]
   ·have st:eQ cl (fr:Int) ((n+1:Nat):Int)=some (.inr ((n+1:Nat):Int)):=by simp only[eQ,p,q,u,v,and_self,decide_true,if_true,Int.toNat_natCast,empty_eq,Option.bind,j,Bool.false_eq_true,if_false]
    have e:dV cl fr (n+1)=n+1:=by simp only[dV];rw[if_neg (fun h=>j h.2)]
    refine⟨?_,by rw[e];omega,by rw[e];omega⟩;rw[e];unfold fS;rw[dN st];rfl
  ·obtain rfl:fr=n+1:=by omega
   have e:dV cl (n+1) (n+1)=n+1:=by simp only[dV];rw[if_neg (fun h=>by omega)]
   refine⟨?_,by rw[e];omega,by rw[e];omega⟩;rw[e];unfold fS;rw[dN (r:=((n+1:Nat):Int)) (by simp[eQ])];rfl
def C5(cl:XZ):Prop:=cl.length≤4096∧∀i,0≤(cl.getD i c0).2.2.1∧(cl.getD i c0).2.2.1≤2
def qg(cl:XZ)(e:Int)(fr:Nat):Nat→Int
 | 0=>0
 | k+1=>tR (cl.getD (fr+k) c0) (qg cl e fr k) e
theorem rI{cl:XZ}(hc:C5 cl){e:Int}(f:1≤e)(j:e≤64)(fr:Nat):∀k,k≤4096→0≤qg cl e fr k∧qg cl e fr k≤64*(k:Int)
 | 0,_=>by simp[qg]
 | k+1,hk=>by
  obtain⟨p,q⟩:=rI hc f j fr k (by omega);obtain⟨-,u,v⟩:=uv (c:=cl.getD (fr+k) c0) p (by omega) f j (hc.2 _).1 (hc.2 _).2;simp only[qg];omega
def oG(f:XZ)(e:Int)(j:Nat):Nat→QK
 | 0=>[0]
 | k+1=>oG f e j k++[qg f e j (k+1)]
theorem po(cl:XZ)(e:Int)(f:Nat):∀k,(oG cl e f k).length=k+1
 | 0=>rfl
 | k+1=>by simp[oG,po cl e f k]
theorem sH(cl:XZ)(f:Int)(j:Nat):∀k i,i≤k→(oG cl f j k).getD i 0=qg cl f j i
 | 0,i,h=>by
  obtain rfl:i=0:=by omega
  rfl
 | k+1,i,h=>by
  simp only[oG];rw[lh,po];by_cases e:i<k+1
  ·rw[if_pos e];exact sH cl f j k i (by omega)
  ·obtain rfl:i=k+1:=by omega
   rw[if_neg e,if_pos rfl]
theorem Cm{cl:XZ}(hc:C5 cl)(o:QK){e:Int}(q:1≤e)(u:e≤64){f j:Nat}(M:f≤j)(N:j≤cl.length):kx cl o (f:Int) (j:Int) e=some (oG cl e f (j - f)):=by
 have hl:=hc.1;have v:iter (fP cl (j:Int) e) (oG cl e f 0,((f+0:Nat):Int))=some (oG cl e f (j - f)):=by
  refine gB (fun k=>(oG cl e f k,((f+k:Nat):Int))) (j - f) (fun k hk=>?_) ?_
  ·obtain⟨z,O⟩:=rI hc q u f k (by omega);obtain⟨A,-,-⟩:=uv (c:=cl.getD (f+k) c0) z (by omega) q u (hc.2 _).1 (hc.2 _).2;have p:((f+k:Nat):Int)<(j:Int):=by omega
   have B:0≤((f+k:Nat):Int):=by omega
   have C:((f+k:Nat):Int)<(cl.length:Int):=by omega
   have D:IntKind.i64.wrap (((k+1:Nat):Int) - 1)=(k:Int):=ll (by omega);have E:0≤(k:Int):=by omega
   have I:(k:Int)<((k+1:Nat):Int):=by omega
   have J:k<k+1:=by omega
   have L:(oG cl e f k).getD k 0=qg cl e f k:=sH _ _ _ _ _ (Nat.le_refl _);have g:∀x:Int,(k+1+([x]:QK).length)*8≤140737488355328∧k+1+([x]:QK).length≤9223372036854775807:=fun x=>by simp;omega
   simp only[fP,p,B,C,po,D,E,I,J,L,A,g,and_self,decide_true,if_true,Int.toNat_natCast,Option.bind,bE (show f+k≤9000000000000000000 by omega)];rfl
  ·have p:¬(((f+(j - f):Nat):Int)<(j:Int)):=by omega
   simp only[fP,p,decide_false,Bool.false_eq_true,if_false]
 exact congrArg (fun x=>Option.bind x fun o=>some o) v
def ve(cl:XZ)(f:Int)(j p:Nat)(e:Int):Int:=qg cl f j (dV cl j p - j)+(if e=3 then 1 else 0)
theorem sa{cl:XZ}(hc:C5 cl)(o:QK){p:Int}(v:1≤p)(x:p≤64){f j:Nat}(z:f≤j)(A:j≤cl.length)(e:Int):
  jn cl o (f:Int) (j:Int) e p=some ((f:Int),((j:Int),(ve cl p f j e,e))):=by
 have hl:=hc.1;obtain⟨B,C,L⟩:=qW (cl:=cl) o z A (by omega);have q:=Cm hc o v x C (show dV cl f j≤cl.length by omega);obtain⟨M,N⟩:=rI hc v x f (dV cl f j - f) (by omega);have D:IntKind.i64.wrap (((dV cl f j - f+1:Nat):Int) - 1)=((dV cl f j - f:Nat):Int):=ll (by omega);have E:0≤((dV cl f j - f:Nat):Int):=by omega
 have I:((dV cl f j - f:Nat):Int)<((dV cl f j - f+1:Nat):Int):=by omega
 have J:=sH cl p f (dV cl f j - f) (dV cl f j - f) (Nat.le_refl _);unfold jn nO ve;simp only[B,q,Option.bind,po,D,E,I,and_self,if_true,Int.toNat_natCast,J];by_cases u:e=3
 ·subst u;simp only[BEq.rfl,if_true];rw[wrap_i64 (by omega) (by omega)]
 ·have:(e == 3)=false:=by rw[beq_eq_false_iff_ne];exact u
  simp only[this,u,if_false,Bool.false_eq_true,Int.add_zero]
theorem DC(cl:XZ){o:QK}{i:Nat}(h:i<o.length):kQ cl o (i:Int)=some (o.getD i 0,o.getD i 0 != 0):=by
 unfold kQ;rw[if_pos (by omega),if_pos (by omega),Int.toNat_natCast]
def Ch(f:XZ)(e:Int):Int→XZ→Int→Prop
 | a,[],n=>a=n
 | a,x::r,n=>x.1=a∧a<x.2.1∧0≤x.2.2.2∧x.2.2.2≤4∧x.2.2.1=ve f e a.toNat x.2.1.toNat x.2.2.2∧Ch f e x.2.1 r n
theorem Ch.append{j:XZ}{e:Int}:∀ {a m n:Int} {l k:XZ},Ch j e a l m→Ch j e m k n→Ch j e a (l++k) n
 | a,m,n,[],k,h,h'=>by simp only[Ch]at h;subst h;exact h'
 | a,m,n,x::l,k,h,h'=>⟨h.1,h.2.1,h.2.2.1,h.2.2.2.1,h.2.2.2.2.1,h.2.2.2.2.2.append h'⟩
theorem Ch.range{j:XZ}{f:Int}:∀ {a n:Int} {l:XZ},Ch j f a l n→a+(l.length:Int)≤n
 | a,n,[],h=>by simp only[Ch]at h;simp;omega
 | a,n,x::l,h=>by
  have:=h.2.2.2.2.2.range;have:=h.2.1;simp only[List.length_cons];omega
def gh(o:QK):Nat→QK
 | 0=>[]
 | k+1=>if o.getD k 0=2 then gh o k++[(k:Int)]else gh o k
theorem qq(o:QK):∀k,(gh o k).length≤k
 | 0=>by simp[gh]
 | k+1=>by
  have:=qq o k;simp only[gh];split
  ·simp;omega
  ·omega
theorem parts_eq(q:XZ){o:QK}(hl:o.length≤5000):lZ q o=some (gh o o.length):=by
 have u:iter (fB o) (gh o 0,((0:Nat):Int))=some (gh o o.length):=by
  refine gB (fun k=>(gh o k,(k:Int))) o.length (fun k hk=>?_) ?_
  ·have h:=qq o k;have f:(k:Int)<(o.length:Int):=by omega
   have p:0≤(k:Int):=by omega
   by_cases e:o.getD k 0=2
   ·have j:(o.getD k 0 == 2)=true:=by rw[e];rfl
    simp only[fB,f,p,j,and_self,decide_true,if_true,Int.toNat_natCast,List.length_singleton];rw[if_pos (by omega)];simp only[Option.bind_some,bE (show k≤9000000000000000000 by omega),gh,e,if_true]
   ·have j:(o.getD k 0 == 2)=false:=by rw[beq_eq_false_iff_ne];exact e
    simp only[fB,f,p,j,and_self,decide_true,if_true,Int.toNat_natCast,Bool.false_eq_true,if_false,Option.bind_some,bE (show k≤9000000000000000000 by omega),gh,e]
  ·have f:¬((o.length:Int)<(o.length:Int)):=by omega
   simp only[fB,f,decide_false,Bool.false_eq_true,if_false]
 exact congrArg (fun x=>Option.bind x fun o=>some o) u
theorem Ch.get{f:XZ}{e:Int}:∀ {a n:Int} {l:XZ} {k:Nat},Ch f e a l n→k<l.length→a≤(l.getD k c0).1∧(l.getD k c0).1<(l.getD k c0).2.1∧(l.getD k c0).2.1≤n
 | a,n,x::l,0,h,_=>by
  have:=h.2.2.2.2.2.range;have q:=h.1;have j:=h.2.1;simp only[List.getD_cons_zero];omega
 | a,n,x::l,k+1,h,hk=>by
  have j:=h.2.1;have:=h.2.2.2.2.2.get (show k<l.length by simpa using hk);simp only[List.getD_cons_succ];omega
end
end Go.Proofs.YtflahpmlcfhpcaaGreatDoor.T
