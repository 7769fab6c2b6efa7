import Derived.Test.YtobbjfkfmdiklaaGreatDoorTv50fm
namespace Go.Proofs.YtobbjfkfmdiklaaGreatDoor.T
open Go Go.Tv Go.Proofs
noncomputable section
structure OM(m:Nat)(o:QK):Prop where
 len:o.length=m+1
 val:∀i,0≤o.getD i 0∧o.getD i 0≤3
 last:o.getD m 0=2
 zero:0<m→o.getD 0 0=0
theorem Gi{s:Qx}(hs:s.length≤4096){f:QK}(hb:HH s.length f)(j:List Bool){st:QK}(a2:st.length≤s.length)(V:∀i,i<st.length→0≤st.getD i 0∧st.getD i 0<(s.length:Int))(h0:0<st.length→st.getD 0 0=0):
  ∃o,iter (cu s f j (st++[(s.length:Int)])) (([]:QK),(0:Int))=some o∧OM st.length o:=by
 obtain⟨Z,b2,b3⟩:=hb;refine dP (fun z:QK×Int=>∃k:Nat,z.2=(k:Int)∧k≤st.length+1∧z.1.length=k∧(∀i,0≤z.1.getD i 0∧z.1.getD i 0≤3)∧(k=st.length+1→z.1.getD st.length 0=2)∧(0<st.length→0<k→z.1.getD 0 0=0)) (fun z=>st.length+1 - z.2.toNat) _ ?_
  ⟨0,rfl,by omega,rfl,fun i=>by simp,fun h=>by omega,fun _ h=>by omega⟩
 rintro⟨o,v⟩ ⟨k,rfl,hk,hl,X,E,hz⟩;simp only at hl X E hz;have B:(st++[(s.length:Int)]).length=st.length+1:=by simp
 by_cases a3:k<st.length+1
 ·left
  have D:(k:Int)<((st++[(s.length:Int)]).length:Int):=by rw[B];omega
  have L:0≤(k:Int):=by omega
  have g:∀x:Int,(o.length+([x]:QK).length)*1≤140737488355328∧o.length+([x]:QK).length≤9223372036854775807:=fun x=>by simp;omega
  have M:IntKind.i64.wrap ((k:Int)+1)=((k+1:Nat):Int):=bF (by omega);have p:∀x:Int,cu s f j (st++[(s.length:Int)]) (o,(k:Int))=some (.inl (o++[x],((k+1:Nat):Int)))→0≤x→x≤3→(k=st.length→x=2)→(k<st.length→k=0→x=0) →
    ∃y,cu s f j (st++[(s.length:Int)]) (o,(k:Int))=some (.inl y)∧(∃k:Nat,y.2=(k:Int)∧k≤st.length+1∧y.1.length=k∧(∀i,0≤y.1.getD i 0∧y.1.getD i 0≤3)∧(k=st.length+1→y.1.getD st.length 0=2)∧(0<st.length→0<k→y.1.getD 0 0=0))∧st.length+1 - y.2.toNat<st.length+1 - (k:Int).toNat:=fun x he x0 x3 xl xz=>by
   refine⟨_,he,⟨k+1,rfl,by omega,by simp[hl],fun i=>?_,fun e=>?_,fun hp _=>?_⟩,by simp only[Int.toNat_natCast];omega⟩
   ·simp only;rw[lD];split
    ·exact X i
    ·split
     ·exact⟨x0,x3⟩
     ·omega
   ·simp only;rw[lD,if_neg (by omega),if_pos (by omega)];exact xl (by omega)
   ·simp only;rw[lD];by_cases e:k=0
    ·rw[if_neg (by omega),if_pos (by omega)];exact xz (by omega) e
    ·rw[if_pos (by omega)];exact hz hp (by omega)
  by_cases q:k=st.length
  ·have I:(st++[(s.length:Int)]).getD k 0=(s.length:Int):=by rw[q];exact lz _ _ _
   have J:((s.length:Int) == (s.length:Int))=true:=by simp
   refine p 2 ?_ (by omega) (by omega) (fun _=>rfl) (fun h=>by omega);simp only[cu,D,L,I,J,g,M,and_self,decide_true,if_true,Option.bind,Int.toNat_natCast]
  ·have I:(st++[(s.length:Int)]).getD k 0=st.getD k 0:=by rw[lD,if_pos (by omega)]
   obtain⟨a0,a1⟩:=V k (by omega);have J:(st.getD k 0 == (s.length:Int))=false:=by rw[beq_eq_false_iff_ne];omega
   by_cases C:st.getD k 0=0
   ·have N:(st.getD k 0 == 0)=true:=by rw[C];rfl
    refine p 0 ?_ (by omega) (by omega) (fun h=>absurd h q) (fun _ _=>rfl);simp only[cu,D,L,I,J,N,g,M,and_self,decide_true,if_true,Option.bind,Int.toNat_natCast,Bool.false_eq_true,if_false]
   ·have N:(st.getD k 0 == 0)=false:=by rw[beq_eq_false_iff_ne];exact C
    have e3:¬(st.getD k 0≥(f.length:Int)):=by rw[Z];omega
    have e4:st.getD k 0<(f.length:Int):=by rw[Z];omega
    have A:k=0→False:=fun e=>by subst e;exact C (h0 (by omega))
    obtain⟨v0,v1⟩:=b3 (st.getD k 0).toNat;have u:∀(hh:((if(f.getD (st.getD k 0).toNat 0 == 0)=true then(if decide (st.getD k 0<(j.length:Int))=true then(if True∧st.getD k 0<(j.length:Int)then some (j.getD (st.getD k 0).toNat false)else none)else some false)else some false):Option Bool)=some false),
      cu s f j (st++[(s.length:Int)]) (o,(k:Int))=some (.inl (o++[f.getD (st.getD k 0).toNat 0],((k+1:Nat):Int))):=fun hh=>by
     simp only[cu,D,L,I,J,N,e3,e4,a0,and_self,decide_true,decide_false,if_true,Int.toNat_natCast,Bool.false_eq_true,if_false];rw[hh];simp only[Option.bind,g,M,and_self,if_true,Bool.false_eq_true,if_false]
    by_cases O:(f.getD (st.getD k 0).toNat 0 == 0)=true
    ·by_cases Y:st.getD k 0<(j.length:Int)
     ·cases e7:j.getD (st.getD k 0).toNat false with
      | true =>
       refine p 3 ?_ (by omega) (by omega) (fun h=>absurd h q) (fun _ h=>(A h).elim);simp only[cu,D,L,I,J,N,e3,e4,O,Y,e7,a0,g,M,and_self,decide_true,decide_false,if_true,Option.bind,Int.toNat_natCast,Bool.false_eq_true,if_false]
      | false =>
       refine p _ (u ?_) v0 (by omega) (fun h=>absurd h q) (fun _ h=>(A h).elim);simp only[O,Y,e7,decide_true,and_self,if_true]
     ·refine p _ (u ?_) v0 (by omega) (fun h=>absurd h q) (fun _ h=>(A h).elim);simp only[O,Y,decide_false,Bool.false_eq_true,if_true,if_false]
    ·refine p _ (u ?_) v0 (by omega) (fun h=>absurd h q) (fun _ h=>(A h).elim);simp only[O,Bool.false_eq_true,if_false]
 ·right
  obtain rfl:k=st.length+1:=by omega
  refine⟨o,?_,⟨hl,X,E rfl,fun h=>hz h (by omega)⟩⟩;have D:¬(((st.length+1:Nat):Int)<((st++[(s.length:Int)]).length:Int)):=by rw[B];omega
  simp only[cu,D,decide_false,Bool.false_eq_true,if_false]
structure PM(n:Int)(p:Qk×QK):Prop where
 Jj:pK 0 p.1 n
 len:(p.1.length:Int)≤n
 pos:0<n→0<p.1.length
 Ji:OM p.1.length p.2
abbrev c0:bV:=(0,(0,(0,0)))
def tH(c:bV)(f j:Int):Int:=if c.2.2.2=2 then f+j - f % j else f+c.2.2.1
def qB(c:bV):Bool:=c.2.2.2 == 1 || (c.2.2.2 == 0 && c.2.2.1 == 0)
theorem uK{c:bV}{f j:Int}(p:0≤f)(h1:f≤1000000000)(u:1≤j)(v:j≤64)(z:0≤c.2.2.1)(A:c.2.2.1≤2):
  jl c.1 c.2.1 c.2.2.1 c.2.2.2 f j=some (tH c f j)∧f≤tH c f j∧tH c f j≤f+64:=by
 have hm:=Int.emod_nonneg f (show j≠0 by omega);have q:=Int.emod_lt_of_pos f (show 0<j by omega);unfold jl tH;by_cases hk:c.2.2.2=2
 ·rw[if_pos (by rw[hk];rfl),if_pos (by omega),if_pos hk,Int.tmod_eq_emod_of_nonneg p,wrap_i64 (x:=f+j) (by omega) (by omega),wrap_i64 (by omega) (by omega)];exact⟨rfl,by omega,by omega⟩
 ·rw[if_neg (by simpa using hk),if_neg hk,wrap_i64 (by omega) (by omega)];exact⟨rfl,by omega,by omega⟩
theorem empty_eq(c:bV):kQ c.1 c.2.1 c.2.2.1 c.2.2.2=some (qB c):=by
 unfold kQ qB;by_cases h1:c.2.2.2=1
 ·simp[h1]
 ·by_cases h2:c.2.2.2=0
  ·simp[h2]
  ·simp[h1,h2]
def dL(cl:Qk)(fr:Nat):Nat→Nat
 | 0=>0
 | n+1=>if fr<n+1∧qB (cl.getD n c0)=true then dL cl fr n else n+1
theorem pw{cl:Qk}(o:QK){fr:Nat}:∀ {j:Nat},fr≤j→j≤cl.length→j≤1000000→fx cl o (fr:Int) (j:Int)=some (dL cl fr j:Int)∧fr≤dL cl fr j∧dL cl fr j≤j:=by
 intro j;induction j with
 | zero =>
  intro h1 _ _;obtain rfl:fr=0:=by omega
  refine⟨?_,by simp[dL],by simp[dL]⟩;unfold fx;rw[cr (r:=(0:Int)) (by simp[eJ])];rfl
 | succ n z =>
  intro h1 h2 E;by_cases B:fr<n+1
  ·have q:((n+1:Nat):Int) > (fr:Int):=by omega
   have u:IntKind.i64.wrap (((n+1:Nat):Int) - 1)=(n:Int):=kP (by omega);have v:0≤(n:Int):=by omega
   have x:(n:Int)<(cl.length:Int):=by omega
   by_cases p:qB (cl.getD n c0)=true
   ·have st:eJ cl (fr:Int) ((n+1:Nat):Int)=some (.inl (n:Int)):=by simp only[eJ,q,u,v,x,and_self,decide_true,if_true,Int.toNat_natCast,empty_eq,Option.bind,p]
    obtain⟨C,D,I⟩:=z (by omega) (by omega) (by omega);have f:dL cl fr (n+1)=dL cl fr n:=by simp only[dL];rw[if_pos ⟨B,p⟩]
    refine⟨?_,by rw[f];exact D,by rw[f];omega⟩;rw[f,←C];unfold fx;rw[dO st]
   ·have st:eJ cl (fr:Int) ((n+1:Nat):Int)=some (.inr ((n+1:Nat):Int)):=by simp only[eJ,q,u,v,x,and_self,decide_true,if_true,Int.toNat_natCast,empty_eq,Option.bind,p,Bool.false_eq_true,if_false]
    have f:dL cl fr (n+1)=n+1:=by simp only[dL];rw[if_neg (fun h=>p h.2)]
    refine⟨?_,by rw[f];omega,by rw[f];omega⟩;rw[f];unfold fx;rw[cr st];rfl
  ·obtain rfl:fr=n+1:=by omega
   have f:dL cl (n+1) (n+1)=n+1:=by simp only[dL];rw[if_neg (fun h=>by omega)]
   refine⟨?_,by rw[f];omega,by rw[f];omega⟩;rw[f];unfold fx;rw[cr (r:=((n+1:Nat):Int)) (by simp[eJ])];rfl
def zF(cl:Qk):Prop:=cl.length≤4096∧∀i,0≤(cl.getD i c0).2.2.1∧(cl.getD i c0).2.2.1≤2
def qD(cl:Qk)(f:Int)(fr:Nat):Nat→Int
 | 0=>0
 | k+1=>tH (cl.getD (fr+k) c0) (qD cl f fr k) f
theorem sr{cl:Qk}(hc:zF cl){f:Int}(j:1≤f)(p:f≤64)(fr:Nat):∀k,k≤4096→0≤qD cl f fr k∧qD cl f fr k≤64*(k:Int)
 | 0,_=>by simp[qD]
 | k+1,hk=>by
  obtain⟨q,h1⟩:=sr hc j p fr k (by omega);obtain⟨-,h2,u⟩:=uK (c:=cl.getD (fr+k) c0) q (by omega) j p (hc.2 _).1 (hc.2 _).2;simp only[qD];omega
def oo(j:Qk)(f:Int)(p:Nat):Nat→QK
 | 0=>[0]
 | k+1=>oo j f p k++[qD j f p (k+1)]
theorem px(cl:Qk)(f:Int)(j:Nat):∀k,(oo cl f j k).length=k+1
 | 0=>rfl
 | k+1=>by simp[oo,px cl f j k]
theorem sN(cl:Qk)(f:Int)(j:Nat):∀k i,i≤k→(oo cl f j k).getD i 0=qD cl f j i
 | 0,i,h=>by
  obtain rfl:i=0:=by omega
  rfl
 | k+1,i,h=>by
  simp only[oo];rw[lD,px];by_cases e:i<k+1
  ·rw[if_pos e];exact sN cl f j k i (by omega)
  ·obtain rfl:i=k+1:=by omega
   rw[if_neg e,if_pos rfl]
theorem Cd{cl:Qk}(hc:zF cl)(o:QK){f:Int}(u:1≤f)(v:f≤64){j p:Nat}(h1:j≤p)(h2:p≤cl.length):kr cl o (j:Int) (p:Int) f=some (oo cl f j (p - j)):=by
 have hl:=hc.1;have z:iter (fL cl (p:Int) f) (oo cl f j 0,((j+0:Nat):Int))=some (oo cl f j (p - j)):=by
  refine ib (fun k=>(oo cl f j k,((j+k:Nat):Int))) (p - j) (fun k hk=>?_) ?_
  ·obtain⟨A,N⟩:=sr hc u v j k (by omega);obtain⟨B,-,-⟩:=uK (c:=cl.getD (j+k) c0) A (by omega) u v (hc.2 _).1 (hc.2 _).2;have q:((j+k:Nat):Int)<(p:Int):=by omega
   have C:0≤((j+k:Nat):Int):=by omega
   have D:((j+k:Nat):Int)<(cl.length:Int):=by omega
   have E:IntKind.i64.wrap (((k+1:Nat):Int) - 1)=(k:Int):=kP (by omega);have I:0≤(k:Int):=by omega
   have J:(k:Int)<((k+1:Nat):Int):=by omega
   have L:k<k+1:=by omega
   have M:(oo cl f j k).getD k 0=qD cl f j k:=sN _ _ _ _ _ (Nat.le_refl _);have g:∀x:Int,(k+1+([x]:QK).length)*8≤140737488355328∧k+1+([x]:QK).length≤9223372036854775807:=fun x=>by simp;omega
   simp only[fL,q,C,D,px,E,I,J,L,M,B,g,and_self,decide_true,if_true,Int.toNat_natCast,Option.bind,bF (show j+k≤9000000000000000000 by omega)];rfl
  ·have q:¬(((j+(p - j):Nat):Int)<(p:Int)):=by omega
   simp only[fL,q,decide_false,Bool.false_eq_true,if_false]
 exact congrArg (fun x=>Option.bind x fun o=>some o) z
def sU(cl:Qk)(f:Int)(j p:Nat)(e:Int):Int:=qD cl f j (dL cl j p - j)+(if e=3 then 1 else 0)
theorem pC{cl:Qk}(hc:zF cl)(o:QK){p:Int}(v:1≤p)(x:p≤64){f j:Nat}(h1:f≤j)(h2:j≤cl.length)(e:Int):
  ix cl o (f:Int) (j:Int) e p=some ((f:Int),((j:Int),(sU cl p f j e,e))):=by
 have hl:=hc.1;obtain⟨z,A,I⟩:=pw (cl:=cl) o h1 h2 (by omega);have q:=Cd hc o v x A (show dL cl f j≤cl.length by omega);obtain⟨J,L⟩:=sr hc v x f (dL cl f j - f) (by omega);have B:IntKind.i64.wrap (((dL cl f j - f+1:Nat):Int) - 1)=((dL cl f j - f:Nat):Int):=kP (by omega);have C:0≤((dL cl f j - f:Nat):Int):=by omega
 have D:((dL cl f j - f:Nat):Int)<((dL cl f j - f+1:Nat):Int):=by omega
 have E:=sN cl p f (dL cl f j - f) (dL cl f j - f) (Nat.le_refl _);unfold ix ic sU;simp only[z,q,Option.bind,px,B,C,D,and_self,if_true,Int.toNat_natCast,E];by_cases u:e=3
 ·subst u;simp only[BEq.rfl,if_true];rw[wrap_i64 (by omega) (by omega)]
 ·have:(e == 3)=false:=by rw[beq_eq_false_iff_ne];exact u
  simp only[this,u,if_false,Bool.false_eq_true,Int.add_zero]
theorem yR(cl:Qk){o:QK}{i:Nat}(h:i<o.length):ji cl o (i:Int)=some (o.getD i 0,o.getD i 0 != 0):=by
 unfold ji;rw[if_pos (by omega),if_pos (by omega),Int.toNat_natCast]
def Ch(j:Qk)(f:Int):Int→Qk→Int→Prop
 | a,[],n=>a=n
 | a,x::r,n=>x.1=a∧a<x.2.1∧0≤x.2.2.2∧x.2.2.2≤4∧x.2.2.1=sU j f a.toNat x.2.1.toNat x.2.2.2∧Ch j f x.2.1 r n
theorem Ch.append{p:Qk}{j:Int}:∀ {a m n:Int} {l k:Qk},Ch p j a l m→Ch p j m k n→Ch p j a (l++k) n
 | a,m,n,[],k,h,h'=>by simp only[Ch]at h;subst h;exact h'
 | a,m,n,x::l,k,h,h'=>⟨h.1,h.2.1,h.2.2.1,h.2.2.2.1,h.2.2.2.2.1,h.2.2.2.2.2.append h'⟩
theorem Ch.range{j:Qk}{f:Int}:∀ {a n:Int} {l:Qk},Ch j f a l n→a+(l.length:Int)≤n
 | a,n,[],h=>by simp only[Ch]at h;simp;omega
 | a,n,x::l,h=>by
  have:=h.2.2.2.2.2.range;have:=h.2.1;simp only[List.length_cons];omega
def eT(o:QK):Nat→QK
 | 0=>[]
 | k+1=>if o.getD k 0=2 then eT o k++[(k:Int)]else eT o k
theorem qp(o:QK):∀k,(eT o k).length≤k
 | 0=>by simp[eT]
 | k+1=>by
  have:=qp o k;simp only[eT];split
  ·simp;omega
  ·omega
theorem parts_eq(q:Qk){o:QK}(hl:o.length≤5000):lI q o=some (eT o o.length):=by
 have u:iter (fg o) (eT o 0,((0:Nat):Int))=some (eT o o.length):=by
  refine ib (fun k=>(eT o k,(k:Int))) o.length (fun k hk=>?_) ?_
  ·have h:=qp o k;have f:(k:Int)<(o.length:Int):=by omega
   have p:0≤(k:Int):=by omega
   by_cases e:o.getD k 0=2
   ·have j:(o.getD k 0 == 2)=true:=by rw[e];rfl
    simp only[fg,f,p,j,and_self,decide_true,if_true,Int.toNat_natCast,List.length_singleton];rw[if_pos (by omega)];simp only[Option.bind_some,bF (show k≤9000000000000000000 by omega),eT,e,if_true]
   ·have j:(o.getD k 0 == 2)=false:=by rw[beq_eq_false_iff_ne];exact e
    simp only[fg,f,p,j,and_self,decide_true,if_true,Int.toNat_natCast,Bool.false_eq_true,if_false,Option.bind_some,bF (show k≤9000000000000000000 by omega),eT,e]
  ·have f:¬((o.length:Int)<(o.length:Int)):=by omega
   simp only[fg,f,decide_false,Bool.false_eq_true,if_false]
 exact congrArg (fun x=>Option.bind x fun o=>some o) u
theorem Ch.get{q:Qk}{f:Int}:∀ {a n:Int} {l:Qk} {k:Nat},Ch q f a l n→k<l.length→a≤(l.getD k c0).1∧(l.getD k c0).1<(l.getD k c0).2.1∧(l.getD k c0).2.1≤n
 | a,n,x::l,0,h,_=>by
  have:=h.2.2.2.2.2.range;have h1:=h.1;have h2:=h.2.1;simp only[List.getD_cons_zero];omega
 | a,n,x::l,k+1,h,hk=>by
  have h2:=h.2.1;have:=h.2.2.2.2.2.get (show k<l.length by simpa using hk);simp only[List.getD_cons_succ];omega
end
end Go.Proofs.YtobbjfkfmdiklaaGreatDoor.T
