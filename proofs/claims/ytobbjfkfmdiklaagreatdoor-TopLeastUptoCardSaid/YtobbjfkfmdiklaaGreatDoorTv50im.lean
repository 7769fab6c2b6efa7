import Derived.Test.YtobbjfkfmdiklaaGreatDoorTv50fm
namespace Go.Proofs.YtobbjfkfmdiklaaGreatDoor.T
open Go Go.Tv Go.Proofs
noncomputable section
structure OM(m:Nat)(o:QK):Prop where
 len:o.length=m+1
 val:∀i,0≤o.getD i 0∧o.getD i 0≤3
 last:o.getD m 0=2
 zero:0<m→o.getD 0 0=0
theorem Gt{s:Qx}(hs:s.length≤4096){f:QK}(hb:IH s.length f)(j:List Bool){st:QK}(a2:st.length≤s.length)(V:∀i,i<st.length→0≤st.getD i 0∧st.getD i 0<(s.length:Int))(h0:0<st.length→st.getD 0 0=0):
  ∃o,iter (cv s f j (st++[(s.length:Int)])) (([]:QK),(0:Int))=some o∧OM st.length o:=by
 obtain⟨Z,b2,b3⟩:=hb;refine dh (fun z:QK×Int=>∃k:Nat,z.2=(k:Int)∧k≤st.length+1∧z.1.length=k∧(∀i,0≤z.1.getD i 0∧z.1.getD i 0≤3)∧(k=st.length+1→z.1.getD st.length 0=2)∧(0<st.length→0<k→z.1.getD 0 0=0)) (fun z=>st.length+1 - z.2.toNat) _ ?_
  ⟨0,rfl,by omega,rfl,fun i=>by simp,fun h=>by omega,fun _ h=>by omega⟩
 rintro⟨o,v⟩ ⟨k,rfl,hk,hl,X,E,hz⟩;simp only at hl X E hz;have B:(st++[(s.length:Int)]).length=st.length+1:=by simp
 by_cases a3:k<st.length+1
 ·left
  have D:(k:Int)<((st++[(s.length:Int)]).length:Int):=by rw[B];omega
  have L:0≤(k:Int):=by omega
  have g:∀x:Int,(o.length+([x]:QK).length)*1≤140737488355328∧o.length+([x]:QK).length≤9223372036854775807:=fun x=>by simp;omega
  have M:IntKind.i64.wrap ((k:Int)+1)=((k+1:Nat):Int):=bD (by omega);have p:∀x:Int,cv s f j (st++[(s.length:Int)]) (o,(k:Int))=some (.inl (o++[x],((k+1:Nat):Int)))→0≤x→x≤3→(k=st.length→x=2)→(k<st.length→k=0→x=0) →
    ∃y,cv s f j (st++[(s.length:Int)]) (o,(k:Int))=some (.inl y)∧(∃k:Nat,y.2=(k:Int)∧k≤st.length+1∧y.1.length=k∧(∀i,0≤y.1.getD i 0∧y.1.getD i 0≤3)∧(k=st.length+1→y.1.getD st.length 0=2)∧(0<st.length→0<k→y.1.getD 0 0=0))∧st.length+1 - y.2.toNat<st.length+1 - (k:Int).toNat:=fun x he x0 x3 xl xz=>by
   refine⟨_,he,⟨k+1,rfl,by omega,by simp[hl],fun i=>?_,fun e=>?_,fun hp _=>?_⟩,by simp only[Int.toNat_natCast];omega⟩
   ·simp only;rw[lr];split
    ·exact X i
    ·split
     ·exact⟨x0,x3⟩
     ·omega
   ·simp only;rw[lr,if_neg (by omega),if_pos (by omega)];exact xl (by omega)
   ·simp only;rw[lr];by_cases e:k=0
    ·rw[if_neg (by omega),if_pos (by omega)];exact xz (by omega) e
    ·rw[if_pos (by omega)];exact hz hp (by omega)
  by_cases q:k=st.length
  ·have I:(st++[(s.length:Int)]).getD k 0=(s.length:Int):=by rw[q];exact lI _ _ _
   have J:((s.length:Int) == (s.length:Int))=true:=by simp
   refine p 2 ?_ (by omega) (by omega) (fun _=>rfl) (fun h=>by omega);simp only[cv,D,L,I,J,g,M,and_self,decide_true,if_true,Option.bind,Int.toNat_natCast]
  ·have I:(st++[(s.length:Int)]).getD k 0=st.getD k 0:=by rw[lr,if_pos (by omega)]
   obtain⟨a0,a1⟩:=V k (by omega);have J:(st.getD k 0 == (s.length:Int))=false:=by rw[beq_eq_false_iff_ne];omega
   by_cases C:st.getD k 0=0
   ·have N:(st.getD k 0 == 0)=true:=by rw[C];rfl
    refine p 0 ?_ (by omega) (by omega) (fun h=>absurd h q) (fun _ _=>rfl);simp only[cv,D,L,I,J,N,g,M,and_self,decide_true,if_true,Option.bind,Int.toNat_natCast,Bool.false_eq_true,if_false]
   ·have N:(st.getD k 0 == 0)=false:=by rw[beq_eq_false_iff_ne];exact C
    have e3:¬(st.getD k 0≥(f.length:Int)):=by rw[Z];omega
    have e4:st.getD k 0<(f.length:Int):=by rw[Z];omega
    have A:k=0→False:=fun e=>by subst e;exact C (h0 (by omega))
    obtain⟨v0,v1⟩:=b3 (st.getD k 0).toNat;have u:∀(hh:((if(f.getD (st.getD k 0).toNat 0 == 0)=true then(if decide (st.getD k 0<(j.length:Int))=true then(if True∧st.getD k 0<(j.length:Int)then some (j.getD (st.getD k 0).toNat false)else none)else some false)else some false):Option Bool)=some false),
      cv s f j (st++[(s.length:Int)]) (o,(k:Int))=some (.inl (o++[f.getD (st.getD k 0).toNat 0],((k+1:Nat):Int))):=fun hh=>by
     simp only[cv,D,L,I,J,N,e3,e4,a0,and_self,decide_true,decide_false,if_true,Int.toNat_natCast,Bool.false_eq_true,if_false];rw[hh];simp only[Option.bind,g,M,and_self,if_true,Bool.false_eq_true,if_false]
    by_cases O:(f.getD (st.getD k 0).toNat 0 == 0)=true
    ·by_cases Y:st.getD k 0<(j.length:Int)
     ·cases e7:j.getD (st.getD k 0).toNat false with
      | true =>
       refine p 3 ?_ (by omega) (by omega) (fun h=>absurd h q) (fun _ h=>(A h).elim);simp only[cv,D,L,I,J,N,e3,e4,O,Y,e7,a0,g,M,and_self,decide_true,decide_false,if_true,Option.bind,Int.toNat_natCast,Bool.false_eq_true,if_false]
      | false =>
       refine p _ (u ?_) v0 (by omega) (fun h=>absurd h q) (fun _ h=>(A h).elim);simp only[O,Y,e7,decide_true,and_self,if_true]
     ·refine p _ (u ?_) v0 (by omega) (fun h=>absurd h q) (fun _ h=>(A h).elim);simp only[O,Y,decide_false,Bool.false_eq_true,if_true,if_false]
    ·refine p _ (u ?_) v0 (by omega) (fun h=>absurd h q) (fun _ h=>(A h).elim);simp only[O,Bool.false_eq_true,if_false]
 ·right
  obtain rfl:k=st.length+1:=by omega
  refine⟨o,?_,⟨hl,X,E rfl,fun h=>hz h (by omega)⟩⟩;have D:¬(((st.length+1:Nat):Int)<((st++[(s.length:Int)]).length:Int)):=by rw[B];omega
  simp only[cv,D,decide_false,Bool.false_eq_true,if_false]
structure PM(n:Int)(p:Qw×QK):Prop where
 KD:sQ 0 p.1 n
 len:(p.1.length:Int)≤n
 pos:0<n→0<p.1.length
 Hp:OM p.1.length p.2
abbrev c0:bK:=(0,(0,(0,0)))
def uo(c:bK)(f j:Int):Int:=if c.2.2.2=2 then f+j - f % j else f+c.2.2.1
def qz(c:bK):Bool:=c.2.2.2 == 1 || (c.2.2.2 == 0 && c.2.2.1 == 0)
theorem sa{c:bK}{f j:Int}(p:0≤f)(h1:f≤1000000000)(u:1≤j)(v:j≤64)(z:0≤c.2.2.1)(A:c.2.2.1≤2):
  jD c.1 c.2.1 c.2.2.1 c.2.2.2 f j=some (uo c f j)∧f≤uo c f j∧uo c f j≤f+64:=by
 have hm:=Int.emod_nonneg f (show j≠0 by omega);have q:=Int.emod_lt_of_pos f (show 0<j by omega);unfold jD uo;by_cases hk:c.2.2.2=2
 ·rw[if_pos (by rw[hk];rfl),if_pos (by omega),if_pos hk,Int.tmod_eq_emod_of_nonneg p,wrap_i64 (x:=f+j) (by omega) (by omega),wrap_i64 (by omega) (by omega)];exact⟨rfl,by omega,by omega⟩
 ·rw[if_neg (by simpa using hk),if_neg hk,wrap_i64 (by omega) (by omega)];exact⟨rfl,by omega,by omega⟩
theorem empty_eq(c:bK):lN c.1 c.2.1 c.2.2.1 c.2.2.2=some (qz c):=by
 unfold lN qz;by_cases h1:c.2.2.2=1
 ·simp[h1]
 ·by_cases h2:c.2.2.2=0
  ·simp[h2]
  ·simp[h1,h2]
def dN(cl:Qw)(fr:Nat):Nat→Nat
 | 0=>0
 | n+1=>if fr<n+1∧qz (cl.getD n c0)=true then dN cl fr n else n+1
theorem pT{cl:Qw}(o:QK){fr:Nat}:∀ {j:Nat},fr≤j→j≤cl.length→j≤1000000→fy cl o (fr:Int) (j:Int)=some (dN cl fr j:Int)∧fr≤dN cl fr j∧dN cl fr j≤j:=by
 intro j;induction j with
 | zero =>
  intro h1 _ _;obtain rfl:fr=0:=by omega
  refine⟨?_,by simp[dN],by simp[dN]⟩;unfold fy;rw[cR (r:=(0:Int)) (by simp[eO])];rfl
 | succ n z =>
  intro h1 h2 E;by_cases B:fr<n+1
  ·have q:((n+1:Nat):Int) > (fr:Int):=by omega
   have u:IntKind.i64.wrap (((n+1:Nat):Int) - 1)=(n:Int):=lQ (by omega);have v:0≤(n:Int):=by omega
   have x:(n:Int)<(cl.length:Int):=by omega
   by_cases p:qz (cl.getD n c0)=true
   ·have st:eO cl (fr:Int) ((n+1:Nat):Int)=some (.inl (n:Int)):=by simp only[eO,q,u,v,x,and_self,decide_true,if_true,Int.toNat_natCast,empty_eq,Option.bind,p]
    obtain⟨C,D,I⟩:=z (by omega) (by omega) (by omega);have f:dN cl fr (n+1)=dN cl fr n:=by simp only[dN];rw[if_pos ⟨B,p⟩]
    refine⟨?_,by rw[f];exact D,by rw[f];omega⟩;rw[f,←C];unfold fy;rw[fm st]
   ·have st:eO cl (fr:Int) ((n+1:Nat):Int)=some (.inr ((n+1:Nat):Int)):=by simp only[eO,q,u,v,x,and_self,decide_true,if_true,Int.toNat_natCast,empty_eq,Option.bind,p,Bool.false_eq_true,if_false]
    have f:dN cl fr (n+1)=n+1:=by simp only[dN];rw[if_neg (fun h=>p h.2)]
    refine⟨?_,by rw[f];omega,by rw[f];omega⟩;rw[f];unfold fy;rw[cR st];rfl
  ·obtain rfl:fr=n+1:=by omega
   have f:dN cl (n+1) (n+1)=n+1:=by simp only[dN];rw[if_neg (fun h=>by omega)]
   refine⟨?_,by rw[f];omega,by rw[f];omega⟩;rw[f];unfold fy;rw[cR (r:=((n+1:Nat):Int)) (by simp[eO])];rfl
def uT(cl:Qw):Prop:=cl.length≤4096∧∀i,0≤(cl.getD i c0).2.2.1∧(cl.getD i c0).2.2.1≤2
def p7(cl:Qw)(f:Int)(fr:Nat):Nat→Int
 | 0=>0
 | k+1=>uo (cl.getD (fr+k) c0) (p7 cl f fr k) f
theorem nC{cl:Qw}(hc:uT cl){f:Int}(j:1≤f)(p:f≤64)(fr:Nat):∀k,k≤4096→0≤p7 cl f fr k∧p7 cl f fr k≤64*(k:Int)
 | 0,_=>by simp[p7]
 | k+1,hk=>by
  obtain⟨q,h1⟩:=nC hc j p fr k (by omega);obtain⟨-,h2,u⟩:=sa (c:=cl.getD (fr+k) c0) q (by omega) j p (hc.2 _).1 (hc.2 _).2;simp only[p7];omega
def pe(cl:Qw)(f:Int)(j:Nat):Nat→QK
 | 0=>[0]
 | k+1=>pe cl f j k++[p7 cl f j (k+1)]
theorem pL(cl:Qw)(f:Int)(j:Nat):∀k,(pe cl f j k).length=k+1
 | 0=>rfl
 | k+1=>by simp[pe,pL cl f j k]
theorem sR(cl:Qw)(f:Int)(j:Nat):∀k i,i≤k→(pe cl f j k).getD i 0=p7 cl f j i
 | 0,i,h=>by
  obtain rfl:i=0:=by omega
  rfl
 | k+1,i,h=>by
  simp only[pe];rw[lr,pL];by_cases e:i<k+1
  ·rw[if_pos e];exact sR cl f j k i (by omega)
  ·obtain rfl:i=k+1:=by omega
   rw[if_neg e,if_pos rfl]
theorem DG{cl:Qw}(hc:uT cl)(o:QK){f:Int}(u:1≤f)(v:f≤64){j p:Nat}(h1:j≤p)(h2:p≤cl.length):kL cl o (j:Int) (p:Int) f=some (pe cl f j (p - j)):=by
 have hl:=hc.1;have z:iter (fS cl (p:Int) f) (pe cl f j 0,((j+0:Nat):Int))=some (pe cl f j (p - j)):=by
  refine jz (fun k=>(pe cl f j k,((j+k:Nat):Int))) (p - j) (fun k hk=>?_) ?_
  ·obtain⟨A,N⟩:=nC hc u v j k (by omega);obtain⟨B,-,-⟩:=sa (c:=cl.getD (j+k) c0) A (by omega) u v (hc.2 _).1 (hc.2 _).2;have q:((j+k:Nat):Int)<(p:Int):=by omega
   have C:0≤((j+k:Nat):Int):=by omega
   have D:((j+k:Nat):Int)<(cl.length:Int):=by omega
   have E:IntKind.i64.wrap (((k+1:Nat):Int) - 1)=(k:Int):=lQ (by omega);have I:0≤(k:Int):=by omega
   have J:(k:Int)<((k+1:Nat):Int):=by omega
   have L:k<k+1:=by omega
   have M:(pe cl f j k).getD k 0=p7 cl f j k:=sR _ _ _ _ _ (Nat.le_refl _);have g:∀x:Int,(k+1+([x]:QK).length)*8≤140737488355328∧k+1+([x]:QK).length≤9223372036854775807:=fun x=>by simp;omega
   simp only[fS,q,C,D,pL,E,I,J,L,M,B,g,and_self,decide_true,if_true,Int.toNat_natCast,Option.bind,bD (show j+k≤9000000000000000000 by omega)];rfl
  ·have q:¬(((j+(p - j):Nat):Int)<(p:Int)):=by omega
   simp only[fS,q,decide_false,Bool.false_eq_true,if_false]
 exact congrArg (fun x=>Option.bind x fun o=>some o) z
def qt(cl:Qw)(f:Int)(fr to:Nat)(e:Int):Int:=p7 cl f fr (dN cl fr to - fr)+(if e=3 then 1 else 0)
theorem nB{cl:Qw}(hc:uT cl)(o:QK){f:Int}(q:1≤f)(u:f≤64){fr to:Nat}(h1:fr≤to)(h2:to≤cl.length)(e:Int):
  gL cl o (fr:Int) (to:Int) e f=some ((fr:Int),((to:Int),(qt cl f fr to e,e))):=by
 have hl:=hc.1;obtain⟨v,x,D⟩:=pT (cl:=cl) o h1 h2 (by omega);have j:=DG hc o q u x (show dN cl fr to≤cl.length by omega);obtain⟨E,I⟩:=nC hc q u fr (dN cl fr to - fr) (by omega);have z:IntKind.i64.wrap (((dN cl fr to - fr+1:Nat):Int) - 1)=((dN cl fr to - fr:Nat):Int):=lQ (by omega);have A:0≤((dN cl fr to - fr:Nat):Int):=by omega
 have B:((dN cl fr to - fr:Nat):Int)<((dN cl fr to - fr+1:Nat):Int):=by omega
 have C:=sR cl f fr (dN cl fr to - fr) (dN cl fr to - fr) (Nat.le_refl _);unfold gL iy qt;simp only[v,j,Option.bind,pL,z,A,B,and_self,if_true,Int.toNat_natCast,C];by_cases p:e=3
 ·subst p;simp only[BEq.rfl,if_true];rw[wrap_i64 (by omega) (by omega)]
 ·have:(e == 3)=false:=by rw[beq_eq_false_iff_ne];exact p
  simp only[this,p,if_false,Bool.false_eq_true,Int.add_zero]
theorem uW(cl:Qw){o:QK}{i:Nat}(h:i<o.length):iG cl o (i:Int)=some (o.getD i 0,o.getD i 0 != 0):=by
 unfold iG;rw[if_pos (by omega),if_pos (by omega),Int.toNat_natCast]
def Ch(cl:Qw)(f:Int):Int→Qw→Int→Prop
 | a,[],n=>a=n
 | a,x::r,n=>x.1=a∧a<x.2.1∧0≤x.2.2.2∧x.2.2.2≤4∧x.2.2.1=qt cl f a.toNat x.2.1.toNat x.2.2.2∧Ch cl f x.2.1 r n
theorem Ch.append{cl:Qw}{j:Int}:∀ {a m n:Int} {l k:Qw},Ch cl j a l m→Ch cl j m k n→Ch cl j a (l++k) n
 | a,m,n,[],k,h,h'=>by simp only[Ch]at h;subst h;exact h'
 | a,m,n,x::l,k,h,h'=>⟨h.1,h.2.1,h.2.2.1,h.2.2.2.1,h.2.2.2.2.1,h.2.2.2.2.2.append h'⟩
theorem Ch.range{cl:Qw}{f:Int}:∀ {a n:Int} {l:Qw},Ch cl f a l n→a+(l.length:Int)≤n
 | a,n,[],h=>by simp only[Ch]at h;simp;omega
 | a,n,x::l,h=>by
  have:=h.2.2.2.2.2.range;have:=h.2.1;simp only[List.length_cons];omega
def gh(o:QK):Nat→QK
 | 0=>[]
 | k+1=>if o.getD k 0=2 then gh o k++[(k:Int)]else gh o k
theorem qK(o:QK):∀k,(gh o k).length≤k
 | 0=>by simp[gh]
 | k+1=>by
  have:=qK o k;simp only[gh];split
  ·simp;omega
  ·omega
theorem parts_eq(cl:Qw){o:QK}(hl:o.length≤5000):mw cl o=some (gh o o.length):=by
 have q:iter (fC o) (gh o 0,((0:Nat):Int))=some (gh o o.length):=by
  refine jz (fun k=>(gh o k,(k:Int))) o.length (fun k hk=>?_) ?_
  ·have h:=qK o k;have f:(k:Int)<(o.length:Int):=by omega
   have p:0≤(k:Int):=by omega
   by_cases e:o.getD k 0=2
   ·have j:(o.getD k 0 == 2)=true:=by rw[e];rfl
    simp only[fC,f,p,j,and_self,decide_true,if_true,Int.toNat_natCast,List.length_singleton];rw[if_pos (by omega)];simp only[Option.bind_some,bD (show k≤9000000000000000000 by omega),gh,e,if_true]
   ·have j:(o.getD k 0 == 2)=false:=by rw[beq_eq_false_iff_ne];exact e
    simp only[fC,f,p,j,and_self,decide_true,if_true,Int.toNat_natCast,Bool.false_eq_true,if_false,Option.bind_some,bD (show k≤9000000000000000000 by omega),gh,e]
  ·have f:¬((o.length:Int)<(o.length:Int)):=by omega
   simp only[fC,f,decide_false,Bool.false_eq_true,if_false]
 exact congrArg (fun x=>Option.bind x fun o=>some o) q
theorem Ch.get{cl:Qw}{f:Int}:∀ {a n:Int} {l:Qw} {k:Nat},Ch cl f a l n→k<l.length→a≤(l.getD k c0).1∧(l.getD k c0).1<(l.getD k c0).2.1∧(l.getD k c0).2.1≤n
 | a,n,x::l,0,h,_=>by
  have:=h.2.2.2.2.2.range;have h1:=h.1;have h2:=h.2.1;simp only[List.getD_cons_zero];omega
 | a,n,x::l,k+1,h,hk=>by
  have h2:=h.2.1;have:=h.2.2.2.2.2.get (show k<l.length by simpa using hk);simp only[List.getD_cons_succ];omega
end
end Go.Proofs.YtobbjfkfmdiklaaGreatDoor.T
