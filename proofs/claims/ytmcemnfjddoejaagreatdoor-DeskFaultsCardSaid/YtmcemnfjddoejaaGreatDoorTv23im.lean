import Derived.Test.YtmcemnfjddoejaaGreatDoorTv23fm
namespace Go.Proofs.YtmcemnfjddoejaaGreatDoor.T
open Go Go.Tv Go.Proofs
noncomputable section
structure OM(m:Nat)(o:QK):Prop where
 len:o.length=m+1
 val:∀i,0≤o.getD i 0∧o.getD i 0≤3
 last:o.getD m 0=2
 zero:0<m→o.getD 0 0=0
theorem JI{s:Qx}(hs:s.length≤4096){c:QK}(hb:J5 s.length c)(f:List Bool){st:QK}(a2:st.length≤s.length)(O:∀i,i<st.length→0≤st.getD i 0∧st.getD i 0<(s.length:Int))(h0:0<st.length→st.getD 0 0=0):
  ∃o,iter (cr s c f (st++[(s.length:Int)])) (([]:QK),(0:Int))=some o∧OM st.length o:=by
 obtain⟨Y,b2,b3⟩:=hb;refine dT (fun z:QK×Int=>∃k:Nat,z.2=(k:Int)∧k≤st.length+1∧z.1.length=k∧(∀i,0≤z.1.getD i 0∧z.1.getD i 0≤3)∧(k=st.length+1→z.1.getD st.length 0=2)∧(0<st.length→0<k→z.1.getD 0 0=0)) (fun z=>st.length+1 - z.2.toNat) _ ?_
  ⟨0,rfl,by omega,rfl,fun i=>by simp,fun h=>by omega,fun _ h=>by omega⟩
 rintro⟨o,v⟩ ⟨k,rfl,hk,hl,V,D,hz⟩;simp only at hl V D hz;have A:(st++[(s.length:Int)]).length=st.length+1:=by simp
 by_cases a3:k<st.length+1
 ·left
  have C:(k:Int)<((st++[(s.length:Int)]).length:Int):=by rw[A];omega
  have J:0≤(k:Int):=by omega
  have g:∀x:Int,(o.length+([x]:QK).length)*1≤140737488355328∧o.length+([x]:QK).length≤9223372036854775807:=fun x=>by simp;omega
  have L:IntKind.i64.wrap ((k:Int)+1)=((k+1:Nat):Int):=bO (by omega);have j:∀x:Int,cr s c f (st++[(s.length:Int)]) (o,(k:Int))=some (.inl (o++[x],((k+1:Nat):Int)))→0≤x→x≤3→(k=st.length→x=2)→(k<st.length→k=0→x=0) →
    ∃y,cr s c f (st++[(s.length:Int)]) (o,(k:Int))=some (.inl y)∧(∃k:Nat,y.2=(k:Int)∧k≤st.length+1∧y.1.length=k∧(∀i,0≤y.1.getD i 0∧y.1.getD i 0≤3)∧(k=st.length+1→y.1.getD st.length 0=2)∧(0<st.length→0<k→y.1.getD 0 0=0))∧st.length+1 - y.2.toNat<st.length+1 - (k:Int).toNat:=fun x he x0 x3 xl xz=>by
   refine⟨_,he,⟨k+1,rfl,by omega,by simp[hl],fun i=>?_,fun e=>?_,fun hp _=>?_⟩,by simp only[Int.toNat_natCast];omega⟩
   ·simp only;rw[lv];split
    ·exact V i
    ·split
     ·exact⟨x0,x3⟩
     ·omega
   ·simp only;rw[lv,if_neg (by omega),if_pos (by omega)];exact xl (by omega)
   ·simp only;rw[lv];by_cases e:k=0
    ·rw[if_neg (by omega),if_pos (by omega)];exact xz (by omega) e
    ·rw[if_pos (by omega)];exact hz hp (by omega)
  by_cases p:k=st.length
  ·have E:(st++[(s.length:Int)]).getD k 0=(s.length:Int):=by rw[p];exact ll _ _ _
   have I:((s.length:Int) == (s.length:Int))=true:=by simp
   refine j 2 ?_ (by omega) (by omega) (fun _=>rfl) (fun h=>by omega);simp only[cr,C,J,E,I,g,L,and_self,decide_true,if_true,Option.bind,Int.toNat_natCast]
  ·have E:(st++[(s.length:Int)]).getD k 0=st.getD k 0:=by rw[lv,if_pos (by omega)]
   obtain⟨a0,a1⟩:=O k (by omega);have I:(st.getD k 0 == (s.length:Int))=false:=by rw[beq_eq_false_iff_ne];omega
   by_cases B:st.getD k 0=0
   ·have M:(st.getD k 0 == 0)=true:=by rw[B];rfl
    refine j 0 ?_ (by omega) (by omega) (fun h=>absurd h p) (fun _ _=>rfl);simp only[cr,C,J,E,I,M,g,L,and_self,decide_true,if_true,Option.bind,Int.toNat_natCast,Bool.false_eq_true,if_false]
   ·have M:(st.getD k 0 == 0)=false:=by rw[beq_eq_false_iff_ne];exact B
    have Z:¬(st.getD k 0≥(c.length:Int)):=by rw[Y];omega
    have e4:st.getD k 0<(c.length:Int):=by rw[Y];omega
    have u:k=0→False:=fun e=>by subst e;exact B (h0 (by omega))
    obtain⟨v0,v1⟩:=b3 (st.getD k 0).toNat;have q:∀(hh:((if(c.getD (st.getD k 0).toNat 0 == 0)=true then(if decide (st.getD k 0<(f.length:Int))=true then(if True∧st.getD k 0<(f.length:Int)then some (f.getD (st.getD k 0).toNat false)else none)else some false)else some false):Option Bool)=some false),
      cr s c f (st++[(s.length:Int)]) (o,(k:Int))=some (.inl (o++[c.getD (st.getD k 0).toNat 0],((k+1:Nat):Int))):=fun hh=>by
     simp only[cr,C,J,E,I,M,Z,e4,a0,and_self,decide_true,decide_false,if_true,Int.toNat_natCast,Bool.false_eq_true,if_false];rw[hh];simp only[Option.bind,g,L,and_self,if_true,Bool.false_eq_true,if_false]
    by_cases N:(c.getD (st.getD k 0).toNat 0 == 0)=true
    ·by_cases X:st.getD k 0<(f.length:Int)
     ·cases e7:f.getD (st.getD k 0).toNat false with
      | true =>
       refine j 3 ?_ (by omega) (by omega) (fun h=>absurd h p) (fun _ h=>(u h).elim);simp only[cr,C,J,E,I,M,Z,e4,N,X,e7,a0,g,L,and_self,decide_true,decide_false,if_true,Option.bind,Int.toNat_natCast,Bool.false_eq_true,if_false]
      | false =>
       refine j _ (q ?_) v0 (by omega) (fun h=>absurd h p) (fun _ h=>(u h).elim);simp only[N,X,e7,decide_true,and_self,if_true]
     ·refine j _ (q ?_) v0 (by omega) (fun h=>absurd h p) (fun _ h=>(u h).elim);simp only[N,X,decide_false,Bool.false_eq_true,if_true,if_false]
    ·refine j _ (q ?_) v0 (by omega) (fun h=>absurd h p) (fun _ h=>(u h).elim);simp only[N,Bool.false_eq_true,if_false]
 ·right
  obtain rfl:k=st.length+1:=by omega
  refine⟨o,?_,⟨hl,V,D rfl,fun h=>hz h (by omega)⟩⟩;have C:¬(((st.length+1:Nat):Int)<((st++[(s.length:Int)]).length:Int)):=by rw[A];omega
  simp only[cr,C,decide_false,Bool.false_eq_true,if_false]
structure PM(n:Int)(p:XK×QK):Prop where
 LV:A9 0 p.1 n
 len:(p.1.length:Int)≤n
 pos:0<n→0<p.1.length
 Nx:OM p.1.length p.2
abbrev c0:cW:=(0,(0,(0,0)))
def vL(c:cW)(e f:Int):Int:=if c.2.2.2=2 then e+f - e % f else e+c.2.2.1
def rR(c:cW):Bool:=c.2.2.2 == 1 || (c.2.2.2 == 0 && c.2.2.1 == 0)
theorem wq{c:cW}{e f:Int}(j:0≤e)(q:e≤1000000000)(u:1≤f)(v:f≤64)(z:0≤c.2.2.1)(A:c.2.2.1≤2):
  jE c.1 c.2.1 c.2.2.1 c.2.2.2 e f=some (vL c e f)∧e≤vL c e f∧vL c e f≤e+64:=by
 have B:=Int.emod_nonneg e (show f≠0 by omega);have p:=Int.emod_lt_of_pos e (show 0<f by omega);unfold jE vL;by_cases hk:c.2.2.2=2
 ·rw[if_pos (by rw[hk];rfl),if_pos (by omega),if_pos hk,Int.tmod_eq_emod_of_nonneg j,wrap_i64 (x:=e+f) (by omega) (by omega),wrap_i64 (by omega) (by omega)];exact⟨rfl,by omega,by omega⟩
 ·rw[if_neg (by simpa using hk),if_neg hk,wrap_i64 (by omega) (by omega)];exact⟨rfl,by omega,by omega⟩
theorem empty_eq(c:cW):lT c.1 c.2.1 c.2.2.1 c.2.2.2=some (rR c):=by
 unfold lT rR;by_cases e:c.2.2.2=1
 ·simp[e]
 ·by_cases f:c.2.2.2=0
  ·simp[f]
  ·simp[e,f]
def dR(cl:XK)(fr:Nat):Nat→Nat
 | 0=>0
 | n+1=>if fr<n+1∧rR (cl.getD n c0)=true then dR cl fr n else n+1
theorem sS{cl:XK}(o:QK){fr:Nat}:∀ {f:Nat},fr≤f→f≤cl.length→f≤1000000→fX cl o (fr:Int) (f:Int)=some (dR cl fr f:Int)∧fr≤dR cl fr f∧dR cl fr f≤f:=by
 intro f;induction f with
 | zero =>
  intro x _ _;obtain rfl:fr=0:=by omega
  refine⟨?_,by simp[dR],by simp[dR]⟩;unfold fX;rw[dq (r:=(0:Int)) (by simp[eF])];rfl
 | succ n z =>
  intro x D E;by_cases A:fr<n+1
  ·have p:((n+1:Nat):Int) > (fr:Int):=by omega
   have q:IntKind.i64.wrap (((n+1:Nat):Int) - 1)=(n:Int):=lN (by omega);have u:0≤(n:Int):=by omega
   have v:(n:Int)<(cl.length:Int):=by omega
   by_cases j:rR (cl.getD n c0)=true
   ·have st:eF cl (fr:Int) ((n+1:Nat):Int)=some (.inl (n:Int)):=by simp only[eF,p,q,u,v,and_self,decide_true,if_true,Int.toNat_natCast,empty_eq,Option.bind,j]
    obtain⟨B,C,I⟩:=z (by omega) (by omega) (by omega);have e:dR cl fr (n+1)=dR cl fr n:=by simp only[dR];rw[if_pos ⟨A,j⟩]
    refine⟨?_,by rw[e];exact C,by rw[e];omega⟩;rw[e,←B];unfold fX;rw[ga st]
   ·have st:eF cl (fr:Int) ((n+1:Nat):Int)=some (.inr ((n+1:Nat):Int)):=by simp only[eF,p,q,u,v,and_self,decide_true,if_true,Int.toNat_natCast,empty_eq,Option.bind,j,Bool.false_eq_true,if_false]
    have e:dR cl fr (n+1)=n+1:=by simp only[dR];rw[if_neg (fun h=>j h.2)]
    refine⟨?_,by rw[e];omega,by rw[e];omega⟩;rw[e];unfold fX;rw[dq st];rfl
  ·obtain rfl:fr=n+1:=by omega
   have e:dR cl (n+1) (n+1)=n+1:=by simp only[dR];rw[if_neg (fun h=>by omega)]
   refine⟨?_,by rw[e];omega,by rw[e];omega⟩;rw[e];unfold fX;rw[dq (r:=((n+1:Nat):Int)) (by simp[eF])];rfl
def EP(cl:XK):Prop:=cl.length≤4096∧∀i,0≤(cl.getD i c0).2.2.1∧(cl.getD i c0).2.2.1≤2
def rz(cl:XK)(e:Int)(fr:Nat):Nat→Int
 | 0=>0
 | k+1=>vL (cl.getD (fr+k) c0) (rz cl e fr k) e
theorem sV{cl:XK}(f:EP cl){e:Int}(j:1≤e)(p:e≤64)(fr:Nat):∀k,k≤4096→0≤rz cl e fr k∧rz cl e fr k≤64*(k:Int)
 | 0,_=>by simp[rz]
 | k+1,hk=>by
  obtain⟨q,u⟩:=sV f j p fr k (by omega);obtain⟨-,v,x⟩:=wq (c:=cl.getD (fr+k) c0) q (by omega) j p (f.2 _).1 (f.2 _).2;simp only[rz];omega
def po(f:XK)(e:Int)(j:Nat):Nat→QK
 | 0=>[0]
 | k+1=>po f e j k++[rz f e j (k+1)]
theorem qj(cl:XK)(e:Int)(f:Nat):∀k,(po cl e f k).length=k+1
 | 0=>rfl
 | k+1=>by simp[po,qj cl e f k]
theorem uw(cl:XK)(f:Int)(j:Nat):∀k i,i≤k→(po cl f j k).getD i 0=rz cl f j i
 | 0,i,h=>by
  obtain rfl:i=0:=by omega
  rfl
 | k+1,i,h=>by
  simp only[po];rw[lv,qj];by_cases e:i<k+1
  ·rw[if_pos e];exact uw cl f j k i (by omega)
  ·obtain rfl:i=k+1:=by omega
   rw[if_neg e,if_pos rfl]
theorem xi{cl:XK}(p:EP cl)(o:QK){e:Int}(u:1≤e)(v:e≤64){f j:Nat}(N:f≤j)(O:j≤cl.length):jj cl o (f:Int) (j:Int) e=some (po cl e f (j - f)):=by
 have hl:=p.1;have z:iter (fQ cl (j:Int) e) (po cl e f 0,((f+0:Nat):Int))=some (po cl e f (j - f)):=by
  refine iA (fun k=>(po cl e f k,((f+k:Nat):Int))) (j - f) (fun k hk=>?_) ?_
  ·obtain⟨A,V⟩:=sV p u v f k (by omega);obtain⟨B,-,-⟩:=wq (c:=cl.getD (f+k) c0) A (by omega) u v (p.2 _).1 (p.2 _).2;have q:((f+k:Nat):Int)<(j:Int):=by omega
   have C:0≤((f+k:Nat):Int):=by omega
   have D:((f+k:Nat):Int)<(cl.length:Int):=by omega
   have E:IntKind.i64.wrap (((k+1:Nat):Int) - 1)=(k:Int):=lN (by omega);have I:0≤(k:Int):=by omega
   have J:(k:Int)<((k+1:Nat):Int):=by omega
   have L:k<k+1:=by omega
   have M:(po cl e f k).getD k 0=rz cl e f k:=uw _ _ _ _ _ (Nat.le_refl _);have g:∀x:Int,(k+1+([x]:QK).length)*8≤140737488355328∧k+1+([x]:QK).length≤9223372036854775807:=fun x=>by simp;omega
   simp only[fQ,q,C,D,qj,E,I,J,L,M,B,g,and_self,decide_true,if_true,Int.toNat_natCast,Option.bind,bO (show f+k≤9000000000000000000 by omega)];rfl
  ·have q:¬(((f+(j - f):Nat):Int)<(j:Int)):=by omega
   simp only[fQ,q,decide_false,Bool.false_eq_true,if_false]
 exact congrArg (fun x=>Option.bind x fun o=>some o) z
def yg(cl:XK)(c:Int)(f j:Nat)(e:Int):Int:=rz cl c f (dR cl f j - f)+(if e=3 then 1 else 0)
theorem sa{cl:XK}(u:EP cl)(o:QK){p:Int}(x:1≤p)(z:p≤64){f j:Nat}(A:f≤j)(B:j≤cl.length)(e:Int):
  jD cl o (f:Int) (j:Int) e p=some ((f:Int),((j:Int),(yg cl p f j e,e))):=by
 have hl:=u.1;obtain⟨C,D,M⟩:=sS (cl:=cl) o A B (by omega);have q:=xi u o x z D (show dR cl f j≤cl.length by omega);obtain⟨N,O⟩:=sV u x z f (dR cl f j - f) (by omega);have E:IntKind.i64.wrap (((dR cl f j - f+1:Nat):Int) - 1)=((dR cl f j - f:Nat):Int):=lN (by omega);have I:0≤((dR cl f j - f:Nat):Int):=by omega
 have J:((dR cl f j - f:Nat):Int)<((dR cl f j - f+1:Nat):Int):=by omega
 have L:=uw cl p f (dR cl f j - f) (dR cl f j - f) (Nat.le_refl _);unfold jD oN yg;simp only[C,q,Option.bind,qj,E,I,J,and_self,if_true,Int.toNat_natCast,L];by_cases v:e=3
 ·subst v;simp only[BEq.rfl,if_true];rw[wrap_i64 (by omega) (by omega)]
 ·have:(e == 3)=false:=by rw[beq_eq_false_iff_ne];exact v
  simp only[this,v,if_false,Bool.false_eq_true,Int.add_zero]
theorem FG(cl:XK){o:QK}{i:Nat}(h:i<o.length):kW cl o (i:Int)=some (o.getD i 0,o.getD i 0 != 0):=by
 unfold kW;rw[if_pos (by omega),if_pos (by omega),Int.toNat_natCast]
def Ch(e:XK)(c:Int):Int→XK→Int→Prop
 | a,[],n=>a=n
 | a,x::r,n=>x.1=a∧a<x.2.1∧0≤x.2.2.2∧x.2.2.2≤4∧x.2.2.1=yg e c a.toNat x.2.1.toNat x.2.2.2∧Ch e c x.2.1 r n
theorem Ch.append{j:XK}{e:Int}:∀ {a m n:Int} {l k:XK},Ch j e a l m→Ch j e m k n→Ch j e a (l++k) n
 | a,m,n,[],k,h,h'=>by simp only[Ch]at h;subst h;exact h'
 | a,m,n,x::l,k,h,h'=>⟨h.1,h.2.1,h.2.2.1,h.2.2.2.1,h.2.2.2.2.1,h.2.2.2.2.2.append h'⟩
theorem Ch.range{f:XK}{c:Int}:∀ {a n:Int} {l:XK},Ch f c a l n→a+(l.length:Int)≤n
 | a,n,[],h=>by simp only[Ch]at h;simp;omega
 | a,n,x::l,h=>by
  have:=h.2.2.2.2.2.range;have:=h.2.1;simp only[List.length_cons];omega
def gF(o:QK):Nat→QK
 | 0=>[]
 | k+1=>if o.getD k 0=2 then gF o k++[(k:Int)]else gF o k
theorem rf(o:QK):∀k,(gF o k).length≤k
 | 0=>by simp[gF]
 | k+1=>by
  have:=rf o k;simp only[gF];split
  ·simp;omega
  ·omega
theorem parts_eq(p:XK){o:QK}(hl:o.length≤5000):mF p o=some (gF o o.length):=by
 have q:iter (fg o) (gF o 0,((0:Nat):Int))=some (gF o o.length):=by
  refine iA (fun k=>(gF o k,(k:Int))) o.length (fun k hk=>?_) ?_
  ·have h:=rf o k;have c:(k:Int)<(o.length:Int):=by omega
   have j:0≤(k:Int):=by omega
   by_cases e:o.getD k 0=2
   ·have f:(o.getD k 0 == 2)=true:=by rw[e];rfl
    simp only[fg,c,j,f,and_self,decide_true,if_true,Int.toNat_natCast,List.length_singleton];rw[if_pos (by omega)];simp only[Option.bind_some,bO (show k≤9000000000000000000 by omega),gF,e,if_true]
   ·have f:(o.getD k 0 == 2)=false:=by rw[beq_eq_false_iff_ne];exact e
    simp only[fg,c,j,f,and_self,decide_true,if_true,Int.toNat_natCast,Bool.false_eq_true,if_false,Option.bind_some,bO (show k≤9000000000000000000 by omega),gF,e]
  ·have c:¬((o.length:Int)<(o.length:Int)):=by omega
   simp only[fg,c,decide_false,Bool.false_eq_true,if_false]
 exact congrArg (fun x=>Option.bind x fun o=>some o) q
theorem Ch.get{e:XK}{c:Int}:∀ {a n:Int} {l:XK} {k:Nat},Ch e c a l n→k<l.length→a≤(l.getD k c0).1∧(l.getD k c0).1<(l.getD k c0).2.1∧(l.getD k c0).2.1≤n
 | a,n,x::l,0,h,_=>by
  have:=h.2.2.2.2.2.range;have j:=h.1;have f:=h.2.1;simp only[List.getD_cons_zero];omega
 | a,n,x::l,k+1,h,hk=>by
  have f:=h.2.1;have:=h.2.2.2.2.2.get (show k<l.length by simpa using hk);simp only[List.getD_cons_succ];omega
end
end Go.Proofs.YtmcemnfjddoejaaGreatDoor.T
