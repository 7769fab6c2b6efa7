import Derived.Test.YtbedjpdfkmfplaaGreatDoorTv31fm
namespace Go.Proofs.YtbedjpdfkmfplaaGreatDoor.T
open Go Go.Tv Go.Proofs
noncomputable section
structure OM(m:Nat)(o:QK):Prop where
 len:o.length=m+1
 val:∀i,0≤o.getD i 0∧o.getD i 0≤3
 last:o.getD m 0=2
 zero:0<m→o.getD 0 0=0
theorem H0{s:Qx}(hs:s.length≤4096){f:QK}(hb:Kc s.length f)(j:List Bool){st:QK}(a2:st.length≤s.length)(X:∀i,i<st.length→0≤st.getD i 0∧st.getD i 0<(s.length:Int))(h0:0<st.length→st.getD 0 0=0):
  ∃o,iter (cz s f j (st++[(s.length:Int)])) (([]:QK),(0:Int))=some o∧OM st.length o:=by
 obtain⟨b1,b2,b3⟩:=hb;refine dB (fun z:QK×Int=>∃k:Nat,z.2=(k:Int)∧k≤st.length+1∧z.1.length=k∧(∀i,0≤z.1.getD i 0∧z.1.getD i 0≤3)∧(k=st.length+1→z.1.getD st.length 0=2)∧(0<st.length→0<k→z.1.getD 0 0=0)) (fun z=>st.length+1 - z.2.toNat) _ ?_
  ⟨0,rfl,by omega,rfl,fun i=>by simp,fun h=>by omega,fun _ h=>by omega⟩
 rintro⟨o,v⟩ ⟨k,rfl,hk,hl,Y,I,hz⟩;simp only at hl Y I hz;have C:(st++[(s.length:Int)]).length=st.length+1:=by simp
 by_cases a3:k<st.length+1
 ·left
  have E:(k:Int)<((st++[(s.length:Int)]).length:Int):=by rw[C];omega
  have M:0≤(k:Int):=by omega
  have g:∀x:Int,(o.length+([x]:QK).length)*1≤140737488355328∧o.length+([x]:QK).length≤9223372036854775807:=fun x=>by simp;omega
  have N:IntKind.i64.wrap ((k:Int)+1)=((k+1:Nat):Int):=bF (by omega);have q:∀x:Int,cz s f j (st++[(s.length:Int)]) (o,(k:Int))=some (.inl (o++[x],((k+1:Nat):Int)))→0≤x→x≤3→(k=st.length→x=2)→(k<st.length→k=0→x=0) →
    ∃y,cz s f j (st++[(s.length:Int)]) (o,(k:Int))=some (.inl y)∧(∃k:Nat,y.2=(k:Int)∧k≤st.length+1∧y.1.length=k∧(∀i,0≤y.1.getD i 0∧y.1.getD i 0≤3)∧(k=st.length+1→y.1.getD st.length 0=2)∧(0<st.length→0<k→y.1.getD 0 0=0))∧st.length+1 - y.2.toNat<st.length+1 - (k:Int).toNat:=fun x he x0 x3 xl xz=>by
   refine⟨_,he,⟨k+1,rfl,by omega,by simp[hl],fun i=>?_,fun e=>?_,fun hp _=>?_⟩,by simp only[Int.toNat_natCast];omega⟩
   ·simp only;rw[mn];split
    ·exact Y i
    ·split
     ·exact⟨x0,x3⟩
     ·omega
   ·simp only;rw[mn,if_neg (by omega),if_pos (by omega)];exact xl (by omega)
   ·simp only;rw[mn];by_cases e:k=0
    ·rw[if_neg (by omega),if_pos (by omega)];exact xz (by omega) e
    ·rw[if_pos (by omega)];exact hz hp (by omega)
  by_cases u:k=st.length
  ·have J:(st++[(s.length:Int)]).getD k 0=(s.length:Int):=by rw[u];exact lU _ _ _
   have L:((s.length:Int) == (s.length:Int))=true:=by simp
   refine q 2 ?_ (by omega) (by omega) (fun _=>rfl) (fun h=>by omega);simp only[cz,E,M,J,L,g,N,and_self,decide_true,if_true,Option.bind,Int.toNat_natCast]
  ·have J:(st++[(s.length:Int)]).getD k 0=st.getD k 0:=by rw[mn,if_pos (by omega)]
   obtain⟨a0,a1⟩:=X k (by omega);have L:(st.getD k 0 == (s.length:Int))=false:=by rw[beq_eq_false_iff_ne];omega
   by_cases D:st.getD k 0=0
   ·have O:(st.getD k 0 == 0)=true:=by rw[D];rfl
    refine q 0 ?_ (by omega) (by omega) (fun h=>absurd h u) (fun _ _=>rfl);simp only[cz,E,M,J,L,O,g,N,and_self,decide_true,if_true,Option.bind,Int.toNat_natCast,Bool.false_eq_true,if_false]
   ·have O:(st.getD k 0 == 0)=false:=by rw[beq_eq_false_iff_ne];exact D
    have e3:¬(st.getD k 0≥(f.length:Int)):=by rw[b1];omega
    have e4:st.getD k 0<(f.length:Int):=by rw[b1];omega
    have B:k=0→False:=fun e=>by subst e;exact D (h0 (by omega))
    obtain⟨v0,v1⟩:=b3 (st.getD k 0).toNat;have A:∀(hh:((if(f.getD (st.getD k 0).toNat 0 == 0)=true then(if decide (st.getD k 0<(j.length:Int))=true then(if True∧st.getD k 0<(j.length:Int)then some (j.getD (st.getD k 0).toNat false)else none)else some false)else some false):Option Bool)=some false),
      cz s f j (st++[(s.length:Int)]) (o,(k:Int))=some (.inl (o++[f.getD (st.getD k 0).toNat 0],((k+1:Nat):Int))):=fun hh=>by
     simp only[cz,E,M,J,L,O,e3,e4,a0,and_self,decide_true,decide_false,if_true,Int.toNat_natCast,Bool.false_eq_true,if_false];rw[hh];simp only[Option.bind,g,N,and_self,if_true,Bool.false_eq_true,if_false]
    by_cases V:(f.getD (st.getD k 0).toNat 0 == 0)=true
    ·by_cases Z:st.getD k 0<(j.length:Int)
     ·cases e7:j.getD (st.getD k 0).toNat false with
      | true =>
       refine q 3 ?_ (by omega) (by omega) (fun h=>absurd h u) (fun _ h=>(B h).elim);simp only[cz,E,M,J,L,O,e3,e4,V,Z,e7,a0,g,N,and_self,decide_true,decide_false,if_true,Option.bind,Int.toNat_natCast,Bool.false_eq_true,if_false]
      | false =>
       refine q _ (A ?_) v0 (by omega) (fun h=>absurd h u) (fun _ h=>(B h).elim);simp only[V,Z,e7,decide_true,and_self,if_true]
     ·refine q _ (A ?_) v0 (by omega) (fun h=>absurd h u) (fun _ h=>(B h).elim);simp only[V,Z,decide_false,Bool.false_eq_true,if_true,if_false]
    ·refine q _ (A ?_) v0 (by omega) (fun h=>absurd h u) (fun _ h=>(B h).elim);simp only[V,Bool.false_eq_true,if_false]
 ·right
  obtain rfl:k=st.length+1:=by omega
  refine⟨o,?_,⟨hl,Y,I rfl,fun h=>hz h (by omega)⟩⟩;have E:¬(((st.length+1:Nat):Int)<((st++[(s.length:Int)]).length:Int)):=by rw[C];omega
  simp only[cz,E,decide_false,Bool.false_eq_true,if_false]
structure PM(n:Int)(p:Qk×QK):Prop where
 LX:A5 0 p.1 n
 len:(p.1.length:Int)≤n
 pos:0<n→0<p.1.length
 LW:OM p.1.length p.2
abbrev c0:cg:=(0,(0,(0,0)))
def vC(c:cg)(e f:Int):Int:=if c.2.2.2=2 then e+f - e % f else e+c.2.2.1
def rN(c:cg):Bool:=c.2.2.2 == 1 || (c.2.2.2 == 0 && c.2.2.1 == 0)
theorem wj{c:cg}{e f:Int}(j:0≤e)(u:e≤1000000000)(v:1≤f)(z:f≤64)(A:0≤c.2.2.1)(B:c.2.2.1≤2):
  jP c.1 c.2.1 c.2.2.1 c.2.2.2 e f=some (vC c e f)∧e≤vC c e f∧vC c e f≤e+64:=by
 have C:=Int.emod_nonneg e (show f≠0 by omega);have q:=Int.emod_lt_of_pos e (show 0<f by omega);unfold jP vC;by_cases hk:c.2.2.2=2
 ·rw[if_pos (by rw[hk];rfl),if_pos (by omega),if_pos hk,Int.tmod_eq_emod_of_nonneg j,wrap_i64 (x:=e+f) (by omega) (by omega),wrap_i64 (by omega) (by omega)];exact⟨rfl,by omega,by omega⟩
 ·rw[if_neg (by simpa using hk),if_neg hk,wrap_i64 (by omega) (by omega)];exact⟨rfl,by omega,by omega⟩
theorem empty_eq(c:cg):l0 c.1 c.2.1 c.2.2.1 c.2.2.2=some (rN c):=by
 unfold l0 rN;by_cases e:c.2.2.2=1
 ·simp[e]
 ·by_cases f:c.2.2.2=0
  ·simp[f]
  ·simp[e,f]
def eA(cl:Qk)(fr:Nat):Nat→Nat
 | 0=>0
 | n+1=>if fr<n+1∧rN (cl.getD n c0)=true then eA cl fr n else n+1
theorem sP{cl:Qk}(o:QK){fr:Nat}:∀ {f:Nat},fr≤f→f≤cl.length→f≤1000000→gy cl o (fr:Int) (f:Int)=some (eA cl fr f:Int)∧fr≤eA cl fr f∧eA cl fr f≤f:=by
 intro f;induction f with
 | zero =>
  intro A _ _;obtain rfl:fr=0:=by omega
  refine⟨?_,by simp[eA],by simp[eA]⟩;unfold gy;rw[dP (r:=(0:Int)) (by simp[fx])];rfl
 | succ n B =>
  intro A I J;by_cases C:fr<n+1
  ·have q:((n+1:Nat):Int) > (fr:Int):=by omega
   have u:IntKind.i64.wrap (((n+1:Nat):Int) - 1)=(n:Int):=l9 (by omega);have v:0≤(n:Int):=by omega
   have z:(n:Int)<(cl.length:Int):=by omega
   by_cases j:rN (cl.getD n c0)=true
   ·have st:fx cl (fr:Int) ((n+1:Nat):Int)=some (.inl (n:Int)):=by simp only[fx,q,u,v,z,and_self,decide_true,if_true,Int.toNat_natCast,empty_eq,Option.bind,j]
    obtain⟨D,E,L⟩:=B (by omega) (by omega) (by omega);have e:eA cl fr (n+1)=eA cl fr n:=by simp only[eA];rw[if_pos ⟨C,j⟩]
    refine⟨?_,by rw[e];exact E,by rw[e];omega⟩;rw[e,←D];unfold gy;rw[gA st]
   ·have st:fx cl (fr:Int) ((n+1:Nat):Int)=some (.inr ((n+1:Nat):Int)):=by simp only[fx,q,u,v,z,and_self,decide_true,if_true,Int.toNat_natCast,empty_eq,Option.bind,j,Bool.false_eq_true,if_false]
    have e:eA cl fr (n+1)=n+1:=by simp only[eA];rw[if_neg (fun h=>j h.2)]
    refine⟨?_,by rw[e];omega,by rw[e];omega⟩;rw[e];unfold gy;rw[dP st];rfl
  ·obtain rfl:fr=n+1:=by omega
   have e:eA cl (n+1) (n+1)=n+1:=by simp only[eA];rw[if_neg (fun h=>by omega)]
   refine⟨?_,by rw[e];omega,by rw[e];omega⟩;rw[e];unfold gy;rw[dP (r:=((n+1:Nat):Int)) (by simp[fx])];rfl
def Fb(cl:Qk):Prop:=cl.length≤4096∧∀i,0≤(cl.getD i c0).2.2.1∧(cl.getD i c0).2.2.1≤2
def rF(cl:Qk)(e:Int)(fr:Nat):Nat→Int
 | 0=>0
 | k+1=>vC (cl.getD (fr+k) c0) (rF cl e fr k) e
theorem sN{cl:Qk}(f:Fb cl){e:Int}(j:1≤e)(q:e≤64)(fr:Nat):∀k,k≤4096→0≤rF cl e fr k∧rF cl e fr k≤64*(k:Int)
 | 0,_=>by simp[rF]
 | k+1,hk=>by
  obtain⟨u,v⟩:=sN f j q fr k (by omega);obtain⟨-,z,A⟩:=wj (c:=cl.getD (fr+k) c0) u (by omega) j q (f.2 _).1 (f.2 _).2;simp only[rF];omega
def pH(cl:Qk)(e:Int)(f:Nat):Nat→QK
 | 0=>[0]
 | k+1=>pH cl e f k++[rF cl e f (k+1)]
theorem qx(cl:Qk)(e:Int)(f:Nat):∀k,(pH cl e f k).length=k+1
 | 0=>rfl
 | k+1=>by simp[pH,qx cl e f k]
theorem uA(cl:Qk)(f:Int)(j:Nat):∀k i,i≤k→(pH cl f j k).getD i 0=rF cl f j i
 | 0,i,h=>by
  obtain rfl:i=0:=by omega
  rfl
 | k+1,i,h=>by
  simp only[pH];rw[mn,qx];by_cases e:i<k+1
  ·rw[if_pos e];exact uA cl f j k i (by omega)
  ·obtain rfl:i=k+1:=by omega
   rw[if_neg e,if_pos rfl]
theorem yd{cl:Qk}(q:Fb cl)(o:QK){e:Int}(v:1≤e)(z:e≤64){f j:Nat}(O:f≤j)(V:j≤cl.length):jo cl o (f:Int) (j:Int) e=some (pH cl e f (j - f)):=by
 have hl:=q.1;have A:iter (gu cl (j:Int) e) (pH cl e f 0,((f+0:Nat):Int))=some (pH cl e f (j - f)):=by
  refine gL (fun k=>(pH cl e f k,((f+k:Nat):Int))) (j - f) (fun k hk=>?_) ?_
  ·obtain⟨B,X⟩:=sN q v z f k (by omega);obtain⟨C,-,-⟩:=wj (c:=cl.getD (f+k) c0) B (by omega) v z (q.2 _).1 (q.2 _).2;have u:((f+k:Nat):Int)<(j:Int):=by omega
   have D:0≤((f+k:Nat):Int):=by omega
   have E:((f+k:Nat):Int)<(cl.length:Int):=by omega
   have I:IntKind.i64.wrap (((k+1:Nat):Int) - 1)=(k:Int):=l9 (by omega);have J:0≤(k:Int):=by omega
   have L:(k:Int)<((k+1:Nat):Int):=by omega
   have M:k<k+1:=by omega
   have N:(pH cl e f k).getD k 0=rF cl e f k:=uA _ _ _ _ _ (Nat.le_refl _);have g:∀x:Int,(k+1+([x]:QK).length)*8≤140737488355328∧k+1+([x]:QK).length≤9223372036854775807:=fun x=>by simp;omega
   simp only[gu,u,D,E,qx,I,J,L,M,N,C,g,and_self,decide_true,if_true,Int.toNat_natCast,Option.bind,bF (show f+k≤9000000000000000000 by omega)];rfl
  ·have u:¬(((f+(j - f):Nat):Int)<(j:Int)):=by omega
   simp only[gu,u,decide_false,Bool.false_eq_true,if_false]
 exact congrArg (fun x=>Option.bind x fun o=>some o) A
def xM(cl:Qk)(f:Int)(j q:Nat)(e:Int):Int:=rF cl f j (eA cl j q - j)+(if e=3 then 1 else 0)
theorem tn{cl:Qk}(v:Fb cl)(o:QK){q:Int}(A:1≤q)(B:q≤64){f j:Nat}(C:f≤j)(D:j≤cl.length)(e:Int):
  jL cl o (f:Int) (j:Int) e q=some ((f:Int),((j:Int),(xM cl q f j e,e))):=by
 have hl:=v.1;obtain⟨E,I,O⟩:=sP (cl:=cl) o C D (by omega);have u:=yd v o A B I (show eA cl f j≤cl.length by omega);obtain⟨V,X⟩:=sN v A B f (eA cl f j - f) (by omega);have J:IntKind.i64.wrap (((eA cl f j - f+1:Nat):Int) - 1)=((eA cl f j - f:Nat):Int):=l9 (by omega);have L:0≤((eA cl f j - f:Nat):Int):=by omega
 have M:((eA cl f j - f:Nat):Int)<((eA cl f j - f+1:Nat):Int):=by omega
 have N:=uA cl q f (eA cl f j - f) (eA cl f j - f) (Nat.le_refl _);unfold jL oJ xM;simp only[E,u,Option.bind,qx,J,L,M,and_self,if_true,Int.toNat_natCast,N];by_cases z:e=3
 ·subst z;simp only[BEq.rfl,if_true];rw[wrap_i64 (by omega) (by omega)]
 ·have:(e == 3)=false:=by rw[beq_eq_false_iff_ne];exact z
  simp only[this,z,if_false,Bool.false_eq_true,Int.add_zero]
theorem FZ(cl:Qk){o:QK}{i:Nat}(h:i<o.length):lG cl o (i:Int)=some (o.getD i 0,o.getD i 0 != 0):=by
 unfold lG;rw[if_pos (by omega),if_pos (by omega),Int.toNat_natCast]
def Ch(cl:Qk)(e:Int):Int→Qk→Int→Prop
 | a,[],n=>a=n
 | a,x::r,n=>x.1=a∧a<x.2.1∧0≤x.2.2.2∧x.2.2.2≤4∧x.2.2.1=xM cl e a.toNat x.2.1.toNat x.2.2.2∧Ch cl e x.2.1 r n
theorem Ch.append{cl:Qk}{e:Int}:∀ {a m n:Int} {l k:Qk},Ch cl e a l m→Ch cl e m k n→Ch cl e a (l++k) n
 | a,m,n,[],k,h,h'=>by simp only[Ch]at h;subst h;exact h'
 | a,m,n,x::l,k,h,h'=>⟨h.1,h.2.1,h.2.2.1,h.2.2.2.1,h.2.2.2.2.1,h.2.2.2.2.2.append h'⟩
theorem Ch.range{cl:Qk}{f:Int}:∀ {a n:Int} {l:Qk},Ch cl f a l n→a+(l.length:Int)≤n
 | a,n,[],h=>by simp only[Ch]at h;simp;omega
 | a,n,x::l,h=>by
  have:=h.2.2.2.2.2.range;have:=h.2.1;simp only[List.length_cons];omega
def gq(o:QK):Nat→QK
 | 0=>[]
 | k+1=>if o.getD k 0=2 then gq o k++[(k:Int)]else gq o k
theorem rI(o:QK):∀k,(gq o k).length≤k
 | 0=>by simp[gq]
 | k+1=>by
  have:=rI o k;simp only[gq];split
  ·simp;omega
  ·omega
theorem parts_eq(cl:Qk){o:QK}(hl:o.length≤5000):mO cl o=some (gq o o.length):=by
 have u:iter (fN o) (gq o 0,((0:Nat):Int))=some (gq o o.length):=by
  refine gL (fun k=>(gq o k,(k:Int))) o.length (fun k hk=>?_) ?_
  ·have h:=rI o k;have f:(k:Int)<(o.length:Int):=by omega
   have q:0≤(k:Int):=by omega
   by_cases e:o.getD k 0=2
   ·have j:(o.getD k 0 == 2)=true:=by rw[e];rfl
    simp only[fN,f,q,j,and_self,decide_true,if_true,Int.toNat_natCast,List.length_singleton];rw[if_pos (by omega)];simp only[Option.bind_some,bF (show k≤9000000000000000000 by omega),gq,e,if_true]
   ·have j:(o.getD k 0 == 2)=false:=by rw[beq_eq_false_iff_ne];exact e
    simp only[fN,f,q,j,and_self,decide_true,if_true,Int.toNat_natCast,Bool.false_eq_true,if_false,Option.bind_some,bF (show k≤9000000000000000000 by omega),gq,e]
  ·have f:¬((o.length:Int)<(o.length:Int)):=by omega
   simp only[fN,f,decide_false,Bool.false_eq_true,if_false]
 exact congrArg (fun x=>Option.bind x fun o=>some o) u
theorem Ch.get{cl:Qk}{e:Int}:∀ {a n:Int} {l:Qk} {k:Nat},Ch cl e a l n→k<l.length→a≤(l.getD k c0).1∧(l.getD k c0).1<(l.getD k c0).2.1∧(l.getD k c0).2.1≤n
 | a,n,x::l,0,h,_=>by
  have:=h.2.2.2.2.2.range;have j:=h.1;have f:=h.2.1;simp only[List.getD_cons_zero];omega
 | a,n,x::l,k+1,h,hk=>by
  have f:=h.2.1;have:=h.2.2.2.2.2.get (show k<l.length by simpa using hk);simp only[List.getD_cons_succ];omega
theorem Ic{cl l:Qk}(u:cl.length≤4096)(hl:l.length≤4096)(A:∀k,k<l.length→0≤(l.getD k c0).1∧(l.getD k c0).1<(l.getD k c0).2.1∧(l.getD k c0).2.1≤(cl.length:Int))(o:QK):
  ∃r,gW cl o l=some r:=by
 unfold gW;split
 ·exact⟨_,rfl⟩
 ·obtain⟨r,e,-⟩:=dB (body:=dE cl l) (fun z:Qk×Int=>∃k:Nat,z.2=(k:Int)∧k≤l.length∧z.1.length=k) (fun z=>l.length - z.2.toNat) (fun _=>True) (by
   rintro⟨out,v⟩ ⟨k,rfl,hk,q⟩;simp only at q;by_cases f:k<l.length
   ·left
    obtain⟨a0,I,J⟩:=A k f;have j:(k:Int)<(l.length:Int):=by omega
    have B:0≤(k:Int):=by omega
    have C:IntKind.i64.wrap ((l.getD k c0).2.1 - 1)=(l.getD k c0).2.1 - 1:=wrap_i64 (by omega) (by omega);have D:0≤(l.getD k c0).2.1 - 1∧(l.getD k c0).2.1 - 1<(cl.length:Int):=by omega
    have E:(l.getD k c0).1<(cl.length:Int):=by omega
    have g:∀x:cg,(out.length+([x]:Qk).length)*32≤140737488355328∧out.length+([x]:Qk).length≤9223372036854775807:=fun x=>by simp;omega
    simp only[dE,j,B,C,D,E,a0,g,and_self,decide_true,if_true,Int.toNat_natCast,bF (show k≤9000000000000000000 by omega)];exact⟨_,rfl,⟨k+1,rfl,by omega,by simp[q]⟩,by simp only[Int.toNat_natCast];omega⟩
   ·right
    obtain rfl:k=l.length:=by omega
    refine⟨out,?_,trivial⟩;have j:¬((l.length:Int)<(l.length:Int)):=by omega
    simp only[dE,j,decide_false,Bool.false_eq_true,if_false]) (s:=([],0)) ⟨0,rfl,by omega,rfl⟩
  rw[e];exact⟨_,rfl⟩
end
end Go.Proofs.YtbedjpdfkmfplaaGreatDoor.T
