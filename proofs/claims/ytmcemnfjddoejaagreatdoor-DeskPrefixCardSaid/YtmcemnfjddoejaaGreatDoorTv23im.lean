/- Paragraphs of any text. -/
import Derived.Test.YtmcemnfjddoejaaGreatDoorTv23fm
namespace Go.Proofs.YtmcemnfjddoejaaGreatDoor.T
open Go Go.Tv Go.Proofs
noncomputable section
structure OM(m:Nat)(o:List Int):Prop where
 len:o.length=m+1
 val:∀i,0≤o.getD i 0∧o.getD i 0≤3
 last:o.getD m 0=2
 zero:0<m→o.getD 0 0=0
theorem G8{s:List (Int×Int×Int)}(hs:s.length≤4096){c:List Int}(hb:IZ s.length c)(f:List Bool){st:List Int}(a2:st.length≤s.length)(N:∀i,i<st.length→0≤st.getD i 0∧st.getD i 0<(s.length:Int))(h0:0<st.length→st.getD 0 0=0):
  ∃o,iter (b7 s c f (st++[(s.length:Int)])) (([]:List Int),(0:Int))=some o∧OM st.length o:=by
 obtain⟨V,b2,b3⟩:=hb;refine cF (fun z:List Int×Int=>∃k:Nat,z.2=(k:Int)∧k≤st.length+1∧z.1.length=k∧(∀i,0≤z.1.getD i 0∧z.1.getD i 0≤3)∧(k=st.length+1→z.1.getD st.length 0=2)∧(0<st.length→0<k→z.1.getD 0 0=0)) (fun z=>st.length+1 - z.2.toNat) _ ?_
  ⟨0,rfl,by omega,rfl,fun i=>by simp,fun h=>by omega,fun _ h=>by omega⟩
 rintro⟨o,v⟩ ⟨k,rfl,hk,hl,O,C,hz⟩;simp only at hl O C hz;have u:(st++[(s.length:Int)]).length=st.length+1:=by simp
 by_cases a3:k<st.length+1
 ·left
  have B:(k:Int)<((st++[(s.length:Int)]).length:Int):=by rw[u];omega
  have I:0≤(k:Int):=by omega
  have g:∀x:Int,(o.length+([x]:List Int).length)*1≤140737488355328∧o.length+([x]:List Int).length≤9223372036854775807:=fun x=>by simp;omega
  have J:IntKind.i64.wrap ((k:Int)+1)=((k+1:Nat):Int):=bj (by omega);have j:∀x:Int,b7 s c f (st++[(s.length:Int)]) (o,(k:Int))=some (.inl (o++[x],((k+1:Nat):Int)))→0≤x→x≤3→(k=st.length→x=2)→(k<st.length→k=0→x=0) →
    ∃y,b7 s c f (st++[(s.length:Int)]) (o,(k:Int))=some (.inl y)∧(∃k:Nat,y.2=(k:Int)∧k≤st.length+1∧y.1.length=k∧(∀i,0≤y.1.getD i 0∧y.1.getD i 0≤3)∧(k=st.length+1→y.1.getD st.length 0=2)∧(0<st.length→0<k→y.1.getD 0 0=0))∧st.length+1 - y.2.toNat<st.length+1 - (k:Int).toNat:=fun x he x0 x3 xl xz=>by
   refine⟨_,he,⟨k+1,rfl,by omega,by simp[hl],fun i=> ?_,fun e=> ?_,fun hp _=> ?_⟩,by simp only[Int.toNat_natCast];omega⟩
   ·simp only;rw[kW];split
    ·exact O i
    ·split
     ·exact⟨x0,x3⟩
     ·omega
   ·simp only;rw[kW,if_neg (by omega),if_pos (by omega)];exact xl (by omega)
   ·simp only;rw[kW];by_cases e:k=0
    ·rw[if_neg (by omega),if_pos (by omega)];exact xz (by omega) e
    ·rw[if_pos (by omega)];exact hz hp (by omega)
  by_cases m:k=st.length
  ·have D:(st++[(s.length:Int)]).getD k 0=(s.length:Int):=by rw[m];exact kT _ _ _
   have E:((s.length:Int) == (s.length:Int))=true:=by simp
   refine j 2 ?_ (by omega) (by omega) (fun _=>rfl) (fun h=>by omega);simp only[b7,B,I,D,E,g,J,and_self,decide_true,if_true,Option.bind,Int.toNat_natCast]
  ·have D:(st++[(s.length:Int)]).getD k 0=st.getD k 0:=by rw[kW,if_pos (by omega)]
   obtain⟨a0,a1⟩:=N k (by omega);have E:(st.getD k 0 == (s.length:Int))=false:=by rw[beq_eq_false_iff_ne];omega
   by_cases A:st.getD k 0=0
   ·have L:(st.getD k 0 == 0)=true:=by rw[A];rfl
    refine j 0 ?_ (by omega) (by omega) (fun h=>absurd h m) (fun _ _=>rfl);simp only[b7,B,I,D,E,L,g,J,and_self,decide_true,if_true,Option.bind,Int.toNat_natCast,Bool.false_eq_true,if_false]
   ·have L:(st.getD k 0 == 0)=false:=by rw[beq_eq_false_iff_ne];exact A
    have X:¬(st.getD k 0≥(c.length:Int)):=by rw[V];omega
    have Y:st.getD k 0<(c.length:Int):=by rw[V];omega
    have q:k=0→False:=fun e=>by subst e;exact A (h0 (by omega))
    obtain⟨v0,v1⟩:=b3 (st.getD k 0).toNat;have p:∀(Z:((if(c.getD (st.getD k 0).toNat 0 == 0)=true then(if decide (st.getD k 0<(f.length:Int))=true then(if True∧st.getD k 0<(f.length:Int)then some (f.getD (st.getD k 0).toNat false)else none)else some false)else some false):Option Bool)=some false),
      b7 s c f (st++[(s.length:Int)]) (o,(k:Int))=some (.inl (o++[c.getD (st.getD k 0).toNat 0],((k+1:Nat):Int))):=fun Z=>by
     simp only[b7,B,I,D,E,L,X,Y,a0,and_self,decide_true,decide_false,if_true,Int.toNat_natCast,Bool.false_eq_true,if_false];rw[Z];simp only[Option.bind,g,J,and_self,if_true,Bool.false_eq_true,if_false]
    by_cases M:(c.getD (st.getD k 0).toNat 0 == 0)=true
    ·by_cases R:st.getD k 0<(f.length:Int)
     ·cases e7:f.getD (st.getD k 0).toNat false with
      | true =>
       refine j 3 ?_ (by omega) (by omega) (fun h=>absurd h m) (fun _ h=>(q h).elim);simp only[b7,B,I,D,E,L,X,Y,M,R,e7,a0,g,J,and_self,decide_true,decide_false,if_true,Option.bind,Int.toNat_natCast,Bool.false_eq_true,if_false]
      | false =>
       refine j _ (p ?_) v0 (by omega) (fun h=>absurd h m) (fun _ h=>(q h).elim);simp only[M,R,e7,decide_true,and_self,if_true]
     ·refine j _ (p ?_) v0 (by omega) (fun h=>absurd h m) (fun _ h=>(q h).elim);simp only[M,R,decide_false,Bool.false_eq_true,if_true,if_false]
    ·refine j _ (p ?_) v0 (by omega) (fun h=>absurd h m) (fun _ h=>(q h).elim);simp only[M,Bool.false_eq_true,if_false]
 ·right
  obtain rfl:k=st.length+1:=by omega
  refine⟨o,?_,⟨hl,O,C rfl,fun h=>hz h (by omega)⟩⟩;have B:¬(((st.length+1:Nat):Int)<((st++[(s.length:Int)]).length:Int)):=by rw[u];omega
  simp only[b7,B,decide_false,Bool.false_eq_true,if_false]
structure PM(n:Int)(p:List bB×List Int):Prop where
 J5:Ay 0 p.1 n
 len:(p.1.length:Int)≤n
 pos:0<n→0<p.1.length
 I0:OM p.1.length p.2
theorem Fv{x:List Int}(hb:Bytes x)(hl:x.length≤4096):∃p,aM Ki x=some (p,0)∧PM (x.length:Int) p:=by
 obtain⟨s,v,k,z⟩:=Jr hb hl;have J:=k.range;have e:s.length≤4096:=by omega
 obtain⟨m,A,L⟩:=zp MM (w:=s.map fun x=>F3 [] x.1) (by simpa using e);obtain⟨B,C,q⟩:=zp MN (w:=s.map fun x=>F3 fW x.1) (by simpa using e);rw[List.length_map]at q;obtain⟨⟨cl,st⟩,D,c⟩:=FL (pX pW.2.2) k (by omega) m;simp only at c;obtain⟨o,E,u⟩:=G8 e q (List.replicate (s.length+1) false) (st:=st) (by have:=c.len;have:=c.le;omega) (fun i hi=>c.at_ i hi) (fun h=>c.zero (by have:=c.len;omega));rw[c.len]at u;have I:=c.le;refine⟨(cl,o),?_,⟨c.J5,by simp only;omega,fun h=>c.some_ (by omega),u⟩⟩;have f:¬((x.length:Int) > 4096):=by omega
 have j:gu s m B (List.replicate (s.length+1) false) (some (Hr iG))=some (cl,o):=by unfold gu kZ;simp only[D,Option.bind];rw[if_pos (by have:=c.len;simp;omega)];simp only[E]
 unfold aM Ki;simp only[Option.getD,Option.isNone,Option.isSome,f,decide_false,Bool.false_eq_true,if_false,if_true,Option.bind,v,Ey (pX pW.1) e,Ey (pX pW.2.1) e,Ii,I1,A,C,Gw e,j]
end
end Go.Proofs.YtmcemnfjddoejaaGreatDoor.T
namespace Go.Proofs.YtmcemnfjddoejaaGreatDoor.T
open Go Go.Tv Go.Proofs
noncomputable section
abbrev c0:bB:=(0,(0,(0,0)))
def uP(c:bB)(e f:Int):Int:=if c.2.2.2=2 then e+f - e % f else e+c.2.2.1
def ry(c:bB):Bool:=c.2.2.2 == 1 || (c.2.2.2 == 0 && c.2.2.1 == 0)
theorem vw{c:bB}{e f:Int}(k:0≤e)(p:e≤1000000000)(q:1≤f)(u:f≤64)(v:0≤c.2.2.1)(z:c.2.2.1≤2):
  jy c.1 c.2.1 c.2.2.1 c.2.2.2 e f=some (uP c e f)∧e≤uP c e f∧uP c e f≤e+64:=by
 have A:=Int.emod_nonneg e (show f≠0 by omega);have m:=Int.emod_lt_of_pos e (show 0<f by omega);unfold jy uP;by_cases j:c.2.2.2=2
 ·rw[if_pos (by rw[j];rfl),if_pos (by omega),if_pos j,Int.tmod_eq_emod_of_nonneg k,wrap_i64 (x:=e+f) (by omega) (by omega),wrap_i64 (by omega) (by omega)];exact⟨rfl,by omega,by omega⟩
 ·rw[if_neg (by simpa using j),if_neg j,wrap_i64 (by omega) (by omega)];exact⟨rfl,by omega,by omega⟩
theorem empty_eq(c:bB):lz c.1 c.2.1 c.2.2.1 c.2.2.2=some (ry c):=by
 unfold lz ry;by_cases e:c.2.2.2=1
 ·simp[e]
 ·by_cases f:c.2.2.2=0
  ·simp[f]
  ·simp[e,f]
def dD(cl:List bB)(fr:Nat):Nat→Nat
 | 0=>0
 | n+1=>if fr<n+1∧ry (cl.getD n c0)=true then dD cl fr n else n+1
theorem rA{cl:List bB}(o:List Int){fr:Nat}:∀ {f:Nat},fr≤f→f≤cl.length→f≤1000000→fC cl o (fr:Int) (f:Int)=some (dD cl fr f:Int)∧fr≤dD cl fr f∧dD cl fr f≤f:=by
 intro f;induction f with
 | zero =>
  intro u _ _;obtain rfl:fr=0:=by omega
  refine⟨?_,by simp[dD],by simp[dD]⟩;unfold fC;rw[bM (r:=(0:Int)) (by simp[dU])];rfl
 | succ n v =>
  intro u B C;by_cases x:fr<n+1
  ·have k:((n+1:Nat):Int) > (fr:Int):=by omega
   have m:IntKind.i64.wrap (((n+1:Nat):Int) - 1)=(n:Int):=lC (by omega);have p:0≤(n:Int):=by omega
   have q:(n:Int)<(cl.length:Int):=by omega
   by_cases j:ry (cl.getD n c0)=true
   ·have st:dU cl (fr:Int) ((n+1:Nat):Int)=some (.inl (n:Int)):=by simp only[dU,k,m,p,q,and_self,decide_true,if_true,Int.toNat_natCast,empty_eq,Option.bind,j]
    obtain⟨z,A,D⟩:=v (by omega) (by omega) (by omega);have e:dD cl fr (n+1)=dD cl fr n:=by simp only[dD];rw[if_pos ⟨x,j⟩]
    refine⟨?_,by rw[e];exact A,by rw[e];omega⟩;rw[e,←z];unfold fC;rw[dE st]
   ·have st:dU cl (fr:Int) ((n+1:Nat):Int)=some (.inr ((n+1:Nat):Int)):=by simp only[dU,k,m,p,q,and_self,decide_true,if_true,Int.toNat_natCast,empty_eq,Option.bind,j,Bool.false_eq_true,if_false]
    have e:dD cl fr (n+1)=n+1:=by simp only[dD];rw[if_neg (fun h=>j h.2)]
    refine⟨?_,by rw[e];omega,by rw[e];omega⟩;rw[e];unfold fC;rw[bM st];rfl
  ·obtain rfl:fr=n+1:=by omega
   have e:dD cl (n+1) (n+1)=n+1:=by simp only[dD];rw[if_neg (fun h=>by omega)]
   refine⟨?_,by rw[e];omega,by rw[e];omega⟩;rw[e];unfold fC;rw[bM (r:=((n+1:Nat):Int)) (by simp[dU])];rfl
def DS(cl:List bB):Prop:=cl.length≤4096∧∀i,0≤(cl.getD i c0).2.2.1∧(cl.getD i c0).2.2.1≤2
def re(cl:List bB)(e:Int)(fr:Nat):Nat→Int
 | 0=>0
 | k+1=>uP (cl.getD (fr+k) c0) (re cl e fr k) e
theorem sB{cl:List bB}(f:DS cl){e:Int}(j:1≤e)(m:e≤64)(fr:Nat):∀k,k≤4096→0≤re cl e fr k∧re cl e fr k≤64*(k:Int)
 | 0,_=>by simp[re]
 | k+1,q=>by
  obtain⟨p,u⟩:=sB f j m fr k (by omega);obtain⟨-,v,x⟩:=vw (c:=cl.getD (fr+k) c0) p (by omega) j m (f.2 _).1 (f.2 _).2;simp only[re];omega
def n5(cl:List bB)(e:Int)(f:Nat):Nat→List Int
 | 0=>[0]
 | k+1=>n5 cl e f k++[re cl e f (k+1)]
theorem kI(cl:List bB)(tab:Int)(e:Nat):∀k,(n5 cl tab e k).length=k+1
 | 0=>rfl
 | k+1=>by simp[n5,kI cl tab e k]
theorem pZ(cl:List bB)(tab:Int)(f:Nat):∀k i,i≤k→(n5 cl tab f k).getD i 0=re cl tab f i
 | 0,i,h=>by
  obtain rfl:i=0:=by omega
  rfl
 | k+1,i,h=>by
  simp only[n5];rw[kW,kI];by_cases e:i<k+1
  ·rw[if_pos e];exact pZ cl tab f k i (by omega)
  ·obtain rfl:i=k+1:=by omega
   rw[if_neg e,if_pos rfl]
theorem vM{cl:List bB}(m:DS cl)(o:List Int){e:Int}(q:1≤e)(u:e≤64){f j:Nat}(M:f≤j)(N:j≤cl.length):iT cl o (f:Int) (j:Int) e=some (n5 cl e f (j - f)):=by
 have hl:=m.1;have v:iter (fe cl (j:Int) e) (n5 cl e f 0,((f+0:Nat):Int))=some (n5 cl e f (j - f)):=by
  refine eg (fun k=>(n5 cl e f k,((f+k:Nat):Int))) (j - f) (fun k O=> ?_) ?_
  ·obtain⟨z,R⟩:=sB m q u f k (by omega);obtain⟨A,-,-⟩:=vw (c:=cl.getD (f+k) c0) z (by omega) q u (m.2 _).1 (m.2 _).2;have p:((f+k:Nat):Int)<(j:Int):=by omega
   have B:0≤((f+k:Nat):Int):=by omega
   have C:((f+k:Nat):Int)<(cl.length:Int):=by omega
   have D:IntKind.i64.wrap (((k+1:Nat):Int) - 1)=(k:Int):=lC (by omega);have E:0≤(k:Int):=by omega
   have I:(k:Int)<((k+1:Nat):Int):=by omega
   have J:k<k+1:=by omega
   have L:(n5 cl e f k).getD k 0=re cl e f k:=pZ _ _ _ _ _ (Nat.le_refl _);have g:∀x:Int,(k+1+([x]:List Int).length)*8≤140737488355328∧k+1+([x]:List Int).length≤9223372036854775807:=fun x=>by simp;omega
   simp only[fe,p,B,C,kI,D,E,I,J,L,A,g,and_self,decide_true,if_true,Int.toNat_natCast,Option.bind,bj (show f+k≤9000000000000000000 by omega)];rfl
  ·have p:¬(((f+(j - f):Nat):Int)<(j:Int)):=by omega
   simp only[fe,p,decide_false,Bool.false_eq_true,if_false]
 exact congrArg (fun x=>Option.bind x fun o=>some o) v
def vX(cl:List bB)(c:Int)(f j:Nat)(e:Int):Int:=re cl c f (dD cl f j - f)+(if e=3 then 1 else 0)
theorem rS{cl:List bB}(p:DS cl)(o:List Int){k:Int}(u:1≤k)(v:k≤64){f j:Nat}(x:f≤j)(z:j≤cl.length)(e:Int):
  jo cl o (f:Int) (j:Int) e k=some ((f:Int),((j:Int),(vX cl k f j e,e))):=by
 have hl:=p.1;obtain⟨A,B,J⟩:=rA (cl:=cl) o x z (by omega);have m:=vM p o u v B (show dD cl f j≤cl.length by omega);obtain⟨L,M⟩:=sB p u v f (dD cl f j - f) (by omega);have C:IntKind.i64.wrap (((dD cl f j - f+1:Nat):Int) - 1)=((dD cl f j - f:Nat):Int):=lC (by omega);have D:0≤((dD cl f j - f:Nat):Int):=by omega
 have E:((dD cl f j - f:Nat):Int)<((dD cl f j - f+1:Nat):Int):=by omega
 have I:=pZ cl k f (dD cl f j - f) (dD cl f j - f) (Nat.le_refl _);unfold jo ny vX;simp only[A,m,Option.bind,kI,C,D,E,and_self,if_true,Int.toNat_natCast,I];by_cases q:e=3
 ·subst q;simp only[BEq.rfl,if_true];rw[wrap_i64 (by omega) (by omega)]
 ·have:(e == 3)=false:=by rw[beq_eq_false_iff_ne];exact q
  simp only[this,q,if_false,Bool.false_eq_true,Int.add_zero]
end
end Go.Proofs.YtmcemnfjddoejaaGreatDoor.T
namespace Go.Proofs.YtmcemnfjddoejaaGreatDoor.T
open Go Go.Tv Go.Proofs
noncomputable section
theorem Ex(cl:List bB){o:List Int}{i:Nat}(h:i<o.length):kM cl o (i:Int)=some (o.getD i 0,o.getD i 0 != 0):=by
 unfold kM;rw[if_pos (by omega),if_pos (by omega),Int.toNat_natCast]
end
end Go.Proofs.YtmcemnfjddoejaaGreatDoor.T
namespace Go.Proofs.YtmcemnfjddoejaaGreatDoor.T
open Go Go.Tv Go.Proofs
noncomputable section
def Ch(cl:List bB)(c:Int):Int→List bB→Int→Prop
 | a,[],n=>a=n
 | a,x::r,n=>x.1=a∧a<x.2.1∧0≤x.2.2.2∧x.2.2.2≤4∧x.2.2.1=vX cl c a.toNat x.2.1.toNat x.2.2.2∧Ch cl c x.2.1 r n
theorem Ch.append{cl:List bB}{e:Int}:∀ {a m n:Int} {l k:List bB},Ch cl e a l m→Ch cl e m k n→Ch cl e a (l++k) n
 | a,m,n,[],k,h,h'=>by simp only[Ch]at h;subst h;exact h'
 | a,m,n,x::l,k,h,h'=>⟨h.1,h.2.1,h.2.2.1,h.2.2.2.1,h.2.2.2.2.1,h.2.2.2.2.2.append h'⟩
theorem Ch.range{cl:List bB}{c:Int}:∀ {a n:Int} {l:List bB},Ch cl c a l n→a+(l.length:Int)≤n
 | a,n,[],h=>by simp only[Ch]at h;simp;omega
 | a,n,x::l,h=>by
  have:=h.2.2.2.2.2.range;have:=h.2.1;simp only[List.length_cons];omega
end
end Go.Proofs.YtmcemnfjddoejaaGreatDoor.T
namespace Go.Proofs.YtmcemnfjddoejaaGreatDoor.T
open Go Go.Tv Go.Proofs
noncomputable section
def dO(o:List Int):Nat→List Int
 | 0=>[]
 | k+1=>if o.getD k 0=2 then dO o k++[(k:Int)]else dO o k
theorem qW(o:List Int):∀k,(dO o k).length≤k
 | 0=>by simp[dO]
 | k+1=>by
  have:=qW o k;simp only[dO];split
  ·simp;omega
  ·omega
theorem parts_eq(cl:List bB){o:List Int}(hl:o.length≤5000):lL cl o=some (dO o o.length):=by
 have m:iter (eF o) (dO o 0,((0:Nat):Int))=some (dO o o.length):=by
  refine eg (fun k=>(dO o k,(k:Int))) o.length (fun k p=> ?_) ?_
  ·have h:=qW o k;have c:(k:Int)<(o.length:Int):=by omega
   have j:0≤(k:Int):=by omega
   by_cases e:o.getD k 0=2
   ·have f:(o.getD k 0 == 2)=true:=by rw[e];rfl
    simp only[eF,c,j,f,and_self,decide_true,if_true,Int.toNat_natCast,List.length_singleton];rw[if_pos (by omega)];simp only[Option.bind_some,bj (show k≤9000000000000000000 by omega),dO,e,if_true]
   ·have f:(o.getD k 0 == 2)=false:=by rw[beq_eq_false_iff_ne];exact e
    simp only[eF,c,j,f,and_self,decide_true,if_true,Int.toNat_natCast,Bool.false_eq_true,if_false,Option.bind_some,bj (show k≤9000000000000000000 by omega),dO,e]
  ·have c:¬((o.length:Int)<(o.length:Int)):=by omega
   simp only[eF,c,decide_false,Bool.false_eq_true,if_false]
 exact congrArg (fun x=>Option.bind x fun o=>some o) m
end
end Go.Proofs.YtmcemnfjddoejaaGreatDoor.T
namespace Go.Proofs.YtmcemnfjddoejaaGreatDoor.T
open Go Go.Tv Go.Proofs
noncomputable section
theorem Ch.get{cl:List bB}{tab:Int}:∀ {a n:Int} {l:List bB} {k:Nat},Ch cl tab a l n→k<l.length→a≤(l.getD k c0).1∧(l.getD k c0).1<(l.getD k c0).2.1∧(l.getD k c0).2.1≤n
 | a,n,x::l,0,h,_=>by
  have:=h.2.2.2.2.2.range;have f:=h.1;have c:=h.2.1;simp only[List.getD_cons_zero];omega
 | a,n,x::l,k+1,h,e=>by
  have c:=h.2.1;have:=h.2.2.2.2.2.get (show k<l.length by simpa using e);simp only[List.getD_cons_succ];omega
theorem GY{cl l:List bB}(m:cl.length≤4096)(hl:l.length≤4096)(p:∀k,k<l.length→0≤(l.getD k c0).1∧(l.getD k c0).1<(l.getD k c0).2.1∧(l.getD k c0).2.1≤(cl.length:Int))(o:List Int):
  ∃r,fT cl o l=some r:=by
 unfold fT;split
 ·exact⟨_,rfl⟩
 ·obtain⟨r,e,-⟩:=cF (body:=db cl l) (fun z:List bB×Int=>∃k:Nat,z.2=(k:Int)∧k≤l.length∧z.1.length=k) (fun z=>l.length - z.2.toNat) (fun _=>True) (by
   rintro⟨out,v⟩ ⟨k,rfl,C,j⟩;simp only at j;by_cases c:k<l.length
   ·left
    obtain⟨a0,D,E⟩:=p k c;have f:(k:Int)<(l.length:Int):=by omega
    have q:0≤(k:Int):=by omega
    have u:IntKind.i64.wrap ((l.getD k c0).2.1 - 1)=(l.getD k c0).2.1 - 1:=wrap_i64 (by omega) (by omega);have A:0≤(l.getD k c0).2.1 - 1∧(l.getD k c0).2.1 - 1<(cl.length:Int):=by omega
    have B:(l.getD k c0).1<(cl.length:Int):=by omega
    have g:∀x:bB,(out.length+([x]:List bB).length)*32≤140737488355328∧out.length+([x]:List bB).length≤9223372036854775807:=fun x=>by simp;omega
    simp only[db,f,q,u,A,B,a0,g,and_self,decide_true,if_true,Int.toNat_natCast,bj (show k≤9000000000000000000 by omega)];exact⟨_,rfl,⟨k+1,rfl,by omega,by simp[j]⟩,by simp only[Int.toNat_natCast];omega⟩
   ·right
    obtain rfl:k=l.length:=by omega
    refine⟨out,?_,trivial⟩;have f:¬((l.length:Int)<(l.length:Int)):=by omega
    simp only[db,f,decide_false,Bool.false_eq_true,if_false]) (s:=([],0)) ⟨0,rfl,by omega,rfl⟩
  rw[e];exact⟨_,rfl⟩
end
end Go.Proofs.YtmcemnfjddoejaaGreatDoor.T
