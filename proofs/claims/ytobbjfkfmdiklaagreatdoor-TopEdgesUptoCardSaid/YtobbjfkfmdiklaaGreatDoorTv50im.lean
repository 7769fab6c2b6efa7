import Derived.Test.YtobbjfkfmdiklaaGreatDoorTv50fm
namespace Go.Proofs.YtobbjfkfmdiklaaGreatDoor.T
open Go Go.Tv Go.Proofs
noncomputable section
structure OM(m:Nat)(o:QK):Prop where
 len:o.length=m+1
 val:∀i,0≤o.getD i 0∧o.getD i 0≤3
 last:o.getD m 0=2
 zero:0<m→o.getD 0 0=0
theorem GB{s:Qx}(hs:s.length≤4096){j:QK}(hb:I2 s.length j)(p:List Bool){st:QK}(a2:st.length≤s.length)(X:∀i,i<st.length→0≤st.getD i 0∧st.getD i 0<(s.length:Int))(h0:0<st.length→st.getD 0 0=0):
  ∃o,iter (cz s j p (st++[(s.length:Int)])) (([]:QK),(0:Int))=some o∧OM st.length o:=by
 obtain⟨b1,b2,b3⟩:=hb;refine dG (fun z:QK×Int=>∃k:Nat,z.2=(k:Int)∧k≤st.length+1∧z.1.length=k∧(∀i,0≤z.1.getD i 0∧z.1.getD i 0≤3)∧(k=st.length+1→z.1.getD st.length 0=2)∧(0<st.length→0<k→z.1.getD 0 0=0)) (fun z=>st.length+1 - z.2.toNat) _ ?_
  ⟨0,rfl,by omega,rfl,fun i=>by simp,fun h=>by omega,fun _ h=>by omega⟩
 rintro⟨o,v⟩ ⟨k,rfl,hk,hl,Y,I,hz⟩;simp only at hl Y I hz;have C:(st++[(s.length:Int)]).length=st.length+1:=by simp
 by_cases a3:k<st.length+1
 ·left
  have E:(k:Int)<((st++[(s.length:Int)]).length:Int):=by rw[C];omega
  have M:0≤(k:Int):=by omega
  have g:∀x:Int,(o.length+([x]:QK).length)*1≤140737488355328∧o.length+([x]:QK).length≤9223372036854775807:=fun x=>by simp;omega
  have N:IntKind.i64.wrap ((k:Int)+1)=((k+1:Nat):Int):=bM (by omega);have q:∀x:Int,cz s j p (st++[(s.length:Int)]) (o,(k:Int))=some (.inl (o++[x],((k+1:Nat):Int)))→0≤x→x≤3→(k=st.length→x=2)→(k<st.length→k=0→x=0) →
    ∃y,cz s j p (st++[(s.length:Int)]) (o,(k:Int))=some (.inl y)∧(∃k:Nat,y.2=(k:Int)∧k≤st.length+1∧y.1.length=k∧(∀i,0≤y.1.getD i 0∧y.1.getD i 0≤3)∧(k=st.length+1→y.1.getD st.length 0=2)∧(0<st.length→0<k→y.1.getD 0 0=0))∧st.length+1 - y.2.toNat<st.length+1 - (k:Int).toNat:=fun x he x0 x3 xl xz=>by
   refine⟨_,he,⟨k+1,rfl,by omega,by simp[hl],fun i=>?_,fun e=>?_,fun hp _=>?_⟩,by simp only[Int.toNat_natCast];omega⟩
   ·simp only;rw[lO];split
    ·exact Y i
    ·split
     ·exact⟨x0,x3⟩
     ·omega
   ·simp only;rw[lO,if_neg (by omega),if_pos (by omega)];exact xl (by omega)
   ·simp only;rw[lO];by_cases e:k=0
    ·rw[if_neg (by omega),if_pos (by omega)];exact xz (by omega) e
    ·rw[if_pos (by omega)];exact hz hp (by omega)
  by_cases u:k=st.length
  ·have J:(st++[(s.length:Int)]).getD k 0=(s.length:Int):=by rw[u];exact lr _ _ _
   have L:((s.length:Int) == (s.length:Int))=true:=by simp
   refine q 2 ?_ (by omega) (by omega) (fun _=>rfl) (fun h=>by omega);simp only[cz,E,M,J,L,g,N,and_self,decide_true,if_true,Option.bind,Int.toNat_natCast]
  ·have J:(st++[(s.length:Int)]).getD k 0=st.getD k 0:=by rw[lO,if_pos (by omega)]
   obtain⟨a0,a1⟩:=X k (by omega);have L:(st.getD k 0 == (s.length:Int))=false:=by rw[beq_eq_false_iff_ne];omega
   by_cases D:st.getD k 0=0
   ·have O:(st.getD k 0 == 0)=true:=by rw[D];rfl
    refine q 0 ?_ (by omega) (by omega) (fun h=>absurd h u) (fun _ _=>rfl);simp only[cz,E,M,J,L,O,g,N,and_self,decide_true,if_true,Option.bind,Int.toNat_natCast,Bool.false_eq_true,if_false]
   ·have O:(st.getD k 0 == 0)=false:=by rw[beq_eq_false_iff_ne];exact D
    have e3:¬(st.getD k 0≥(j.length:Int)):=by rw[b1];omega
    have e4:st.getD k 0<(j.length:Int):=by rw[b1];omega
    have B:k=0→False:=fun e=>by subst e;exact D (h0 (by omega))
    obtain⟨v0,v1⟩:=b3 (st.getD k 0).toNat;have A:∀(hh:((if(j.getD (st.getD k 0).toNat 0 == 0)=true then(if decide (st.getD k 0<(p.length:Int))=true then(if True∧st.getD k 0<(p.length:Int)then some (p.getD (st.getD k 0).toNat false)else none)else some false)else some false):Option Bool)=some false),
      cz s j p (st++[(s.length:Int)]) (o,(k:Int))=some (.inl (o++[j.getD (st.getD k 0).toNat 0],((k+1:Nat):Int))):=fun hh=>by
     simp only[cz,E,M,J,L,O,e3,e4,a0,and_self,decide_true,decide_false,if_true,Int.toNat_natCast,Bool.false_eq_true,if_false];rw[hh];simp only[Option.bind,g,N,and_self,if_true,Bool.false_eq_true,if_false]
    by_cases V:(j.getD (st.getD k 0).toNat 0 == 0)=true
    ·by_cases Z:st.getD k 0<(p.length:Int)
     ·cases e7:p.getD (st.getD k 0).toNat false with
      | true =>
       refine q 3 ?_ (by omega) (by omega) (fun h=>absurd h u) (fun _ h=>(B h).elim);simp only[cz,E,M,J,L,O,e3,e4,V,Z,e7,a0,g,N,and_self,decide_true,decide_false,if_true,Option.bind,Int.toNat_natCast,Bool.false_eq_true,if_false]
      | false =>
       refine q _ (A ?_) v0 (by omega) (fun h=>absurd h u) (fun _ h=>(B h).elim);simp only[V,Z,e7,decide_true,and_self,if_true]
     ·refine q _ (A ?_) v0 (by omega) (fun h=>absurd h u) (fun _ h=>(B h).elim);simp only[V,Z,decide_false,Bool.false_eq_true,if_true,if_false]
    ·refine q _ (A ?_) v0 (by omega) (fun h=>absurd h u) (fun _ h=>(B h).elim);simp only[V,Bool.false_eq_true,if_false]
 ·right
  obtain rfl:k=st.length+1:=by omega
  refine⟨o,?_,⟨hl,Y,I rfl,fun h=>hz h (by omega)⟩⟩;have E:¬(((st.length+1:Nat):Int)<((st++[(s.length:Int)]).length:Int)):=by rw[C];omega
  simp only[cz,E,decide_false,Bool.false_eq_true,if_false]
structure PM(n:Int)(p:XZ×QK):Prop where
 Lj:sW 0 p.1 n
 len:(p.1.length:Int)≤n
 pos:0<n→0<p.1.length
 Mz:OM p.1.length p.2
abbrev c0:cO:=(0,(0,(0,0)))
def uf(c:cO)(j p:Int):Int:=if c.2.2.2=2 then j+p - j % p else j+c.2.2.1
def qz(c:cO):Bool:=c.2.2.2 == 1 || (c.2.2.2 == 0 && c.2.2.1 == 0)
theorem qP{c:cO}{j p:Int}(q:0≤j)(h1:j≤1000000000)(v:1≤p)(z:p≤64)(A:0≤c.2.2.1)(B:c.2.2.1≤2):
  jC c.1 c.2.1 c.2.2.1 c.2.2.2 j p=some (uf c j p)∧j≤uf c j p∧uf c j p≤j+64:=by
 have hm:=Int.emod_nonneg j (show p≠0 by omega);have u:=Int.emod_lt_of_pos j (show 0<p by omega);unfold jC uf;by_cases hk:c.2.2.2=2
 ·rw[if_pos (by rw[hk];rfl),if_pos (by omega),if_pos hk,Int.tmod_eq_emod_of_nonneg q,wrap_i64 (x:=j+p) (by omega) (by omega),wrap_i64 (by omega) (by omega)];exact⟨rfl,by omega,by omega⟩
 ·rw[if_neg (by simpa using hk),if_neg hk,wrap_i64 (by omega) (by omega)];exact⟨rfl,by omega,by omega⟩
theorem empty_eq(c:cO):lf c.1 c.2.1 c.2.2.1 c.2.2.2=some (qz c):=by
 unfold lf qz;by_cases h1:c.2.2.2=1
 ·simp[h1]
 ·by_cases h2:c.2.2.2=0
  ·simp[h2]
  ·simp[h1,h2]
def dV(cl:XZ)(fr:Nat):Nat→Nat
 | 0=>0
 | n+1=>if fr<n+1∧qz (cl.getD n c0)=true then dV cl fr n else n+1
theorem rU{cl:XZ}(o:QK){fr:Nat}:∀ {p:Nat},fr≤p→p≤cl.length→p≤1000000→gf cl o (fr:Int) (p:Int)=some (dV cl fr p:Int)∧fr≤dV cl fr p∧dV cl fr p≤p:=by
 intro p;induction p with
 | zero =>
  intro h1 _ _;obtain rfl:fr=0:=by omega
  refine⟨?_,by simp[dV],by simp[dV]⟩;unfold gf;rw[dH (r:=(0:Int)) (by simp[eW])];rfl
 | succ n A =>
  intro h1 h2 D;by_cases hf:fr<n+1
  ·have u:((n+1:Nat):Int) > (fr:Int):=by omega
   have v:IntKind.i64.wrap (((n+1:Nat):Int) - 1)=(n:Int):=lL (by omega);have x:0≤(n:Int):=by omega
   have z:(n:Int)<(cl.length:Int):=by omega
   by_cases q:qz (cl.getD n c0)=true
   ·have st:eW cl (fr:Int) ((n+1:Nat):Int)=some (.inl (n:Int)):=by simp only[eW,u,v,x,z,and_self,decide_true,if_true,Int.toNat_natCast,empty_eq,Option.bind,q]
    obtain⟨B,C,E⟩:=A (by omega) (by omega) (by omega);have j:dV cl fr (n+1)=dV cl fr n:=by simp only[dV];rw[if_pos ⟨hf,q⟩]
    refine⟨?_,by rw[j];exact C,by rw[j];omega⟩;rw[j,←B];unfold gf;rw[fX st]
   ·have st:eW cl (fr:Int) ((n+1:Nat):Int)=some (.inr ((n+1:Nat):Int)):=by simp only[eW,u,v,x,z,and_self,decide_true,if_true,Int.toNat_natCast,empty_eq,Option.bind,q,Bool.false_eq_true,if_false]
    have j:dV cl fr (n+1)=n+1:=by simp only[dV];rw[if_neg (fun h=>q h.2)]
    refine⟨?_,by rw[j];omega,by rw[j];omega⟩;rw[j];unfold gf;rw[dH st];rfl
  ·obtain rfl:fr=n+1:=by omega
   have j:dV cl (n+1) (n+1)=n+1:=by simp only[dV];rw[if_neg (fun h=>by omega)]
   refine⟨?_,by rw[j];omega,by rw[j];omega⟩;rw[j];unfold gf;rw[dH (r:=((n+1:Nat):Int)) (by simp[eW])];rfl
def CG(cl:XZ):Prop:=cl.length≤4096∧∀i,0≤(cl.getD i c0).2.2.1∧(cl.getD i c0).2.2.1≤2
def pR(cl:XZ)(j:Int)(fr:Nat):Nat→Int
 | 0=>0
 | k+1=>uf (cl.getD (fr+k) c0) (pR cl j fr k) j
theorem nQ{cl:XZ}(hc:CG cl){j:Int}(p:1≤j)(q:j≤64)(fr:Nat):∀k,k≤4096→0≤pR cl j fr k∧pR cl j fr k≤64*(k:Int)
 | 0,_=>by simp[pR]
 | k+1,hk=>by
  obtain⟨u,h1⟩:=nQ hc p q fr k (by omega);obtain⟨-,h2,v⟩:=qP (c:=cl.getD (fr+k) c0) u (by omega) p q (hc.2 _).1 (hc.2 _).2;simp only[pR];omega
def oF(cl:XZ)(j:Int)(p:Nat):Nat→QK
 | 0=>[0]
 | k+1=>oF cl j p k++[pR cl j p (k+1)]
theorem pG(cl:XZ)(j:Int)(p:Nat):∀k,(oF cl j p k).length=k+1
 | 0=>rfl
 | k+1=>by simp[oF,pG cl j p k]
theorem sL(cl:XZ)(j:Int)(p:Nat):∀k i,i≤k→(oF cl j p k).getD i 0=pR cl j p i
 | 0,i,h=>by
  obtain rfl:i=0:=by omega
  rfl
 | k+1,i,h=>by
  simp only[oF];rw[lO,pG];by_cases e:i<k+1
  ·rw[if_pos e];exact sL cl j p k i (by omega)
  ·obtain rfl:i=k+1:=by omega
   rw[if_neg e,if_pos rfl]
theorem Dl{cl:XZ}(hc:CG cl)(o:QK){j:Int}(v:1≤j)(z:j≤64){p q:Nat}(h1:p≤q)(h2:q≤cl.length):kK cl o (p:Int) (q:Int) j=some (oF cl j p (q - p)):=by
 have hl:=hc.1;have A:iter (fU cl (q:Int) j) (oF cl j p 0,((p+0:Nat):Int))=some (oF cl j p (q - p)):=by
  refine iz (fun k=>(oF cl j p k,((p+k:Nat):Int))) (q - p) (fun k hk=>?_) ?_
  ·obtain⟨B,O⟩:=nQ hc v z p k (by omega);obtain⟨C,-,-⟩:=qP (c:=cl.getD (p+k) c0) B (by omega) v z (hc.2 _).1 (hc.2 _).2;have u:((p+k:Nat):Int)<(q:Int):=by omega
   have D:0≤((p+k:Nat):Int):=by omega
   have E:((p+k:Nat):Int)<(cl.length:Int):=by omega
   have I:IntKind.i64.wrap (((k+1:Nat):Int) - 1)=(k:Int):=lL (by omega);have J:0≤(k:Int):=by omega
   have L:(k:Int)<((k+1:Nat):Int):=by omega
   have M:k<k+1:=by omega
   have N:(oF cl j p k).getD k 0=pR cl j p k:=sL _ _ _ _ _ (Nat.le_refl _);have g:∀x:Int,(k+1+([x]:QK).length)*8≤140737488355328∧k+1+([x]:QK).length≤9223372036854775807:=fun x=>by simp;omega
   simp only[fU,u,D,E,pG,I,J,L,M,N,C,g,and_self,decide_true,if_true,Int.toNat_natCast,Option.bind,bM (show p+k≤9000000000000000000 by omega)];rfl
  ·have u:¬(((p+(q - p):Nat):Int)<(q:Int)):=by omega
   simp only[fU,u,decide_false,Bool.false_eq_true,if_false]
 exact congrArg (fun x=>Option.bind x fun o=>some o) A
def wR(cl:XZ)(j:Int)(p q:Nat)(e:Int):Int:=pR cl j p (dV cl p q - p)+(if e=3 then 1 else 0)
theorem rJ{cl:XZ}(hc:CG cl)(o:QK){q:Int}(x:1≤q)(z:q≤64){j p:Nat}(h1:j≤p)(h2:p≤cl.length)(e:Int):
  jA cl o (j:Int) (p:Int) e q=some ((j:Int),((p:Int),(wR cl q j p e,e))):=by
 have hl:=hc.1;obtain⟨A,B,J⟩:=rU (cl:=cl) o h1 h2 (by omega);have u:=Dl hc o x z B (show dV cl j p≤cl.length by omega);obtain⟨L,M⟩:=nQ hc x z j (dV cl j p - j) (by omega);have C:IntKind.i64.wrap (((dV cl j p - j+1:Nat):Int) - 1)=((dV cl j p - j:Nat):Int):=lL (by omega);have D:0≤((dV cl j p - j:Nat):Int):=by omega
 have E:((dV cl j p - j:Nat):Int)<((dV cl j p - j+1:Nat):Int):=by omega
 have I:=sL cl q j (dV cl j p - j) (dV cl j p - j) (Nat.le_refl _);unfold jA nt wR;simp only[A,u,Option.bind,pG,C,D,E,and_self,if_true,Int.toNat_natCast,I];by_cases v:e=3
 ·subst v;simp only[BEq.rfl,if_true];rw[wrap_i64 (by omega) (by omega)]
 ·have:(e == 3)=false:=by rw[beq_eq_false_iff_ne];exact v
  simp only[this,v,if_false,Bool.false_eq_true,Int.add_zero]
theorem Eh(cl:XZ){o:QK}{i:Nat}(h:i<o.length):kR cl o (i:Int)=some (o.getD i 0,o.getD i 0 != 0):=by
 unfold kR;rw[if_pos (by omega),if_pos (by omega),Int.toNat_natCast]
def Ch(cl:XZ)(j:Int):Int→XZ→Int→Prop
 | a,[],n=>a=n
 | a,x::r,n=>x.1=a∧a<x.2.1∧0≤x.2.2.2∧x.2.2.2≤4∧x.2.2.1=wR cl j a.toNat x.2.1.toNat x.2.2.2∧Ch cl j x.2.1 r n
theorem Ch.append{cl:XZ}{j:Int}:∀ {a m n:Int} {l k:XZ},Ch cl j a l m→Ch cl j m k n→Ch cl j a (l++k) n
 | a,m,n,[],k,h,h'=>by simp only[Ch]at h;subst h;exact h'
 | a,m,n,x::l,k,h,h'=>⟨h.1,h.2.1,h.2.2.1,h.2.2.2.1,h.2.2.2.2.1,h.2.2.2.2.2.append h'⟩
theorem Ch.range{cl:XZ}{j:Int}:∀ {a n:Int} {l:XZ},Ch cl j a l n→a+(l.length:Int)≤n
 | a,n,[],h=>by simp only[Ch]at h;simp;omega
 | a,n,x::l,h=>by
  have:=h.2.2.2.2.2.range;have:=h.2.1;simp only[List.length_cons];omega
def fN(o:QK):Nat→QK
 | 0=>[]
 | k+1=>if o.getD k 0=2 then fN o k++[(k:Int)]else fN o k
theorem qK(o:QK):∀k,(fN o k).length≤k
 | 0=>by simp[fN]
 | k+1=>by
  have:=qK o k;simp only[fN];split
  ·simp;omega
  ·omega
theorem parts_eq(cl:XZ){o:QK}(hl:o.length≤5000):lW cl o=some (fN o o.length):=by
 have u:iter (fx o) (fN o 0,((0:Nat):Int))=some (fN o o.length):=by
  refine iz (fun k=>(fN o k,(k:Int))) o.length (fun k hk=>?_) ?_
  ·have h:=qK o k;have j:(k:Int)<(o.length:Int):=by omega
   have q:0≤(k:Int):=by omega
   by_cases e:o.getD k 0=2
   ·have p:(o.getD k 0 == 2)=true:=by rw[e];rfl
    simp only[fx,j,q,p,and_self,decide_true,if_true,Int.toNat_natCast,List.length_singleton];rw[if_pos (by omega)];simp only[Option.bind_some,bM (show k≤9000000000000000000 by omega),fN,e,if_true]
   ·have p:(o.getD k 0 == 2)=false:=by rw[beq_eq_false_iff_ne];exact e
    simp only[fx,j,q,p,and_self,decide_true,if_true,Int.toNat_natCast,Bool.false_eq_true,if_false,Option.bind_some,bM (show k≤9000000000000000000 by omega),fN,e]
  ·have j:¬((o.length:Int)<(o.length:Int)):=by omega
   simp only[fx,j,decide_false,Bool.false_eq_true,if_false]
 exact congrArg (fun x=>Option.bind x fun o=>some o) u
theorem Ch.get{cl:XZ}{j:Int}:∀ {a n:Int} {l:XZ} {k:Nat},Ch cl j a l n→k<l.length→a≤(l.getD k c0).1∧(l.getD k c0).1<(l.getD k c0).2.1∧(l.getD k c0).2.1≤n
 | a,n,x::l,0,h,_=>by
  have:=h.2.2.2.2.2.range;have h1:=h.1;have h2:=h.2.1;simp only[List.getD_cons_zero];omega
 | a,n,x::l,k+1,h,hk=>by
  have h2:=h.2.1;have:=h.2.2.2.2.2.get (show k<l.length by simpa using hk);simp only[List.getD_cons_succ];omega
end
end Go.Proofs.YtobbjfkfmdiklaaGreatDoor.T
