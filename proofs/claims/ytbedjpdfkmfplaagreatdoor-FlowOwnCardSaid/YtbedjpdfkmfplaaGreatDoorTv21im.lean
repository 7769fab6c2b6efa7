/- Paragraphs of any text. -/
import Derived.Test.YtbedjpdfkmfplaaGreatDoorTv21gm
namespace Go.Proofs.YtbedjpdfkmfplaaGreatDoor.T
open Go Go.Tv Go.Proofs
noncomputable section
structure OM(m:Nat)(o:List Int):Prop where
 len:o.length=m+1
 val:∀i,0≤o.getD i 0∧o.getD i 0≤3
 last:o.getD m 0=2
 zero:0<m→o.getD 0 0=0
theorem aGN{s:List (Int×Int×Int)}(hs:s.length≤4096){breaks:List Int}(hb:Ops s.length breaks)(points:List Bool){st:List Int}(hst:st.length≤s.length)(hat:∀i,i<st.length→0≤st.getD i 0∧st.getD i 0<(s.length:Int))(h0:0<st.length→st.getD 0 0=0):
  ∃o,iter (cT s breaks points (st++[(s.length:Int)])) (([]:List Int),(0:Int))=some o∧OM st.length o:=by
 obtain⟨b1,b2,b3⟩:=hb
 refine dQ (fun z:List Int×Int=>∃k:Nat,z.2=(k:Int)∧k≤st.length+1∧z.1.length=k∧(∀i,0≤z.1.getD i 0∧z.1.getD i 0≤3)∧(k=st.length+1→z.1.getD st.length 0=2)∧(0<st.length→0<k→z.1.getD 0 0=0)) (fun z=>st.length+1 - z.2.toNat) _ ?_
  ⟨0,rfl,by omega,rfl,fun i=>by simp,fun h=>by omega,fun _ h=>by omega⟩
 rintro⟨o,v⟩ ⟨k,rfl,hk,hl,hv,hla,hz⟩
 simp only at hl hv hla hz
 have hlen:(st++[(s.length:Int)]).length=st.length+1:=by simp
 by_cases hlt:k<st.length+1
 ·left
  have q1:(k:Int)<((st++[(s.length:Int)]).length:Int):=by rw[hlen];omega
  have q2:0≤(k:Int):=by omega
  have g:∀x:Int,(o.length+([x]:List Int).length)*1≤140737488355328∧o.length+([x]:List Int).length≤9223372036854775807:=fun x=>by simp;omega
  have q4:IntKind.i64.wrap ((k:Int)+1)=((k+1:Nat):Int):=bM (by omega)
  have fin:∀x:Int,cT s breaks points (st++[(s.length:Int)]) (o,(k:Int))=some (.inl (o++[x],((k+1:Nat):Int)))→0≤x→x≤3→(k=st.length→x=2)→(k<st.length→k=0→x=0) →
    ∃y,cT s breaks points (st++[(s.length:Int)]) (o,(k:Int))=some (.inl y)∧(∃k:Nat,y.2=(k:Int)∧k≤st.length+1∧y.1.length=k∧(∀i,0≤y.1.getD i 0∧y.1.getD i 0≤3)∧(k=st.length+1→y.1.getD st.length 0=2)∧(0<st.length→0<k→y.1.getD 0 0=0))∧st.length+1 - y.2.toNat<st.length+1 - (k:Int).toNat:=fun x he x0 x3 xl xz=>by
   refine⟨_,he,⟨k+1,rfl,by omega,by simp[hl],fun i=> ?_,fun e=> ?_,fun hp _=> ?_⟩,by simp only[Int.toNat_natCast];omega⟩
   ·simp only
    rw[nT]
    split
    ·exact hv i
    ·split
     ·exact⟨x0,x3⟩
     ·omega
   ·simp only
    rw[nT,if_neg (by omega),if_pos (by omega)]
    exact xl (by omega)
   ·simp only
    rw[nT]
    by_cases e:k=0
    ·rw[if_neg (by omega),if_pos (by omega)]
     exact xz (by omega) e
    ·rw[if_pos (by omega)]
     exact hz hp (by omega)
  by_cases hke:k=st.length
  ·have e0:(st++[(s.length:Int)]).getD k 0=(s.length:Int):=by rw[hke];exact oC _ _ _
   have e1:((s.length:Int) == (s.length:Int))=true:=by simp
   refine fin 2 ?_ (by omega) (by omega) (fun _=>rfl) (fun h=>by omega)
   simp only[cT,q1,q2,e0,e1,g,q4,and_self,decide_true,if_true,Option.bind,Int.toNat_natCast]
  ·have e0:(st++[(s.length:Int)]).getD k 0=st.getD k 0:=by rw[nT,if_pos (by omega)]
   obtain⟨a0,a1⟩:=hat k (by omega)
   have e1:(st.getD k 0 == (s.length:Int))=false:=by rw[beq_eq_false_iff_ne];omega
   by_cases hz0:st.getD k 0=0
   ·have e2:(st.getD k 0 == 0)=true:=by rw[hz0];rfl
    refine fin 0 ?_ (by omega) (by omega) (fun h=>absurd h hke) (fun _ _=>rfl)
    simp only[cT,q1,q2,e0,e1,e2,g,q4,and_self,decide_true,if_true,Option.bind,Int.toNat_natCast,Bool.false_eq_true,if_false]
   ·have e2:(st.getD k 0 == 0)=false:=by rw[beq_eq_false_iff_ne];exact hz0
    have e3:¬(st.getD k 0≥(breaks.length:Int)):=by rw[b1];omega
    have e4:st.getD k 0<(breaks.length:Int):=by rw[b1];omega
    have hk0:k=0→False:=fun e=>by subst e;exact hz0 (h0 (by omega))
    obtain⟨v0,v1⟩:=b3 (st.getD k 0).toNat
    have keep:∀(hh:((if(breaks.getD (st.getD k 0).toNat 0 == 0)=true then(if decide (st.getD k 0<(points.length:Int))=true then(if True∧st.getD k 0<(points.length:Int)then some (points.getD (st.getD k 0).toNat false)else none)else some false)else some false):Option Bool)=some false),
      cT s breaks points (st++[(s.length:Int)]) (o,(k:Int))=some (.inl (o++[breaks.getD (st.getD k 0).toNat 0],((k+1:Nat):Int))):=fun hh=>by
     simp only[cT,q1,q2,e0,e1,e2,e3,e4,a0,and_self,decide_true,decide_false,if_true,Int.toNat_natCast,Bool.false_eq_true,if_false]
     rw[hh]
     simp only[Option.bind,g,q4,and_self,if_true,Bool.false_eq_true,if_false]
    by_cases e5:(breaks.getD (st.getD k 0).toNat 0 == 0)=true
    ·by_cases e6:st.getD k 0<(points.length:Int)
     ·cases e7:points.getD (st.getD k 0).toNat false with
      | true =>
       refine fin 3 ?_ (by omega) (by omega) (fun h=>absurd h hke) (fun _ h=>(hk0 h).elim)
       simp only[cT,q1,q2,e0,e1,e2,e3,e4,e5,e6,e7,a0,g,q4,and_self,decide_true,decide_false,if_true,Option.bind,Int.toNat_natCast,Bool.false_eq_true,if_false]
      | false =>
       refine fin _ (keep ?_) v0 (by omega) (fun h=>absurd h hke) (fun _ h=>(hk0 h).elim)
       simp only[e5,e6,e7,decide_true,and_self,if_true]
     ·refine fin _ (keep ?_) v0 (by omega) (fun h=>absurd h hke) (fun _ h=>(hk0 h).elim)
      simp only[e5,e6,decide_false,Bool.false_eq_true,if_true,if_false]
    ·refine fin _ (keep ?_) v0 (by omega) (fun h=>absurd h hke) (fun _ h=>(hk0 h).elim)
     simp only[e5,Bool.false_eq_true,if_false]
 ·right
  obtain rfl:k=st.length+1:=by omega
  refine⟨o,?_,⟨hl,hv,hla rfl,fun h=>hz h (by omega)⟩⟩
  have q1:¬(((st.length+1:Nat):Int)<((st++[(s.length:Int)]).length:Int)):=by rw[hlen];omega
  simp only[cT,q1,decide_false,Bool.false_eq_true,if_false]
structure PM(n:Int)(p:List cV×List Int):Prop where
 cov:CvC 0 p.1 n
 len:(p.1.length:Int)≤n
 pos:0<n→0<p.1.length
 opp:OM p.1.length p.2
theorem aFV{x:List Int}(hb:Bytes x)(hl:x.length≤4096):∃p,bA exB x=some (p,0)∧PM (x.length:Int) p:=by
 obtain⟨s,e1,hc,hsl⟩:=aJq hb hl
 have hr:=hc.range
 have hs:s.length≤4096:=by omega
 obtain⟨o1,e2,h2⟩:=aAL mo1 (w:=s.map fun x=>ofR [] x.1) (by simpa using hs)
 obtain⟨o2,e3,h3⟩:=aAL mo2 (w:=s.map fun x=>ofR j6 x.1) (by simpa using hs)
 rw[List.length_map]at h3
 obtain⟨⟨cl,st⟩,e4,hM⟩:=aFN (vZ wC.2.2) hc (by omega) o1
 simp only at hM
 obtain⟨o,e5,hO⟩:=aGN hs h3 (List.replicate (s.length+1) false) (st:=st) (by have:=hM.len;have:=hM.le;omega) (fun i hi=>hM.at_ i hi) (fun h=>hM.zero (by have:=hM.len;omega))
 rw[hM.len]at hO
 have hle:=hM.le
 refine⟨(cl,o),?_,⟨hM.cov,by simp only;omega,fun h=>hM.some_ (by omega),hO⟩⟩
 have hlen:¬((x.length:Int) > 4096):=by omega
 have hmk:iG s o1 o2 (List.replicate (s.length+1) false) (some (aGU mP))=some (cl,o):=by
  unfold iG nM
  simp only[e4,Option.bind]
  rw[if_pos (by have:=hM.len;simp;omega)]
  simp only[e5]
 unfold bA exB
 simp only[Option.getD,Option.isNone,Option.isSome,hlen,decide_false,Bool.false_eq_true,if_false,if_true,Option.bind,e1,aFl (vZ wC.1) hs,aFl (vZ wC.2.1) hs,aIp,aIH,e2,e3,aH4 hs,hmk]
end
end Go.Proofs.YtbedjpdfkmfplaaGreatDoor.T
namespace Go.Proofs.YtbedjpdfkmfplaaGreatDoor.T
open Go Go.Tv Go.Proofs
noncomputable section
abbrev c0:cV:=(0,(0,(0,0)))
def K3(c:cV)(col tab:Int):Int:=if c.2.2.2=2 then col+tab - col % tab else col+c.2.2.1
def xV(c:cV):Bool:=c.2.2.2 == 1 || (c.2.2.2 == 0 && c.2.2.1 == 0)
theorem M7{c:cV}{col tab:Int}(h0:0≤col)(h1:col≤1000000000)(t0:1≤tab)(t1:tab≤64)(c1:0≤c.2.2.1)(c2:c.2.2.1≤2):
  kQ c.1 c.2.1 c.2.2.1 c.2.2.2 col tab=some (K3 c col tab)∧col≤K3 c col tab∧K3 c col tab≤col+64:=by
 have hm:=Int.emod_nonneg col (show tab≠0 by omega)
 have hm2:=Int.emod_lt_of_pos col (show 0<tab by omega)
 unfold kQ K3
 by_cases hk:c.2.2.2=2
 ·rw[if_pos (by rw[hk];rfl),if_pos (by omega),if_pos hk,Int.tmod_eq_emod_of_nonneg h0,wrap_i64 (x:=col+tab) (by omega) (by omega),wrap_i64 (by omega) (by omega)]
  exact⟨rfl,by omega,by omega⟩
 ·rw[if_neg (by simpa using hk),if_neg hk,wrap_i64 (by omega) (by omega)]
  exact⟨rfl,by omega,by omega⟩
theorem aDw(c:cV):nP c.1 c.2.1 c.2.2.1 c.2.2.2=some (xV c):=by
 unfold nP xV
 by_cases h1:c.2.2.2=1
 ·simp[h1]
 ·by_cases h2:c.2.2.2=0
  ·simp[h2]
  ·simp[h1,h2]
def eT(cl:List cV)(fr:Nat):Nat→Nat
 | 0=>0
 | n+1=>if fr<n+1∧xV (cl.getD n c0)=true then eT cl fr n else n+1
theorem B0{cl:List cV}(o:List Int){fr:Nat}:∀ {to:Nat},fr≤to→to≤cl.length→to≤1000000→gZ cl o (fr:Int) (to:Int)=some (eT cl fr to:Int)∧fr≤eT cl fr to∧eT cl fr to≤to:=by
 intro to
 induction to with
 | zero =>
  intro h1 _ _
  obtain rfl:fr=0:=by omega
  refine⟨?_,by simp[eT],by simp[eT]⟩
  unfold gZ
  rw[dO (r:=(0:Int)) (by simp[fK])]
  rfl
 | succ n ih =>
  intro h1 h2 h3
  by_cases hf:fr<n+1
  ·have q1:((n+1:Nat):Int) > (fr:Int):=by omega
   have q2:IntKind.i64.wrap (((n+1:Nat):Int) - 1)=(n:Int):=nY (by omega)
   have q3:0≤(n:Int):=by omega
   have q4:(n:Int)<(cl.length:Int):=by omega
   by_cases he:xV (cl.getD n c0)=true
   ·have st:fK cl (fr:Int) ((n+1:Nat):Int)=some (.inl (n:Int)):=by
     simp only[fK,q1,q2,q3,q4,and_self,decide_true,if_true,Int.toNat_natCast,aDw,Option.bind,he]
    obtain⟨i1,i2,i3⟩:=ih (by omega) (by omega) (by omega)
    have et:eT cl fr (n+1)=eT cl fr n:=by simp only[eT];rw[if_pos ⟨hf,he⟩]
    refine⟨?_,by rw[et];exact i2,by rw[et];omega⟩
    rw[et,←i1]
    unfold gZ
    rw[gV st]
   ·have st:fK cl (fr:Int) ((n+1:Nat):Int)=some (.inr ((n+1:Nat):Int)):=by
     simp only[fK,q1,q2,q3,q4,and_self,decide_true,if_true,Int.toNat_natCast,aDw,Option.bind,he,Bool.false_eq_true,if_false]
    have et:eT cl fr (n+1)=n+1:=by simp only[eT];rw[if_neg (fun h=>he h.2)]
    refine⟨?_,by rw[et];omega,by rw[et];omega⟩
    rw[et]
    unfold gZ
    rw[dO st]
    rfl
  ·obtain rfl:fr=n+1:=by omega
   have et:eT cl (n+1) (n+1)=n+1:=by simp only[eT];rw[if_neg (fun h=>by omega)]
   refine⟨?_,by rw[et];omega,by rw[et];omega⟩
   rw[et]
   unfold gZ
   rw[dO (r:=((n+1:Nat):Int)) (by simp[fK])]
   rfl
def Cel(cl:List cV):Prop:=cl.length≤4096∧∀i,0≤(cl.getD i c0).2.2.1∧(cl.getD i c0).2.2.1≤2
def yJ(cl:List cV)(tab:Int)(fr:Nat):Nat→Int
 | 0=>0
 | k+1=>K3 (cl.getD (fr+k) c0) (yJ cl tab fr k) tab
theorem zK{cl:List cV}(hc:Cel cl){tab:Int}(t0:1≤tab)(t1:tab≤64)(fr:Nat):∀k,k≤4096→0≤yJ cl tab fr k∧yJ cl tab fr k≤64*(k:Int)
 | 0,_=>by simp[yJ]
 | k+1,hk=>by
  obtain⟨h0,h1⟩:=zK hc t0 t1 fr k (by omega)
  obtain⟨-,h2,h3⟩:=M7 (c:=cl.getD (fr+k) c0) h0 (by omega) t0 t1 (hc.2 _).1 (hc.2 _).2
  simp only[yJ]
  omega
def uP(cl:List cV)(tab:Int)(fr:Nat):Nat→List Int
 | 0=>[0]
 | k+1=>uP cl tab fr k++[yJ cl tab fr (k+1)]
theorem vU(cl:List cV)(tab:Int)(fr:Nat):∀k,(uP cl tab fr k).length=k+1
 | 0=>rfl
 | k+1=>by simp[uP,vU cl tab fr k]
theorem C8(cl:List cV)(tab:Int)(fr:Nat):∀k i,i≤k→(uP cl tab fr k).getD i 0=yJ cl tab fr i
 | 0,i,h=>by
  obtain rfl:i=0:=by omega
  rfl
 | k+1,i,h=>by
  simp only[uP]
  rw[nT,vU]
  by_cases e:i<k+1
  ·rw[if_pos e];exact C8 cl tab fr k i (by omega)
  ·obtain rfl:i=k+1:=by omega
   rw[if_neg e,if_pos rfl]
theorem O5{cl:List cV}(hc:Cel cl)(o:List Int){tab:Int}(t0:1≤tab)(t1:tab≤64){fr to:Nat}(h1:fr≤to)(h2:to≤cl.length):jW cl o (fr:Int) (to:Int) tab=some (uP cl tab fr (to - fr)):=by
 have hl:=hc.1
 have hL:iter (gO cl (to:Int) tab) (uP cl tab fr 0,((fr+0:Nat):Int))=some (uP cl tab fr (to - fr)):=by
  refine fD (fun k=>(uP cl tab fr k,((fr+k:Nat):Int))) (to - fr) (fun k hk=> ?_) ?_
  ·obtain⟨b0,b1⟩:=zK hc t0 t1 fr k (by omega)
   obtain⟨e1,-,-⟩:=M7 (c:=cl.getD (fr+k) c0) b0 (by omega) t0 t1 (hc.2 _).1 (hc.2 _).2
   have q1:((fr+k:Nat):Int)<(to:Int):=by omega
   have q2:0≤((fr+k:Nat):Int):=by omega
   have q3:((fr+k:Nat):Int)<(cl.length:Int):=by omega
   have q4:IntKind.i64.wrap (((k+1:Nat):Int) - 1)=(k:Int):=nY (by omega)
   have q5:0≤(k:Int):=by omega
   have q6:(k:Int)<((k+1:Nat):Int):=by omega
   have q7:k<k+1:=by omega
   have q8:(uP cl tab fr k).getD k 0=yJ cl tab fr k:=C8 _ _ _ _ _ (Nat.le_refl _)
   have g:∀x:Int,(k+1+([x]:List Int).length)*8≤140737488355328∧k+1+([x]:List Int).length≤9223372036854775807:=fun x=>by simp;omega
   simp only[gO,q1,q2,q3,vU,q4,q5,q6,q7,q8,e1,g,and_self,decide_true,if_true,Int.toNat_natCast,Option.bind,bM (show fr+k≤9000000000000000000 by omega)]
   rfl
  ·have q1:¬(((fr+(to - fr):Nat):Int)<(to:Int)):=by omega
   simp only[gO,q1,decide_false,Bool.false_eq_true,if_false]
 exact congrArg (fun x=>Option.bind x fun o=>some o) hL
def Q5(cl:List cV)(tab:Int)(fr to:Nat)(e:Int):Int:=yJ cl tab fr (eT cl fr to - fr)+(if e=3 then 1 else 0)
theorem C4{cl:List cV}(hc:Cel cl)(o:List Int){tab:Int}(t0:1≤tab)(t1:tab≤64){fr to:Nat}(h1:fr≤to)(h2:to≤cl.length)(e:Int):
  kN cl o (fr:Int) (to:Int) e tab=some ((fr:Int),((to:Int),(Q5 cl tab fr to e,e))):=by
 have hl:=hc.1
 obtain⟨i1,i2,i3⟩:=B0 (cl:=cl) o h1 h2 (by omega)
 have hcol:=O5 hc o t0 t1 i2 (show eT cl fr to≤cl.length by omega)
 obtain⟨b0,b1⟩:=zK hc t0 t1 fr (eT cl fr to - fr) (by omega)
 have q1:IntKind.i64.wrap (((eT cl fr to - fr+1:Nat):Int) - 1)=((eT cl fr to - fr:Nat):Int):=nY (by omega)
 have q2:0≤((eT cl fr to - fr:Nat):Int):=by omega
 have q3:((eT cl fr to - fr:Nat):Int)<((eT cl fr to - fr+1:Nat):Int):=by omega
 have q4:=C8 cl tab fr (eT cl fr to - fr) (eT cl fr to - fr) (Nat.le_refl _)
 unfold kN qV Q5
 simp only[i1,hcol,Option.bind,vU,q1,q2,q3,and_self,if_true,Int.toNat_natCast,q4]
 by_cases he:e=3
 ·subst he
  simp only[BEq.rfl,if_true]
  rw[wrap_i64 (by omega) (by omega)]
 ·have:(e == 3)=false:=by rw[beq_eq_false_iff_ne];exact he
  simp only[this,he,if_false,Bool.false_eq_true,Int.add_zero]
end
end Go.Proofs.YtbedjpdfkmfplaaGreatDoor.T
namespace Go.Proofs.YtbedjpdfkmfplaaGreatDoor.T
open Go Go.Tv Go.Proofs
noncomputable section
theorem aFo(cl:List cV){o:List Int}{i:Nat}(h:i<o.length):mX cl o (i:Int)=some (o.getD i 0,o.getD i 0 != 0):=by
 unfold mX
 rw[if_pos (by omega),if_pos (by omega),Int.toNat_natCast]
end
end Go.Proofs.YtbedjpdfkmfplaaGreatDoor.T
namespace Go.Proofs.YtbedjpdfkmfplaaGreatDoor.T
open Go Go.Tv Go.Proofs
noncomputable section
def Ch(cl:List cV)(tab:Int):Int→List cV→Int→Prop
 | a,[],n=>a=n
 | a,x::r,n=>x.1=a∧a<x.2.1∧0≤x.2.2.2∧x.2.2.2≤4∧x.2.2.1=Q5 cl tab a.toNat x.2.1.toNat x.2.2.2∧Ch cl tab x.2.1 r n
theorem Ch.append{cl:List cV}{tab:Int}:∀ {a m n:Int} {l k:List cV},Ch cl tab a l m→Ch cl tab m k n→Ch cl tab a (l++k) n
 | a,m,n,[],k,h,h'=>by simp only[Ch]at h;subst h;exact h'
 | a,m,n,x::l,k,h,h'=>⟨h.1,h.2.1,h.2.2.1,h.2.2.2.1,h.2.2.2.2.1,h.2.2.2.2.2.append h'⟩
theorem Ch.range{cl:List cV}{tab:Int}:∀ {a n:Int} {l:List cV},Ch cl tab a l n→a+(l.length:Int)≤n
 | a,n,[],h=>by simp only[Ch]at h;simp;omega
 | a,n,x::l,h=>by
  have:=h.2.2.2.2.2.range
  have:=h.2.1
  simp only[List.length_cons]
  omega
end
end Go.Proofs.YtbedjpdfkmfplaaGreatDoor.T
namespace Go.Proofs.YtbedjpdfkmfplaaGreatDoor.T
open Go Go.Tv Go.Proofs
noncomputable section
def fB(o:List Int):Nat→List Int
 | 0=>[]
 | k+1=>if o.getD k 0=2 then fB o k++[(k:Int)]else fB o k
theorem rP(o:List Int):∀k,(fB o k).length≤k
 | 0=>by simp[fB]
 | k+1=>by
  have:=rP o k
  simp only[fB]
  split
  ·simp;omega
  ·omega
theorem aCl(cl:List cV){o:List Int}(hl:o.length≤5000):lH cl o=some (fB o o.length):=by
 have hL:iter (fX o) (fB o 0,((0:Nat):Int))=some (fB o o.length):=by
  refine fD (fun k=>(fB o k,(k:Int))) o.length (fun k hk=> ?_) ?_
  ·have h:=rP o k
   have q1:(k:Int)<(o.length:Int):=by omega
   have q2:0≤(k:Int):=by omega
   by_cases e:o.getD k 0=2
   ·have e1:(o.getD k 0 == 2)=true:=by rw[e];rfl
    simp only[fX,q1,q2,e1,and_self,decide_true,if_true,Int.toNat_natCast,List.length_singleton]
    rw[if_pos (by omega)]
    simp only[Option.bind_some,bM (show k≤9000000000000000000 by omega),fB,e,if_true]
   ·have e1:(o.getD k 0 == 2)=false:=by rw[beq_eq_false_iff_ne];exact e
    simp only[fX,q1,q2,e1,and_self,decide_true,if_true,Int.toNat_natCast,Bool.false_eq_true,if_false,Option.bind_some,bM (show k≤9000000000000000000 by omega),fB,e]
  ·have q1:¬((o.length:Int)<(o.length:Int)):=by omega
   simp only[fX,q1,decide_false,Bool.false_eq_true,if_false]
 exact congrArg (fun x=>Option.bind x fun o=>some o) hL
end
end Go.Proofs.YtbedjpdfkmfplaaGreatDoor.T
namespace Go.Proofs.YtbedjpdfkmfplaaGreatDoor.T
open Go Go.Tv Go.Proofs
noncomputable section
theorem Ch.get{cl:List cV}{tab:Int}:∀ {a n:Int} {l:List cV} {k:Nat},Ch cl tab a l n→k<l.length→a≤(l.getD k c0).1∧(l.getD k c0).1<(l.getD k c0).2.1∧(l.getD k c0).2.1≤n
 | a,n,x::l,0,h,_=>by
  have:=h.2.2.2.2.2.range
  have h1:=h.1
  have h2:=h.2.1
  simp only[List.getD_cons_zero]
  omega
 | a,n,x::l,k+1,h,hk=>by
  have h2:=h.2.1
  have:=h.2.2.2.2.2.get (show k<l.length by simpa using hk)
  simp only[List.getD_cons_succ]
  omega
theorem aHc{cl l:List cV}(hcl:cl.length≤4096)(hl:l.length≤4096)(hg:∀k,k<l.length→0≤(l.getD k c0).1∧(l.getD k c0).1<(l.getD k c0).2.1∧(l.getD k c0).2.1≤(cl.length:Int))(o:List Int):
  ∃r,fA cl o l=some r:=by
 unfold fA
 split
 ·exact⟨_,rfl⟩
 ·obtain⟨r,e,-⟩:=dQ (body:=eD cl l) (fun z:List cV×Int=>∃k:Nat,z.2=(k:Int)∧k≤l.length∧z.1.length=k) (fun z=>l.length - z.2.toNat) (fun _=>True) (by
   rintro⟨out,v⟩ ⟨k,rfl,hk,ho⟩
   simp only at ho
   by_cases hlt:k<l.length
   ·left
    obtain⟨a0,a1,a2⟩:=hg k hlt
    have q1:(k:Int)<(l.length:Int):=by omega
    have q2:0≤(k:Int):=by omega
    have q3:IntKind.i64.wrap ((l.getD k c0).2.1 - 1)=(l.getD k c0).2.1 - 1:=wrap_i64 (by omega) (by omega)
    have q4:0≤(l.getD k c0).2.1 - 1∧(l.getD k c0).2.1 - 1<(cl.length:Int):=by omega
    have q5:(l.getD k c0).1<(cl.length:Int):=by omega
    have g:∀x:cV,(out.length+([x]:List cV).length)*32≤140737488355328∧out.length+([x]:List cV).length≤9223372036854775807:=fun x=>by simp;omega
    simp only[eD,q1,q2,q3,q4,q5,a0,g,and_self,decide_true,if_true,Int.toNat_natCast,bM (show k≤9000000000000000000 by omega)]
    exact⟨_,rfl,⟨k+1,rfl,by omega,by simp[ho]⟩,by simp only[Int.toNat_natCast];omega⟩
   ·right
    obtain rfl:k=l.length:=by omega
    refine⟨out,?_,trivial⟩
    have q1:¬((l.length:Int)<(l.length:Int)):=by omega
    simp only[eD,q1,decide_false,Bool.false_eq_true,if_false]) (s:=([],0)) ⟨0,rfl,by omega,rfl⟩
  rw[e]
  exact⟨_,rfl⟩
end
end Go.Proofs.YtbedjpdfkmfplaaGreatDoor.T
