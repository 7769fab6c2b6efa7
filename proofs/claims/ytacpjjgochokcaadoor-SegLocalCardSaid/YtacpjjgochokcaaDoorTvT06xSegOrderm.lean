/- Functions of the program as functions on data, and that the program's own come to them. -/
import Derived.Test.YtacpjjgochokcaaDoorTvT06x0
import Derived.Test.YtacpjjgochokcaaDoorTvT06xa
import Derived.Test.YtacpjjgochokcaaDoorTvT06xb
import Derived.Test.YtacpjjgochokcaaDoorTv06bgm
namespace Go.Proofs.YtacpjjgochokcaaDoor.T
open Go Go.Tv Go.Proofs
noncomputable section
set_option maxRecDepth 100000
set_option maxHeartbeats 4000000
end
end Go.Proofs.YtacpjjgochokcaaDoor.T
namespace Go.Proofs.YtacpjjgochokcaaDoor.T
open Go Go.Tv Go.Proofs
theorem Dec.app:∀ {l l':List RU} {u v:Wd} {d:Int},(∀x∈l',Hit x u v→∃y∈l,Hit y u v)→Dec l u v d→Dec (l++l') u v d
 | [],l',u,v,d,h,hd=>by
  have:d=1:=hd
  subst this
  exact Dec.none fun x hx hh=>by
   obtain⟨y,hy,_⟩:=h x hx hh
   cases hy
 | x::l,l',u,v,d,h,hd=>by
  rcases hd with hd | ⟨h1,h2⟩
  ·exact .inl hd
  ·refine .inr ⟨h1,Dec.app (fun y hy hh=> ?_) h2⟩
   obtain⟨z,hz,hz2⟩:=h y hy hh
   rcases List.mem_cons.1 hz with rfl | hz
   ·exact absurd hz2 h1
   ·exact⟨z,hz,hz2⟩
theorem yB(a:List (List UInt8))(b c:Int)(d:List Int)(l l':List RU)(i1:List Int):∀k,sg (a,b,c,d,l) i1 k=sg (a,b,c,d,l') i1 k
 | 0=>rfl
 | k+1=>by simp only[sg,yB a b c d l l' i1 k]
theorem Spec.rules{a:List (List UInt8)}{b c:Int}{d:List Int}{l l':List RU}{i1 o:List Int}(h:∀u v x,Dec l u v x→Dec l' u v x)(hs:Spec (a,b,c,d,l) i1 o):Spec (a,b,c,d,l') i1 o:=by
 have e1:n8 (a,b,c,d,l') i1=n8 (a,b,c,d,l) i1:=by unfold n8;rw[yB a b c d l l']
 have e2:kM (a,b,c,d,l') i1=kM (a,b,c,d,l) i1:=by unfold kM;rw[yB a b c d l l']
 exact⟨hs.len,hs.last,by rw[e1,e2];exact fun k k1 k2=>h _ _ _ (hs.dec k k1 k2),by rw[e1];exact hs.oth⟩
def ruF(n:Nat)(x:PR):RU:=(Int.tmod x.1 3,qU n (b9 n) (dD n) (wM x.2.1),qU n (b9 n) (dD n) (wM x.2.2))
theorem aBe(n:Nat)(l:List PR):∀k,k≤l.length→D9 n l k=(l.take k).map (ruF n)
 | 0,_=>rfl
 | k+1,h=>by
  simp only[D9]
  rw[aBe n l k (by omega),eW (d:=L5) (by omega),List.map_append]
  rfl
theorem aEE(n:Nat){l:List PR}(h:l.length≤10):D9 n l (min l.length 10)=l.map (ruF n):=by
 rw[Nat.min_eq_left h,aBe n l _ (Nat.le_refl _),List.take_length]
theorem T6{c j a:Int}{tr:List Int}{l:List PR}(h:l.length≤10):tF c j a tr l=(jP (iZ c),(if j=0 then 0 else aG .or .u32 0 (jnV (iZ c) j)),(if j=0 then 0 else aG .or .u32 0 (jnV (iZ c) a)),trV (iZ c) tr (min tr.length (iZ c)),l.map (ruF (iZ c))):=by
 unfold tF
 rw[aEE _ h]
theorem Pl.app{c j a:Int}{tr:List Int}{l l':List PR}(h:Pl c j a tr l)(h':∀x∈l',(0≤x.1∧x.1<256)∧Sm x.2.1∧Sm x.2.2):Pl c j a tr (l++l') :=
 ⟨h.hc,h.hj,h.ha,h.ht,fun x hx=>(List.mem_append.1 hx).elim (h.hl x) (h' x)⟩
end Go.Proofs.YtacpjjgochokcaaDoor.T
namespace Go.Proofs.YtacpjjgochokcaaDoor.T
open Go Go.Tv Go.Proofs
/-! ### No more states than classes -/
def pE(l:List Tree):Prop:=∀t∈l,∃s c,t=S8 s∧P5 s c
theorem aAs{l:List Tree}(h:pE l){j:Nat}(hj:j<l.length):pos l (j+1)=pos l j+1:=by
 rw[R8 hj]
 obtain⟨s,c,e,_⟩:=h _ (dN (d:=Tree.node 0 0 []) hj)
 rw[e]
 simp[gF]
theorem E9{l:List Tree}{x:MS}(hP:PI l l.length x)(hs:pE l)(p q:Nat):¬Fe x.2.1 p q:=fun h=>by
 obtain⟨j,hj,⟨p1,p2⟩,q1,q2⟩:=N5 hP h
 have hp:=aAs hs hj
 have ep:p=q:=by omega
 subst ep
 obtain⟨s,c,e,hc⟩:=hs _ (dN (d:=Tree.node 0 0 []) hj)
 have hG:=glR hP hj
 rw[e]at hG
 obtain⟨a,b,ha,hb,hr⟩:=(hG.wd [c] (by simp)).1 (uS.2 ⟨c,rfl,hc⟩)
 have ea:=hG.fi a ha
 have eb:=hG.la b hb
 have ha':a=p:=by omega
 have hb':b=p:=by omega
 subst ha'
 subst hb'
 have hl:lab x.1 b c:=hr.1
 have hF:FG x.2.1 (pos l j) (pos l (j+1)) b b:=⟨⟨p1,p2⟩,h.2⟩
 have h2:=(hG.wd [c,c] (by simp)).2 ⟨b,b,ha,hb,hl,.inr ⟨b,hF,hl,.inl ⟨rfl,rfl⟩⟩⟩
 obtain⟨d,hd,_⟩:=uS.1 h2
 cases hd
theorem aCZ{l:List Tree}{x:MS}(hP:PI l l.length x)(hs:pE l){w:Wd}{c:Int}{s:S4}(h:Rch x (w++[c]) s):Rch x [c] s:=by
 refine⟨h.1,fun q=> ?_⟩
 rw[h.2 q,Sx.snoc]
 have:=Sx.snoc (F:=Fe x.2.1) (lab:=lab x.1) (Fst:=Fst x.2.2) (w:=[]) (c:=c) (q:=q)
 rw[List.nil_append]at this
 rw[this]
 refine and_congr Iff.rfl (or_congr Iff.rfl ?_)
 exact⟨fun⟨p,_,hp⟩=>absurd hp (E9 hP hs p q),fun⟨p,_,hp⟩=>absurd hp (E9 hP hs p q)⟩
theorem M3{α:Type}[DecidableEq α]{R:Nat→α→Prop}(hu:∀i a b,R i a→R i b→a=b):∀(m:Nat) (l:List α),l.Nodup→(∀a∈l,∃i,i<m∧R i a)→l.length≤m
 | 0,l,_,h=>by
  cases l with
  | nil=>exact Nat.le_refl _
  | cons a l=>obtain⟨i,hi,_⟩:=h a (.head _);omega
 | m+1,l,hn,h=>by
  by_cases hx:∃a∈l,R m a
  ·obtain⟨a,ha,hR⟩:=hx
   have h1:=M3 hu m (l.erase a) (hn.erase a) fun b hb=>by
    have hb':=(List.Nodup.mem_erase_iff hn).1 hb
    obtain⟨i,hi,hRi⟩:=h b hb'.2
    refine⟨i,?_,hRi⟩
    rcases Nat.lt_or_ge i m with q | q
    ·exact q
    ·have:i=m:=by omega
     subst this
     exact absurd (hu _ _ _ hRi hR) hb'.1
   rw[List.length_erase_of_mem ha]at h1
   omega
  ·have h1:=M3 hu m l hn fun b hb=>by
    obtain⟨i,hi,hRi⟩:=h b hb
    refine⟨i,?_,hRi⟩
    rcases Nat.lt_or_ge i m with q | q
    ·exact q
    ·have:i=m:=by omega
     subst this
     exact absurd ⟨b,hb,hRi⟩ hx
   omega
theorem T9{l:List Tree}{x:MS}(hP:PI l l.length x)(hs:pE l){n:Nat}(hn:n≤24):¬P3 x n:=by
 rintro⟨st,h1,h2,h3⟩
 have:=M3 (R:=fun i s=>match i with | 0=>Rch x [] s | i+1=>Rch x [(i:Int)] s) (fun i a b ha hb=>by
  cases i with
  | zero=>exact Rch.uniq ha hb
  | succ i=>exact Rch.uniq ha hb) (n+1) st h2 fun s hs'=>by
  obtain⟨w,w1,w2⟩:=h3 s hs'
  rcases List.eq_nil_or_concat w with rfl | ⟨w',c,rfl⟩
  ·exact⟨0,by omega,w2⟩
  ·have hc:=w1 c (by simp)
   have e:((c.toNat:Nat):Int)=c:=by omega
   refine⟨c.toNat+1,by omega,?_⟩
   show Rch x [((c.toNat:Nat):Int)] s
   rw[e]
   exact aCZ hP hs (by simpa using w2)
 omega
theorem aCg{r:RR}(hr:Good r)(h1:pE (hX r.2.2.2.2))(h2:pE (eA r.2.2.2.2)):¬aFM r:=by
 rintro(⟨x,hP,hf⟩ | ⟨x,hP,hf⟩)
 ·exact T9 hP h1 hr.n24 hf
 ·exact T9 hP h2 hr.n24 hf
end Go.Proofs.YtacpjjgochokcaaDoor.T
