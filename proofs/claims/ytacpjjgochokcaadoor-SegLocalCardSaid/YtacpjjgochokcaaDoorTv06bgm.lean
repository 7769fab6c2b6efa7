/- A plan's rules, and what is made of them. -/
import Derived.Test.YtacpjjgochokcaaDoorTv06bbm
import Derived.Test.YtacpjjgochokcaaDoorTv06pvm
import Derived.Test.YtacpjjgochokcaaDoorTv06pm
import Derived.Test.YtacpjjgochokcaaDoorTvT06xb
import Derived.Test.YtacpjjgochokcaaDoorTvT06x0
import Derived.Test.YtacpjjgochokcaaDoorTvT06xa
namespace Go.Proofs.YtacpjjgochokcaaDoor.T
open Go Go.Tv Go.Proofs
set_option maxRecDepth 1000000 in
theorem aEC:gC=some true:=by kernel_rfl
theorem aAv{n:Nat}(h1:1≤n)(tr:List Int):∀k,∀c∈trV n tr k,0≤c∧c<(n:Int)
 | 0,c,hc=>by
  obtain⟨i,hi,rfl⟩:=List.getElem_of_mem hc
  have hi':i<n:=by simpa [trV,t0P]using hi
  have:=aEn hi'
  rw[cY (by simpa [trV]using hi)]at this
  have e:(trV n tr 0)[i]=(t0P n)[i]'(by simpa [trV]using hi):=rfl
  rw[e,this]
  omega
 | k+1,c,hc=>by
  simp only[trV]at hc
  rcases List.mem_or_eq_of_mem_set hc with h | rfl
  ·exact aAv h1 tr k c h
  ·have:=Nat.mod_lt (tr.getD k 0).toNat (show 0<n by omega)
   omega
theorem aBp{l:RL}{x}(hx:x∈l):x.2.1∈mQ l∧x.2.2∈mQ l:=by
 unfold mQ
 exact⟨List.mem_flatMap.2 ⟨x,hx,by simp⟩,List.mem_flatMap.2 ⟨x,hx,by simp⟩⟩
theorem G8:∀l:RL,cR (l.map fun x=>x.2.1)+cR (l.map fun x=>x.2.2)=cR (mQ l)
 | []=>rfl
 | x::l=>by
  have ih:=G8 l
  have e:mQ (x::l)=[x.2.1,x.2.2]++mQ l:=rfl
  rw[e,gO]
  simp only[List.map_cons,cR]
  omega
theorem D7(c j a:Int)(tr:List Int)(l:List PR):(tF c j a tr l).1.length=iZ c:=(sU (yU c) (M7 c) 0).2.2
theorem uJ(c j a:Int)(tr:List Int)(l:List PR):Good (tF c j a tr l):=by
 have h1:=yU c
 have h6:=M7 c
 have hlen:=D7 c j a tr l
 have hn:=Nat.min_le_right l.length 10
 obtain⟨e1,e2,e3⟩:=aA5 (iZ c) l (min l.length 10)
 have e4:=G8 (D9 (iZ c) l (min l.length 10))
 have hrl:=M8 (iZ c) l (min l.length 10)
 refine⟨by omega,by omega,?_,?_,?_,fun x hx=> ?_,?_,fun x hx=> ?_,?_,?_⟩
 ·simp only[tF];split
  ·exact U32.zero
  ·exact U32.bits _ _ _
 ·simp only[tF];split
  ·exact U32.zero
  ·exact U32.bits _ _ _
 ·rw[hlen];exact aAR _ _ _
 ·rw[hlen];exact aAv h1 tr _ x hx
 ·show(D9 (iZ c) l (min l.length 10)).length≤24
  omega
 ·have hx':x∈D9 (iZ c) l (min l.length 10):=hx
  have:=aBp hx'
  exact⟨(e2 _ this.1).mono (by omega),(e2 _ this.2).mono (by omega)⟩
 ·show cR ((D9 (iZ c) l (min l.length 10)).map fun x=>x.2.1)≤200
  omega
 ·show cR ((D9 (iZ c) l (min l.length 10)).map fun x=>x.2.2)≤200
  omega
theorem aEL{t:List UInt8}{r:RR}(hr:Good r)(hp:gI t=some (r,0,0)):(jJ t=some ((none:MA),27,0)∧aFM r)∨∃A B,jJ t=some ((some (r,A,B):MA),0,0)∧aE3 r A B:=by
 unfold jJ
 rw[hp]
 simp only[Option.bind_some]
 rw[if_neg (by decide)]
 rcases aAc hr with⟨q,hm⟩ | ⟨A,B,q,hM⟩
 ·rw[q];exact .inl ⟨rfl,hm⟩
 ·rw[q];exact .inr ⟨A,B,rfl,hM⟩
end Go.Proofs.YtacpjjgochokcaaDoor.T
namespace Go.Proofs.YtacpjjgochokcaaDoor.T
open Go Go.Tv Go.Proofs
noncomputable section
set_option maxRecDepth 100000
set_option maxHeartbeats 4000000
end
end Go.Proofs.YtacpjjgochokcaaDoor.T
namespace Go.Proofs.YtacpjjgochokcaaDoor.T
open Go Go.Tv Go.Proofs
abbrev S8(s:Int):Tree:= .node 1 s []
theorem uS{s:Int}{w:Wd}:Lg (S8 s) w↔∃c,w=[c]∧P5 s c:=by
 simp only[Lg,if_true]
theorem V0{r:RR}{w:List Int}(h0:r.2.2.1=0)(ht:∀k,k<w.length→r.2.2.2.1.getD (clp r.1.length (w.getD k 0)).toNat 0=w.getD k 0):∀k,k≤w.length→sg r w k=(List.range k,w.take k,false)
 | 0,_=>rfl
 | k+1,hk=>by
  simp only[sg]
  rw[V0 h0 ht k (by omega),ht k (by omega),eW (d:=0) (by omega),List.range_succ,h0]
  have:bt 0 (clp r.1.length (w.getD k 0)).toNat=false:=by simp[bt]
  rw[this]
  rfl
theorem aDP{r:RR}{w:List Int}(h0:r.2.2.1=0)(ht:∀k,k<w.length→r.2.2.2.1.getD (clp r.1.length (w.getD k 0)).toNat 0=w.getD k 0):n8 r w=List.range w.length∧kM r w=w:=by
 unfold n8 kM
 rw[V0 h0 ht _ (Nat.le_refl _)]
 exact⟨rfl,List.take_length⟩
theorem Spec.plain{r:RR}{w o:List Int}(h:Spec r w o)(h0:r.2.2.1=0)(ht:∀k,k<w.length→r.2.2.2.1.getD (clp r.1.length (w.getD k 0)).toNat 0=w.getD k 0):(∀k,1≤k→k<w.length→Dec r.2.2.2.2 (w.take k) (w.drop k) (o.getD k 0))∧(0<w.length→o.getD 0 0=0):=by
 obtain⟨e1,e2⟩:=aDP h0 ht
 have hrg:∀j,j<w.length→(List.range w.length).getD j 0=j:=fun j hj=>by simp[hj]
 refine⟨fun k k1 k2=> ?_,fun hw=>h.oth 0 hw fun k k1 k2=> ?_⟩
 ·have:=h.dec k k1 (by rw[e1,List.length_range];exact k2)
  rwa [e1,e2,hrg k k2]at this
 ·rw[e1]at k2 ⊢
  rw[List.length_range]at k2
  rw[hrg k k2];omega
end Go.Proofs.YtacpjjgochokcaaDoor.T
namespace Go.Proofs.YtacpjjgochokcaaDoor.T
open Go Go.Tv Go.Proofs
end Go.Proofs.YtacpjjgochokcaaDoor.T
