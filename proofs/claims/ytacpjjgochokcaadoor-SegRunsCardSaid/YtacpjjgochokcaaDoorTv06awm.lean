/- AutoMatches holds. -/
import Derived.Test.YtacpjjgochokcaaDoorTv06anm
import Derived.Test.YtacpjjgochokcaaDoorTvYm
import Derived.Test.YtacpjjgochokcaaDoorTv06lpm
import Derived.Test.YtacpjjgochokcaaDoorTv06bbm
namespace Go.Proofs.YtacpjjgochokcaaDoor.T
open Go Go.Tv Go.Proofs
theorem aEh{w:Wd}(hw:w.length≤800000){t:Tree}(ht:Tok 1000 t):∃r,gC t.op t.set t.kids w=some r∧(r=true↔∃k,k≤w.length∧Lg t (w.drop k)):=by
 have e0:IntKind.i64.wrap ((w.length:Int)+1)=((w.length+1:Nat):Int):=wrap_succ' (by omega)
 have key:∃r,iter eE (List.replicate (w.length+1) false,0)=some r∧r.length=w.length+1∧∀j,j<w.length+1→TX r j:=by
  refine bI (I:=fun q=>∃k:Nat,q.2=(k:Int)∧k≤w.length+1∧q.1.length=w.length+1∧∀j,j<k→TX q.1 j) (μ:=fun q=>w.length+1 - q.2.toNat) _ ?_ ⟨0,rfl,Nat.zero_le _,by simp,fun j h=>absurd h (by omega)⟩
  rintro⟨x,i⟩ ⟨k,rfl,hk,hx,hj⟩
  dsimp only at hx hj
  by_cases hlt:k<w.length+1
  ·have c1:0≤(k:Int)∧(k:Int)<(x.length:Int):=by omega
   refine .inl ⟨(x.set k true,((k+1:Nat):Int)),?_,⟨k+1,rfl,hlt,by simp[hx],fun j h=> ?_⟩,by simp only[Int.toNat_natCast];omega⟩
   ·unfold eE
    dsimp only
    rw[if_pos (by simp;omega),if_pos c1,Int.toNat_natCast,if_pos (by omega),wrap_succ' (by omega)]
   ·simp only[TX]
    rw[xX (by omega)]
    by_cases e:k=j
    ·rw[if_pos e]
    ·rw[if_neg e];exact hj j (by omega)
  ·refine .inr ⟨x,?_,hx,fun j h=>hj j (by omega)⟩
   unfold eE
   dsimp only
   rw[if_neg (by simp;omega)]
 obtain⟨x,h1,h2,h3⟩:=key
 obtain⟨y,e1,e2,e3⟩:=aAq (w:=w) (by omega) 1000 t ht 1000 (Nat.le_refl _) x h2
 refine⟨y.getD w.length false,?_,?_⟩
 ·unfold gC
  rw[e0,if_pos (by omega),Int.toNat_natCast,h1]
  simp only[Option.bind_some]
  rw[e1]
  simp only[Option.bind_some]
  rw[if_pos (by omega),Int.toNat_natCast]
 ·have:=e3 w.length
  simp only[TX]at this
  rw[this]
  constructor
  ·rintro⟨i,q1,q2,q3,q4⟩;exact⟨i,q1,by rw[←aBl];exact q4⟩
  ·rintro⟨i,q1,q4⟩;exact⟨i,q1,Nat.le_refl _,h3 i (by omega),by rw[aBl];exact q4⟩
where wrap_succ' {k:Nat} (h:k<10000000):IntKind.i64.wrap ((k:Int)+1)=((k+1:Nat):Int):=by rw[aN (by omega) (by omega)];omega
end Go.Proofs.YtacpjjgochokcaaDoor.T
namespace Go.Proofs.YtacpjjgochokcaaDoor.T
open Go Go.Tv Go.Proofs
theorem aB8{w:Wd}(hw:w.length≤800000){t:Tree}(ht:Tok 1000 t):∃r,dE t.op t.set t.kids w=some r∧(r=true↔∃k,k≤w.length∧Lg t (w.take k)):=by
 have e0:IntKind.i64.wrap ((w.length:Int)+1)=((w.length+1:Nat):Int):=fG (by omega)
 obtain⟨y,e1,e2,e3⟩:=aAq (w:=w) (by omega) 1000 t ht 1000 (Nat.le_refl _) ((List.replicate (w.length+1) false).set 0 true) (by simp)
 have hx:∀i,TX ((List.replicate (w.length+1) false).set 0 true) i↔i=0:=fun i=>by
  simp only[TX]
  rw[xX (by simp)]
  by_cases e:(0:Nat)=i
  ·simp[e.symm]
  ·rw[if_neg e]
   exact⟨fun h=>(Z6 _ _ h).elim,fun h=>(e h.symm).elim⟩
 have hy:∀j,y.getD j false=true↔j≤w.length∧Lg t (w.take j):=fun j=>by
  have:=e3 j
  simp only[TX]at this
  rw[this]
  constructor
  ·rintro⟨i,q1,q2,q3,q4⟩
   rw[(hx i).1 q3]at q4
   exact⟨q2,by simpa [T6]using q4⟩
  ·rintro⟨q2,q4⟩
   exact⟨0,Nat.zero_le _,q2,(hx 0).2 rfl,by simpa [T6]using q4⟩
 have L1:∃r,iter (cE y) 0=some r∧((r = .inr true∧∃k,k≤w.length∧Lg t (w.take k))∨(r = .inl ()∧¬ ∃k,k≤w.length∧Lg t (w.take k))):=by
  refine bI (I:=fun s=>∃m:Nat,s=(m:Int)∧m≤w.length+1∧∀j,j<m→¬Lg t (w.take j)) (μ:=fun s=>w.length+1 - s.toNat) _ ?_ ⟨0,rfl,Nat.zero_le _,fun j hj=>absurd hj (by omega)⟩
  rintro s ⟨m,rfl,hm,hj⟩
  by_cases hlt:m<w.length+1
  ·by_cases hb:y.getD m false=true
   ·refine .inr ⟨_,?_,.inl ⟨rfl,m,((hy m).1 hb).1,((hy m).1 hb).2⟩⟩
    unfold cE
    rw[if_pos (by simp;omega),if_pos (by omega),Int.toNat_natCast,if_pos hb]
   ·refine .inl ⟨((m+1:Nat):Int),?_,⟨m+1,rfl,hlt,fun j h1=> ?_⟩,by simp only[Int.toNat_natCast];omega⟩
    ·unfold cE
     rw[if_pos (by simp;omega),if_pos (by omega),Int.toNat_natCast,if_neg hb,fG (by omega)]
    ·by_cases e:j=m
     ·subst e;exact fun h=>hb ((hy j).2 ⟨by omega,h⟩)
     ·exact hj j (by omega)
  ·refine .inr ⟨_,?_,.inr ⟨rfl,fun⟨k,k1,k2⟩=>hj k (by omega) k2⟩⟩
   unfold cE
   rw[if_neg (by simp;omega)]
 obtain⟨r,h1,h2⟩:=L1
 have ez:(0:Int).toNat=0:=rfl
 rcases h2 with⟨rfl,h2⟩ | ⟨rfl,h2⟩
 ·refine⟨true,?_,⟨fun _=>h2,fun _=>rfl⟩⟩
  unfold dE
  rw[e0,if_pos (by omega),Int.toNat_natCast,if_pos (by simp),if_pos (by simp),ez,e1]
  simp only[Option.bind_some]
  rw[h1]
  rfl
 ·refine⟨false,?_,⟨fun h=>(by cases h),fun h=>absurd h h2⟩⟩
  unfold dE
  rw[e0,if_pos (by omega),Int.toNat_natCast,if_pos (by simp),if_pos (by simp),ez,e1]
  simp only[Option.bind_some]
  rw[h1]
  rfl
theorem aEl{α:Type}{x y:Int}(hx:U32 x)(hy:U32 y){c last:Int}(h0:0≤c)(h1:c<24)(h2:last<24){F:Bool→Option α}:
  ((if decide (last≥0)=true then(if 0≤c then(if ¬(2:Int)=0 then(if(Int.tmod (Int.fdiv x (2 ^ (min c.toNat IntKind.u32.bits))) 2 == 1)=true then(if 0≤last then(if ¬(2:Int)=0 then some (Int.tmod (Int.fdiv y (2 ^ (min last.toNat IntKind.u32.bits))) 2 == 1)else none)else none)else some false)else none)else none)else some false).bind F)
   = F ((decide (last≥0) && bt y last.toNat) && bt x c.toNat):=by
 by_cases hl:last≥0
 ·have:decide (last≥0)=true:=by simpa using hl
  have h2':¬(2:Int)=0:=by decide
  simp only[this,if_true,if_pos h0,if_pos h2',aAr hx (show c.toNat<32 by omega),if_pos hl,aAr hy (show last.toNat<32 by omega)]
  cases bt x c.toNat <;> cases bt y last.toNat <;> rfl
 ·have:decide (last≥0)=false:=by simpa using hl
  rw[this]
  rfl
theorem aEG{r:RR}(h:Good r){i1:List Int}(hl:i1.length≤1000):iter (c9 r.1 r.2.1 r.2.2.1 r.2.2.2.1 i1) ([],[],-1,0)=some (g9 (mR r i1),jT r i1):=by
 have key:∃q,iter (c9 r.1 r.2.1 r.2.2.1 r.2.2.2.1 i1) ([],[],-1,0)=some q∧q=(g9 (mR r i1),jT r i1):=by
  refine bI (I:=fun q=>∃k:Nat,q.2.2.2=(k:Int)∧k≤i1.length∧q.1=g9 (sg r i1 k).1∧q.2.1=(sg r i1 k).2.1∧q.2.2.1<(r.1.length:Int)∧(sg r i1 k).2.2=(decide (q.2.2.1≥0) && bt r.2.2.1 q.2.2.1.toNat))
   (μ:=fun q=>i1.length - q.2.2.2.toNat) _ ?_ ⟨0,rfl,Nat.zero_le _,rfl,rfl,by have:=h.n1;dsimp only;omega,rfl⟩
  rintro⟨a,s,last,k'⟩ ⟨k,hk,hkl,ha,hs,hb,hB⟩
  dsimp only at hk ha hs hb hB
  subst hk ha hs
  have ih:=aDF h i1 k
  have hle:=ih.le
  have hln:=ih.ln
  have hn:=h.n24
  have htl:=h.tl
  by_cases hlt:k<i1.length
  ·obtain⟨c1,c2⟩:=aCB h.n1 (i1.getD k 0)
   have hstep:c9 r.1 r.2.1 r.2.2.1 r.2.2.2.1 i1 (g9 (sg r i1 k).1,(sg r i1 k).2.1,last,(k:Int))=some (.inl (g9 (sg r i1 (k+1)).1,(sg r i1 (k+1)).2.1,(if((sg r i1 k).2.2 && bt r.2.1 (clp r.1.length (i1.getD k 0)).toNat)=true then last else clp r.1.length (i1.getD k 0)),((k+1:Nat):Int))):=by
    unfold c9
    dsimp only
    rw[if_pos (by simp;omega),if_pos (by omega),Int.toNat_natCast,aBx,aEl h.jU h.aU c1 (by omega) (by omega),←hB,fG (by omega)]
    simp only[sg]
    by_cases hb:((sg r i1 k).2.2 && bt r.2.1 (clp r.1.length (i1.getD k 0)).toNat)=true
    ·rw[if_pos hb,if_pos hb,if_pos hb]
    ·rw[if_neg hb,if_neg hb,if_neg hb,if_pos (by rw[dL];simp only[List.length_cons,List.length_nil];omega),if_pos (by omega),
      if_pos (by simp only[List.length_cons,List.length_nil];omega),K8]
   refine .inl ⟨_,hstep,⟨k+1,rfl,hlt,rfl,rfl,?_,?_⟩,by simp only[Int.toNat_natCast];omega⟩
   ·dsimp only
    split <;> omega
   ·dsimp only
    simp only[sg]
    by_cases hb:((sg r i1 k).2.2 && bt r.2.1 (clp r.1.length (i1.getD k 0)).toNat)=true
    ·rw[if_pos hb,if_pos hb];exact hB
    ·rw[if_neg hb,if_neg hb]
     have:decide (clp r.1.length (i1.getD k 0)≥0)=true:=by simpa using c1
     rw[this];rfl
  ·have ek:k=i1.length:=by omega
   subst ek
   refine .inr ⟨_,?_,rfl⟩
   unfold c9
   dsimp only
   rw[if_neg (by simp)]
   rfl
 obtain⟨q,h1,rfl⟩:=key
 exact h1
theorem aEw{r:RR}(h:Good r){i1:List Int}(hl:i1.length≤1000):∃out,i6 r.1 r.2.1 r.2.2.1 r.2.2.2.1 r.2.2.2.2 i1=some out∧Spec r i1 out:=by
 obtain⟨p1,p2,p3,p4,p5⟩:=aIo h i1
 have e0:IntKind.i64.wrap ((i1.length:Int)+1)=((i1.length+1:Nat):Int):=fG (by omega)
 have hil:(g9 (mR r i1)).length=(mR r i1).length:=dL _
 have L2:∀(o:List Int) (k:Nat),o.length=i1.length+1→k<(mR r i1).length→∃o',iter (eF r.2.2.2.2 (g9 (mR r i1)) (jT r i1) o (k:Int)) 0=some o'∧o'.length=i1.length+1 ∧
   ∃d,Dec r.2.2.2.2 ((jT r i1).take k) ((jT r i1).drop k) d∧∀i,o'.getD i 0=if(mR r i1).getD k 0=i then d else o.getD i 0:=fun o k ho hlt=>by
  have hat:=p3 k hlt
  have hg:(g9 (mR r i1)).getD k 0=(((mR r i1).getD k 0:Nat):Int):=pM hlt
  have hrl:=h.rl
  refine bI (I:=fun s=>∃m:Nat,s=(m:Int)∧m≤r.2.2.2.2.length∧∀j,j<m→¬Hit (r.2.2.2.2.getD j ru0) ((jT r i1).take k) ((jT r i1).drop k)) (μ:=fun s=>r.2.2.2.2.length - s.toNat) _ ?_ ⟨0,rfl,Nat.zero_le _,fun j hj=>absurd hj (by omega)⟩
  rintro s ⟨m,rfl,hm,hj⟩
  by_cases hlm:m<r.2.2.2.2.length
  ·have hmem:r.2.2.2.2.getD m ru0∈r.2.2.2.2:=cS hlm
   obtain⟨b1,q1,q2⟩:=aEh (w:=((jT r i1).take k).drop 0) (by simp;omega) ((h.tk _ hmem).1.mono (by omega))
   obtain⟨b2,q3,q4⟩:=aB8 (w:=((jT r i1).take (jT r i1).length).drop k) (by simp;omega) ((h.tk _ hmem).2.mono (by omega))
   rw[List.drop_zero]at q2
   rw[List.take_length]at q4
   have ez:(0:Int).toNat=0:=rfl
   have hhit:Hit (r.2.2.2.2.getD m ru0) ((jT r i1).take k) ((jT r i1).drop k)↔b1=true∧b2=true:=by rw[q2,q4];rfl
   by_cases hh:b1=true∧b2=true
   ·refine .inr ⟨(o.set ((mR r i1).getD k 0) 1).set ((mR r i1).getD k 0) (r.2.2.2.2.getD m ru0).1,?_,?_,_,Dec.first hlm (hhit.2 hh) hj,fun i=> ?_⟩
    ·unfold eF
     simp only[Int.toNat_natCast,hg,ez]
     rw[if_pos (by simp;omega),if_pos (by omega),if_pos (by omega),q1]
     simp only[Option.bind_some]
     rw[if_pos hh.1,if_pos (by omega),if_pos (by omega),q3]
     simp only[Option.bind_some]
     rw[if_pos hh.2,if_pos (by omega),if_pos (by omega),if_pos (by omega),if_pos (by rw[List.length_set];omega),if_pos (by rw[List.length_set];omega)]
    ·simp[ho]
    ·rw[gL (by rw[List.length_set];omega),gL (by omega)]
     by_cases e:(mR r i1).getD k 0=i
     ·rw[if_pos e,if_pos e]
     ·rw[if_neg e,if_neg e,if_neg e]
   ·refine .inl ⟨((m+1:Nat):Int),?_,⟨m+1,rfl,hlm,fun j hj'=> ?_⟩,by simp only[Int.toNat_natCast];omega⟩
    ·unfold eF
     simp only[Int.toNat_natCast,hg,ez]
     rw[if_pos (by simp;omega),if_pos (by omega),if_pos (by omega),q1]
     simp only[Option.bind_some]
     cases b1 with
     | false =>
      simp only[Bool.false_eq_true,if_false,Option.bind_some]
      rw[fG (by omega)]
     | true =>
      cases b2 with
      | true=>exact absurd ⟨rfl,rfl⟩ hh
      | false =>
       rw[if_pos rfl,if_pos (by omega),if_pos (by omega),q3]
       simp only[Bool.false_eq_true,if_false,Option.bind_some]
       rw[fG (by omega)]
    ·by_cases e:j=m
     ·subst e;exact fun q=>hh (hhit.1 q)
     ·exact hj j (by omega)
  ·refine .inr ⟨o.set ((mR r i1).getD k 0) 1,?_,by simp[ho],1,Dec.none fun x hx=> ?_,fun i=>gL (by omega) _ _⟩
   ·unfold eF
    simp only[Int.toNat_natCast,hg]
    rw[if_neg (by simp;omega)]
   ·obtain⟨j,hj',rfl⟩:=List.getElem_of_mem hx
    have:=hj j (by omega)
    rwa [dQ hj']at this
 have L3:∃out,iter (gD r.2.2.2.2 (g9 (mR r i1)) (jT r i1)) ((List.replicate (i1.length+1) (0:Int)).set i1.length 2,1)=some out∧Spec r i1 out:=by
  refine bI (I:=fun q=>∃k:Nat,q.2=(k:Int)∧1≤k∧k≤max 1 (mR r i1).length∧q.1.length=i1.length+1∧q.1.getD i1.length 0=2 ∧
   (∀j,1≤j→j<k→Dec r.2.2.2.2 ((jT r i1).take j) ((jT r i1).drop j) (q.1.getD ((mR r i1).getD j 0) 0))∧∀i,i<i1.length→(∀j,1≤j→j<k→(mR r i1).getD j 0≠i)→q.1.getD i 0=0)
   (μ:=fun q=>i1.length+2 - q.2.toNat) _ ?_ ⟨1,rfl,Nat.le_refl _,by omega,by simp,?_,fun j _ _=>by omega,fun i hi _=> ?_⟩
  ·rintro⟨o,k'⟩ ⟨k,rfl,k1,k2,ho,hL,hD,hO⟩
   dsimp only at ho hL hD hO
   by_cases hlt:k<(mR r i1).length
   ·have hat:=p3 k hlt
    have hg:(g9 (mR r i1)).getD k 0=(((mR r i1).getD k 0:Nat):Int):=pM hlt
    obtain⟨o',m1,m2,d,m3,m4⟩:=L2 o k ho hlt
    refine .inl ⟨(o',((k+1:Nat):Int)),?_,⟨k+1,rfl,by omega,by omega,m2,?_,fun j j1 j2=> ?_,fun i hi hj=> ?_⟩,by simp only[Int.toNat_natCast];omega⟩
    ·unfold gD
     dsimp only
     rw[if_pos (by simp;omega),if_pos (by omega),Int.toNat_natCast,if_pos (by omega),hg,if_pos (by omega),Int.toNat_natCast,if_pos (by omega),m1]
     simp only[Option.bind_some]
     rw[fG (by omega)]
    ·dsimp only
     rw[m4,if_neg (by omega)];exact hL
    ·dsimp only
     rw[m4]
     by_cases e:j=k
     ·subst e;rw[if_pos rfl];exact m3
     ·have:=p4 j k (by omega) hlt
      rw[if_neg (by omega)]
      exact hD j j1 (by omega)
    ·dsimp only
     rw[m4,if_neg (hj k k1 (by omega))]
     exact hO i hi fun j j1 j2=>hj j j1 (by omega)
   ·refine .inr ⟨o,?_,ho,hL,fun j j1 j2=>hD j j1 (by omega),fun i hi hj=>hO i hi fun j j1 j2=>by
     by_cases e:j<(mR r i1).length
     ·exact hj j j1 e
     ·omega⟩
    unfold gD
    dsimp only
    rw[if_neg (by rw[dL];simp;omega)]
  ·dsimp only
   rw[gL (by simp),if_pos rfl]
  ·dsimp only
   rw[gL (by simp),if_neg (by omega),List.getD_eq_getElem?_getD,List.getElem?_replicate,if_pos (by omega)]
   rfl
 obtain⟨out,o1,o2⟩:=L3
 refine⟨out,?_,o2⟩
 unfold i6
 rw[e0,if_pos (by omega),Int.toNat_natCast,if_pos (by rw[List.length_replicate];omega),Int.toNat_natCast,if_pos (by rw[List.length_replicate];omega),aEG h hl]
 simp only[Option.bind_some]
 rw[o1]
 rfl
end Go.Proofs.YtacpjjgochokcaaDoor.T
