/- The document's reading of expressions: where rows end. -/
import Derived.Test.YtacpjjgochokcaaDoorTvT06xSegRuns
import Derived.Test.YtacpjjgochokcaaDoorTvZcm
namespace Go.Proofs.YtacpjjgochokcaaDoor.T
open Go Go.Tv Go.Proofs
def TX(x:List Bool)(i:Nat):Prop:=x.getD i false=true
theorem x5{x:List Bool}{j:Nat}(h:TX x j):j<x.length:=by
 rcases Nat.lt_or_ge j x.length with h' | h'
 ·exact h'
 ·simp only[TX,List.getD_eq_getElem?_getD,List.getElem?_eq_none h']at h
  cases h
theorem xX{x:List Bool}{k:Nat}(hk:k<x.length)(v:Bool)(j:Nat):(x.set k v).getD j false=if k=j then v else x.getD j false:=by
 simp only[List.getD_eq_getElem?_getD,List.getElem?_set]
 by_cases e:k=j
 ·subst e;simp[hk]
 ·simp[e]
theorem aAe{a b:List Bool}(hl:a.length=b.length)(hb:a.length≤1000000):∃y,eO a b=some y∧y.length=a.length∧∀j,TX y j↔TX a j∨TX b j:=by
 have key:∃r,iter (fH a b) (List.replicate (a.length:Int).toNat false,(0:Int))=some r∧r.length=a.length∧∀j,TX r j↔TX a j∨TX b j:=by
  refine bI (I:=fun s=>∃k:Nat,s.2=(k:Int)∧k≤a.length∧s.1.length=a.length∧∀j,TX s.1 j↔j<k∧(TX a j∨TX b j)) (μ:=fun s=>a.length - s.2.toNat) _ ?_ ?_
  ·rintro⟨out,i⟩ ⟨k,rfl,hk,ho,hj⟩
   dsimp only at ho hj
   by_cases hlt:k<a.length
   ·refine .inl ⟨(out.set k (a.getD k false || b.getD k false),((k+1:Nat):Int)),?_,⟨k+1,rfl,hlt,by simp[ho],fun j=> ?_⟩,by simp only[Int.toNat_natCast];omega⟩
    ·unfold fH
     dsimp only
     have c1:0≤(k:Int)∧(k:Int)<(a.length:Int):=by omega
     have c2:0≤(k:Int)∧(k:Int)<(out.length:Int):=by omega
     have c3:0≤(k:Int)∧(k:Int)<(b.length:Int):=by omega
     have c4:k<out.length:=by omega
     have c5:IntKind.i64.wrap ((k:Int)+1)=((k+1:Nat):Int):=by rw[aN (by omega) (by omega)];omega
     simp only[Int.toNat_natCast,if_pos c1,if_pos c2,if_pos c3,if_pos c4,c5]
     rw[if_pos (by simp;omega)]
     cases a.getD k false <;> simp
    ·simp only[TX]at hj ⊢
     rw[xX (by omega)]
     by_cases e:k=j
     ·subst e;simp
     ·rw[if_neg e,hj]
      constructor
      ·rintro⟨h1,h2⟩;exact⟨by omega,h2⟩
      ·rintro⟨h1,h2⟩;exact⟨by omega,h2⟩
   ·refine .inr ⟨out,?_,ho,fun j=> ?_⟩
    ·unfold fH
     dsimp only
     rw[if_neg (by simp;omega)]
    ·rw[hj]
     refine⟨fun h=>h.2,fun h=>⟨?_,h⟩⟩
     rcases Nat.lt_or_ge j a.length with h' | h'
     ·omega
     ·rcases h with h | h
      ·have:=x5 h;omega
      ·have:=x5 h;omega
  ·refine⟨0,rfl,Nat.zero_le _,by simp,fun j=> ?_⟩
   simp only[TX,List.getD_eq_getElem?_getD,List.getElem?_replicate]
   constructor
   ·intro h;split at h <;> cases h
   ·rintro⟨h,_⟩;omega
 obtain⟨r,h1,h2⟩:=key
 refine⟨r,?_,h2⟩
 unfold eO
 rw[if_pos (by omega),h1]
 rfl
theorem aHc{a b:List Bool}(hl:a.length=b.length)(hb:a.length≤1000000):∃r,f6 a b=some r∧(r=true↔∃j,TX b j∧¬TX a j):=by
 have key:∃r,iter (dW a b) (0:Int)=some r∧(((∃j,TX b j∧¬TX a j)∧r = .inr true)∨(¬(∃j,TX b j∧¬TX a j)∧r = .inl ())):=by
  refine bI (I:=fun s=>∃k:Nat,s=(k:Int)∧k≤a.length∧∀j,j<k→TX b j→TX a j) (μ:=fun s=>a.length - s.toNat) _ ?_ ⟨0,rfl,Nat.zero_le _,fun j h=>by omega⟩
  rintro i ⟨k,rfl,hk,hj⟩
  by_cases hlt:k<a.length
  ·have c1:0≤(k:Int)∧(k:Int)<(a.length:Int):=by omega
   have c3:0≤(k:Int)∧(k:Int)<(b.length:Int):=by omega
   have c5:IntKind.i64.wrap ((k:Int)+1)=((k+1:Nat):Int):=by rw[aN (by omega) (by omega)];omega
   by_cases hc:TX b k∧¬TX a k
   ·refine .inr ⟨.inr true,?_,.inl ⟨⟨k,hc⟩,rfl⟩⟩
    unfold dW
    obtain⟨h1,h2⟩:=hc
    simp only[TX]at h1 h2
    simp only[Int.toNat_natCast,if_pos c1,if_pos c3,h1,h2]
    rw[if_pos (by simp;omega)]
    simp
   ·refine .inl ⟨((k+1:Nat):Int),?_,⟨k+1,rfl,hlt,fun j h hb=> ?_⟩,by simp only[Int.toNat_natCast];omega⟩
    ·unfold dW
     simp only[Int.toNat_natCast,if_pos c1,if_pos c3,c5]
     rw[if_pos (by simp;omega)]
     simp only[TX]at hc
     cases h1:b.getD k false with
     | false=>simp
     | true =>
      rw[h1]at hc
      simp only[true_and,Classical.not_not]at hc
      rw[hc]
      rfl
    ·by_cases e:j=k
     ·subst e
      exact Classical.byContradiction fun h'=>hc ⟨hb,h'⟩
     ·exact hj j (by omega) hb
  ·refine .inr ⟨.inl (),?_,.inr ⟨?_,rfl⟩⟩
   ·unfold dW
    rw[if_neg (by simp;omega)]
   ·rintro⟨j,h1,h2⟩
    rcases Nat.lt_or_ge j a.length with h' | h'
    ·exact(h2 (hj j (by omega) h1)).elim
    ·have:=x5 h1;omega
 obtain⟨r,h1,⟨h2,rfl⟩ | ⟨h2,rfl⟩⟩:=key
 ·exact⟨true,by unfold f6;rw[h1];rfl,fun _=>h2,fun _=>rfl⟩
 ·exact⟨false,by unfold f6;rw[h1];rfl,fun h=>(by cases h),fun h=>(h2 h).elim⟩
theorem aGg:∀ {a b:List Bool},a.length=b.length→(∀j,TX a j→TX b j)→(∃j,TX b j∧¬TX a j)→b.countP (!·)<a.countP (!·)
 | [],[],_,_,⟨j,h,_⟩=>by simp[TX]at h
 | x::a,y::b,hl,hm,⟨j,h1,h2⟩=>by
  have hm':∀j,TX a j→TX b j:=fun j h=>hm (j+1) h
  have h0:x=true→y=true:=hm 0
  have le:b.countP (!·)≤a.countP (!·):=by
   by_cases hx:∃j,TX b j∧¬TX a j
   ·exact Nat.le_of_lt (aGg (by simpa using hl) hm' hx)
   ·have e:a=b:=by
     refine List.ext_getElem (by simpa using hl) fun i h1 h2=> ?_
     have q1:=hm' i
     have q2:TX b i→TX a i:=fun h=>Classical.byContradiction fun h'=>hx ⟨i,h,h'⟩
     simp only[TX,dQ h1,dQ h2]at q1 q2
     cases ha:a[i] <;> cases hb:b[i] <;> simp_all
    rw[e];exact Nat.le_refl _
  simp only[List.countP_cons]
  cases j with
  | zero =>
   have e1:y=true:=h1
   have e2:x=false:=by
    cases x
    ·rfl
    ·exact(h2 rfl).elim
   subst e1 e2
   simp;omega
  | succ j =>
   have lt:=aGg (a:=a) (b:=b) (by simpa using hl) hm' ⟨j,h1,h2⟩
   cases x <;> cases y <;> simp at h0 ⊢ <;> omega
 | [],_::_,h,_,_=>by simp at h
 | _::_,[],h,_,_=>by simp at h
theorem Z6(n:Nat)(j:Nat):¬TX (List.replicate n false) j:=by
 simp only[TX,List.getD_eq_getElem?_getD,List.getElem?_replicate]
 intro h;split at h <;> cases h
theorem aFc{x:List Bool}{n:Nat}(hn:x.length=n):x.take (List.replicate (n:Int).toNat false).length++(List.replicate (n:Int).toNat false).drop x.length=x:=by
 subst hn
 simp
end Go.Proofs.YtacpjjgochokcaaDoor.T
namespace Go.Proofs.YtacpjjgochokcaaDoor.T
open Go Go.Tv Go.Proofs
abbrev RE:=Int→Int→(List Tree)→(List Int)→(List Bool)→Option (List Bool)
def EOk(R:RE)(w:Wd)(k:Tree):Prop:=∀x:List Bool,x.length=w.length+1→∃y,R k.op k.set k.kids w x=some y∧y.length=w.length+1∧∀j,TX y j↔Et (Lg k) w (TX x) j
section
variable{R:RE}{w:Wd}{x:List Bool}(hw:w.length≤900000)(hx:x.length=w.length+1)
include hw hx
theorem aHN{s:Int}(hs:U32 s):∃y,iter (dV s w x) (List.replicate (x.length:Int).toNat false,(0:Int))=some y∧y.length=w.length+1∧∀j,TX y j↔∃i,j=i+1∧TX x i∧i<w.length∧inS s (w.getD i 0):=by
 refine bI (I:=fun q=>∃k:Nat,q.2=(k:Int)∧k≤w.length∧q.1.length=w.length+1∧∀j,TX q.1 j↔∃i,i<k∧j=i+1∧TX x i∧inS s (w.getD i 0)) (μ:=fun q=>w.length - q.2.toNat) _ ?_ ?_
 ·rintro⟨out,i⟩ ⟨k,rfl,hk,ho,hj⟩
  dsimp only at ho hj
  have c5:IntKind.i64.wrap ((k:Int)+1)=((k+1:Nat):Int):=by rw[aN (by omega) (by omega)];omega
  by_cases hlt:k<w.length
  ·have c1:0≤(k:Int)∧(k:Int)<(x.length:Int):=by omega
   have c2:0≤(k:Int)∧(k:Int)<(w.length:Int):=by omega
   have c3:0≤((k+1:Nat):Int)∧((k+1:Nat):Int)<(out.length:Int):=by omega
   have c4:k+1<out.length:=by omega
   have c6:(decide (((k+1:Nat):Int)<(x.length:Int)))=true:=by simp;omega
   have c7:¬(2:Int)=0:=by decide
   obtain⟨v,hv1,hv2⟩:∃v:Bool,dV s w x (out,(k:Int))=some (.inl (out.set (k+1) v,((k+1:Nat):Int)))∧(v=true↔TX x k∧inS s (w.getD k 0)):=by
    unfold dV
    simp only[c5,Int.toNat_natCast,if_pos c1,if_pos c2,if_pos c3,if_pos c4,if_pos c6,if_pos c7]
    simp only[TX,inS]
    cases hxk:x.getD k false with
    | false=>exact⟨false,by simp,by simp⟩
    | true =>
     by_cases h0:0≤w.getD k 0
     ·by_cases h32:w.getD k 0<32
      ·refine⟨bt s (w.getD k 0).toNat,?_,⟨fun h=>⟨rfl,h0,h32,h⟩,fun h=>h.2.2.2⟩⟩
       rw[if_pos rfl,if_pos (by simpa using h0),if_pos (by simpa using h32),if_pos h0,aAr hs (by omega)]
       rfl
      ·refine⟨false,?_,⟨fun h=>(by cases h),fun h=>(h32 h.2.2.1).elim⟩⟩
       rw[if_pos rfl,if_pos (by simpa using h0),if_neg (by simpa using h32)]
       rfl
     ·refine⟨false,?_,⟨fun h=>(by cases h),fun h=>(h0 h.2.1).elim⟩⟩
      rw[if_pos rfl,if_neg (by simpa using h0)]
      rfl
   refine .inl ⟨_,hv1,⟨k+1,rfl,hlt,by simp[ho],fun j=> ?_⟩,by simp only[Int.toNat_natCast];omega⟩
   have hg:=xX c4 v j
   simp only[TX]at hj hv2 ⊢
   rw[hg]
   by_cases e:k+1=j
   ·subst e
    rw[if_pos rfl,hv2]
    constructor
    ·exact fun h=>⟨k,by omega,rfl,h⟩
    ·rintro⟨i,_,e,h⟩
     have:i=k:=by omega
     exact this ▸ h
   ·rw[if_neg e,hj]
    constructor
    ·rintro⟨i,h1,h2,h3⟩;exact⟨i,by omega,h2,h3⟩
    ·rintro⟨i,h1,h2,h3⟩;exact⟨i,by omega,h2,h3⟩
  ·refine .inr ⟨out,?_,ho,fun j=> ?_⟩
   ·unfold dV
    simp only[c5]
    rw[if_neg (by simp;omega)]
   ·rw[hj]
    constructor
    ·rintro⟨i,h1,h2,h3,h4⟩;exact⟨i,h2,h3,by omega,h4⟩
    ·rintro⟨i,h1,h2,h3,h4⟩;exact⟨i,by omega,h1,h2,h4⟩
 ·exact⟨0,rfl,Nat.zero_le _,by simp[hx],fun j=>⟨fun h=>(Z6 _ _ h).elim,fun⟨i,h,_⟩=>absurd h (by omega)⟩⟩
omit hw in
theorem aHx{ks:List Tree}(hk:ks.length≤1000)(hR:∀k∈ks,EOk R w k):∃y,iter (fI ks w R) (x,(0:Int))=some y∧y.length=w.length+1∧∀j,TX y j↔Et (G5 ks) w (TX x) j:=by
 refine bI (I:=fun q=>∃k:Nat,q.2=(k:Int)∧k≤ks.length∧q.1.length=w.length+1∧∀j,TX q.1 j↔Et (G5 (ks.take k)) w (TX x) j) (μ:=fun q=>ks.length - q.2.toNat) _ ?_ ?_
 ·rintro⟨out,i⟩ ⟨k,rfl,hk',ho,hj⟩
  dsimp only at ho hj
  by_cases hlt:k<ks.length
  ·have c1:0≤(k:Int)∧(k:Int)<(ks.length:Int):=by omega
   have c5:IntKind.i64.wrap ((k:Int)+1)=((k+1:Nat):Int):=by rw[aN (by omega) (by omega)];omega
   obtain⟨y,e1,e2,e3⟩:=hR _ (cS (d:=Tree.node 0 0 []) hlt) out ho
   refine .inl ⟨(y,((k+1:Nat):Int)),?_,⟨k+1,rfl,hlt,e2,fun j=> ?_⟩,by simp only[Int.toNat_natCast];omega⟩
   ·unfold fI
    simp only[Int.toNat_natCast,if_pos c1,c5]
    rw[if_pos (by simp;omega),e1]
    rfl
   ·have h2:TX out=Et (G5 (ks.take k)) w (TX x):=funext fun j=>propext (hj j)
    rw[e3,h2,←Et.cat,iN (d:=Tree.node 0 0 []) hlt]
    exact Et.congr fun u=>(aBM _ _ u).symm
  ·refine .inr ⟨out,?_,ho,fun j=> ?_⟩
   ·unfold fI
    dsimp only
    rw[if_neg (by simp;omega)]
   ·rw[hj,List.take_of_length_le (by omega)]
 ·refine⟨0,rfl,Nat.zero_le _,hx,fun j=> ?_⟩
  have:G5 (ks.take 0)=fun u=>u=[]:=funext fun u=>by simp[G5]
  rw[this]
  constructor
  ·intro h;have:=x5 h;dsimp only at this;exact(Et.eps (by omega)).2 h
  ·intro h;obtain⟨_,_,h2,_⟩:=id h;exact(Et.eps h2).1 h
theorem aId{ks:List Tree}(hk:ks.length≤1000)(hR:∀k∈ks,EOk R w k):∃y,iter (fJ ks w x R) (List.replicate (x.length:Int).toNat false,(0:Int))=some y∧y.length=w.length+1∧∀j,TX y j↔Et (LgA ks) w (TX x) j:=by
 refine bI (I:=fun q=>∃k:Nat,q.2=(k:Int)∧k≤ks.length∧q.1.length=w.length+1∧∀j,TX q.1 j↔Et (LgA (ks.take k)) w (TX x) j) (μ:=fun q=>ks.length - q.2.toNat) _ ?_ ?_
 ·rintro⟨out,i⟩ ⟨k,rfl,hk',ho,hj⟩
  dsimp only at ho hj
  by_cases hlt:k<ks.length
  ·have c1:0≤(k:Int)∧(k:Int)<(ks.length:Int):=by omega
   have c5:IntKind.i64.wrap ((k:Int)+1)=((k+1:Nat):Int):=by rw[aN (by omega) (by omega)];omega
   obtain⟨y,e1,e2,e3⟩:=hR _ (cS (d:=Tree.node 0 0 []) hlt) x hx
   obtain⟨z,f1,f2,f3⟩:=aAe (a:=out) (b:=y) (by omega) (by omega)
   refine .inl ⟨(z,((k+1:Nat):Int)),?_,⟨k+1,rfl,hlt,by dsimp only;omega,fun j=> ?_⟩,by simp only[Int.toNat_natCast];omega⟩
   ·unfold fJ
    simp only[Int.toNat_natCast,if_pos c1,c5]
    rw[if_pos (by simp;omega),e1]
    simp only[Option.bind_some,f1]
   ·dsimp only
    rw[f3,hj,e3,←Et.or,iN (d:=Tree.node 0 0 []) hlt]
    exact Et.congr fun u=>(S0 _ _ u).symm
  ·refine .inr ⟨out,?_,ho,fun j=> ?_⟩
   ·unfold fJ
    dsimp only
    rw[if_neg (by simp;omega)]
   ·rw[hj,List.take_of_length_le (by omega)]
 ·refine⟨0,rfl,Nat.zero_le _,by simp[hx],fun j=>⟨fun h=>(Z6 _ _ h).elim,fun h=> ?_⟩⟩
  have:LgA (ks.take 0)=fun _=>False:=funext fun u=>by simp[LgA]
  rw[this]at h
  exact(Et.no h).elim
omit hx in
theorem aDd(st:Bool){X:Nat→Prop}{S:Wd→Prop}{k0:Tree}{ks:List Tree}(hR:EOk R w k0)(hS:(st=true∧S=Star (Lg k0))∨(st=false∧S=Plus (Lg k0))){out next:List Bool}(ho:out.length=w.length+1)(hn:next.length=w.length+1)
  (i1:∀j,TX out j→Et S w X j) (i2:∀j,TX next j→Et (Plus (Lg k0)) w X j) (i3:∀j,Et (Lg k0) w X j→TX out j∨TX next j) (i4:∀j,Et (Lg k0) w (TX out) j→TX next j) (i5:st=true→∀j,j≤w.length→X j→TX out j) :
  ∃y,iter (fE (k0::ks) w R) (out,next)=some y∧y.length=w.length+1∧∀j,TX y j↔Et S w X j:=by
 refine bI (I:=fun q=>q.1.length=w.length+1∧q.2.length=w.length+1∧(∀j,TX q.1 j→Et S w X j)∧(∀j,TX q.2 j→Et (Plus (Lg k0)) w X j)∧(∀j,Et (Lg k0) w X j→TX q.1 j∨TX q.2 j)∧(∀j,Et (Lg k0) w (TX q.1) j→TX q.2 j)∧(st=true→∀j,j≤w.length→X j→TX q.1 j)) (μ:=fun q=>q.1.countP (!·)) _ ?_ ⟨ho,hn,i1,i2,i3,i4,i5⟩
 rintro⟨out,next⟩ ⟨ho,hn,i1,i2,i3,i4,i5⟩
 dsimp only at *
 obtain⟨r,r1,r2⟩:=aHc (a:=out) (b:=next) (by omega) (by omega)
 by_cases hr:r=true
 ·obtain⟨z,f1,f2,f3⟩:=aAe (a:=out) (b:=next) (by omega) (by omega)
  obtain⟨y,e1,e2,e3⟩:=hR z (by omega)
  have hz:∀j,TX z j→Et (Star (Lg k0)) w X j:=fun j hj=>by
   rcases(f3 j).1 hj with h | h
   ·have:=i1 j h
    rcases hS with⟨_,rfl⟩ | ⟨_,rfl⟩
    ·exact this
    ·exact this.imp fun u=>Plus.star
   ·exact(i2 j h).imp fun u=>Plus.star
  have hzS:∀j,TX z j→Et S w X j:=fun j hj=>by
   rcases(f3 j).1 hj with h | h
   ·exact i1 j h
   ·rcases hS with⟨rfl,rfl⟩ | ⟨_,rfl⟩
    ·exact(i2 j h).imp fun u=>Plus.star
    ·exact i2 j h
  refine .inl ⟨(z,y),?_,⟨by dsimp only;omega,e2,hzS,fun j hj=>Et.star_step (((e3 j).1 hj).mono hz),fun j hj=> .inl ((f3 j).2 (i3 j hj)),fun j hj=>(e3 j).2 hj,fun hs j hj hX=>(f3 j).2 (.inl (i5 hs j hj hX))⟩,aGg (by dsimp only;omega) (fun j h=>(f3 j).2 (.inl h)) ?_⟩
  ·unfold fE
   simp only[r1,hr,f1,Option.bind_some,if_true]
   have c:0≤(0:Int)∧(0:Int)<((k0::ks).length:Int):=by simp
   rw[if_pos c]
   have e:(k0::ks).getD (0:Int).toNat (Tree.node 0 0 [])=k0:=rfl
   rw[e,e1]
   rfl
  ·obtain⟨j,h1,h2⟩:=r2.1 hr
   exact⟨j,(f3 j).2 (.inr h1),h2⟩
 ·have hsub:∀j,TX next j→TX out j:=fun j h=>Classical.byContradiction fun h'=>hr (r2.2 ⟨j,h,h'⟩)
  have hb:∀j,Et (Plus (Lg k0)) w X j→TX out j:=fun j h=>Et.plus (fun j h=>(i3 j h).elim id (hsub j)) (fun j h=>hsub j (i4 j h)) h
  refine .inr ⟨out,?_,ho,fun j=>⟨i1 j,fun h=> ?_⟩⟩
  ·unfold fE
   simp only[r1,hr,Option.bind_some]
   rfl
  ·rcases hS with⟨rfl,rfl⟩ | ⟨_,rfl⟩
   ·obtain⟨_,_,hj,_⟩:=id h
    rcases(Et.star_iff hj).1 h with h | h
    ·exact i5 rfl j hj h
    ·exact hb j h
   ·exact hb j h
theorem aIL{o s:Int}{ks:List Tree}(hs:U32 s)(hk:ks.length≤1000)(hR:∀k∈ks,EOk R w k):
  ∃y,gB R o s ks w x=some y∧y.length=w.length+1∧∀j,TX y j↔Et (Lg (.node o s ks)) w (TX x) j:=by
 have hg:0≤(x.length:Int)∧(x.length:Int)≤(x.length:Int)∧(1:Int)*(x.length:Int)≤281474976710656∧(x.length:Int)≤9223372036854775807:=by omega
 have hcp:x.take (List.replicate (x.length:Int).toNat false).length++(List.replicate (x.length:Int).toNat false).drop x.length=x:=aFc rfl
 have hz:(List.replicate (x.length:Int).toNat false).length=w.length+1:=by simp[hx]
 unfold gB
 rw[if_pos hg]
 simp only[hcp]
 by_cases h1:o=1
 ·subst h1
  obtain⟨y,e1,e2,e3⟩:=aHN hw hx hs
  refine⟨y,by rw[if_pos (show((1:Int) == 1)=true from rfl),e1];rfl,e2,fun j=> ?_⟩
  have:Lg (.node 1 s ks)=fun u=>∃c,u=[c]∧inS s c:=funext fun u=>by simp[Lg]
  rw[this,e3]
  constructor
  ·rintro⟨i,rfl,h3,h4,h5⟩;exact(Et.set (by omega)).2 ⟨i,rfl,h3,h5⟩
  ·intro h
   obtain⟨_,_,hj,_⟩:=id h
   obtain⟨i,rfl,h3,h5⟩:=(Et.set hj).1 h
   exact⟨i,rfl,h3,by omega,h5⟩
 rw[if_neg (by simpa using h1)]
 by_cases h2:o=2
 ·subst h2
  obtain⟨y,e1,e2,e3⟩:=aHx hx hk hR
  refine⟨y,by rw[if_pos (show((2:Int) == 2)=true from rfl),e1];rfl,e2,fun j=> ?_⟩
  have:Lg (.node 2 s ks)=G5 ks:=funext fun u=>by simp[Lg]
  rw[this,e3]
 rw[if_neg (by simpa using h2)]
 by_cases h3:o=3
 ·subst h3
  obtain⟨y,e1,e2,e3⟩:=aId hw hx hk hR
  refine⟨y,by rw[if_pos (show((3:Int) == 3)=true from rfl),e1];rfl,e2,fun j=> ?_⟩
  have:Lg (.node 3 s ks)=LgA ks:=funext fun u=>by simp[Lg]
  rw[this,e3]
 rw[if_neg (by simpa using h3)]
 have kid:∀ {k0:Tree} {ks':List Tree},ks=k0::ks'→EOk R w k0:=fun e=>hR _ (by rw[e];exact .head _)
 by_cases h4:o=4
 ·subst h4
  cases ks with
  | nil =>
   refine⟨x,rfl,hx,fun j=> ?_⟩
   have:Lg (.node 4 s [])=Star (fun _=>False):=funext fun u=>by simp only[Lg];rfl
   rw[this]
   constructor
   ·intro h;have:=x5 h;exact(Et.star_iff (by omega)).2 (.inl h)
   ·intro h
    obtain⟨_,_,hj,_⟩:=id h
    rcases(Et.star_iff hj).1 h with h | ⟨_,_,_,_,_,_,_,h,_⟩
    ·exact h
    ·exact h.elim
  | cons k0 ks =>
   obtain⟨nx,n1,n2,n3⟩:=kid rfl x hx
   have:Lg (.node 4 s (k0::ks))=Star (Lg k0):=funext fun u=>by
    simp only[Lg];rfl
   obtain⟨y,e1,e2,e3⟩:=aDd hw true (X:=TX x) (ks:=ks) (kid rfl) (.inl ⟨rfl,rfl⟩) hx n2 (fun j h=>by have:=x5 h;exact(Et.star_iff (by omega)).2 (.inl h)) (fun j h=>((n3 j).1 h).imp fun u hu=>⟨u,[],by simp,hu,.nil⟩)
    (fun j h=> .inr ((n3 j).2 h)) (fun j h=>(n3 j).2 h) (fun _ j _ h=>h)
   refine⟨y,?_,e2,fun j=>by rw[this,e3]⟩
   have q1:(((4:Int) == 4))=true:=rfl
   have q2:((((k0::ks).length:Int) == (0:Int)))=false:=by simp;omega
   have c:0≤(0:Int)∧(0:Int)<((k0::ks).length:Int):=by simp
   have e:(k0::ks).getD (0:Int).toNat (Tree.node 0 0 [])=k0:=rfl
   simp only[q1,q2,if_true,Option.bind_some,if_pos c,e,n1,e1,Bool.false_eq_true,if_false]
 by_cases h5:o=5
 ·subst h5
  cases ks with
  | nil =>
   refine⟨List.replicate (x.length:Int).toNat false,rfl,hz,fun j=>⟨fun h=>(Z6 _ _ h).elim,?_⟩⟩
   rintro⟨_,_,_,_,h⟩
   simp only[Lg]at h
   obtain⟨_,_,_,h,_⟩:=h
   exact(show False from h).elim
  | cons k0 ks =>
   obtain⟨nx,n1,n2,n3⟩:=kid rfl x hx
   have:Lg (.node 5 s (k0::ks))=Plus (Lg k0):=funext fun u=>by
    simp only[Lg];rfl
   obtain⟨y,e1,e2,e3⟩:=aDd hw false (X:=TX x) (ks:=ks) (kid rfl) (.inr ⟨rfl,rfl⟩) hz n2 (fun j h=>(Z6 _ _ h).elim) (fun j h=>((n3 j).1 h).imp fun u hu=>⟨u,[],by simp,hu,.nil⟩)
    (fun j h=> .inr ((n3 j).2 h)) (fun j h=>by obtain⟨i,_,_,h,_⟩:=h;exact(Z6 _ _ h).elim) (fun h=>by cases h)
   refine⟨y,?_,e2,fun j=>by rw[this,e3]⟩
   have q1:(((5:Int) == 4))=false:=rfl
   have q3:(((5:Int) == 5))=true:=rfl
   have q2:((((k0::ks).length:Int) == (0:Int)))=false:=by simp;omega
   have c:0≤(0:Int)∧(0:Int)<((k0::ks).length:Int):=by simp
   have e:(k0::ks).getD (0:Int).toNat (Tree.node 0 0 [])=k0:=rfl
   simp only[q1,q2,q3,if_true,Option.bind_some,if_pos c,e,n1,e1,Bool.false_eq_true,if_false]
 have q1:(o == (4:Int))=false:=by simpa using h4
 have q3:(o == (5:Int))=false:=by simpa using h5
 simp only[q1,q3,Option.bind_some,Bool.false_eq_true,if_false]
 by_cases h6:o=6
 ·subst h6
  rw[if_pos (show((6:Int) == 6)=true from rfl)]
  cases ks with
  | nil =>
   refine⟨x,rfl,hx,fun j=> ?_⟩
   have:Lg (.node 6 s [])=fun u=>u=[]:=funext fun u=>by simp[Lg,LgH]
   rw[this]
   constructor
   ·intro h;have:=x5 h;exact(Et.eps (by omega)).2 h
   ·intro h;obtain⟨_,_,hj,_⟩:=id h;exact(Et.eps hj).1 h
  | cons k0 ks =>
   obtain⟨nx,n1,n2,n3⟩:=kid rfl x hx
   obtain⟨z,f1,f2,f3⟩:=aAe (a:=x) (b:=nx) (by omega) (by omega)
   have q2:(decide (((k0::ks).length:Int) > (0:Int)))=true:=by simp
   have c:0≤(0:Int)∧(0:Int)<((k0::ks).length:Int):=by simp
   have e:(k0::ks).getD (0:Int).toNat (Tree.node 0 0 [])=k0:=rfl
   refine⟨z,by simp only[q2,if_true,if_pos c,e,n1,f1,Option.bind_some],by omega,fun j=> ?_⟩
   have:Lg (.node 6 s (k0::ks))=fun u=>u=[]∨Lg k0 u:=funext fun u=>by simp[Lg,LgH]
   rw[this,f3,n3,Et.or]
   refine or_congr ⟨?_,?_⟩ Iff.rfl
   ·intro h;have:=x5 h;exact(Et.eps (by omega)).2 h
   ·intro h;obtain⟨_,_,hj,_⟩:=id h;exact(Et.eps hj).1 h
 rw[if_neg (by simpa using h6)]
 refine⟨x,rfl,hx,fun j=> ?_⟩
 have:Lg (.node o s ks)=fun u=>u=[]:=funext fun u=>by simp[Lg,h1,h2,h3,h4,h5,h6]
 rw[this]
 constructor
 ·intro h;have:=x5 h;exact(Et.eps (by omega)).2 h
 ·intro h;obtain⟨_,_,hj,_⟩:=id h;exact(Et.eps hj).1 h
end
theorem aAq{w:Wd}(hw:w.length≤900000):∀(d:Nat) (t:Tree),Tok d t→∀f,d≤f→EOk (fY f) w t
 | 0,_,h,_,_=>h.elim
 | d+1,.node o s ks,h,0,hf=>absurd hf (by omega)
 | d+1,.node o s ks,h,f+1,hf=>fun x hx=>aIL hw hx h.1 h.2.1 (fun k hk=>aAq hw d k (h.2.2 k hk) f (by omega))
end Go.Proofs.YtacpjjgochokcaaDoor.T
