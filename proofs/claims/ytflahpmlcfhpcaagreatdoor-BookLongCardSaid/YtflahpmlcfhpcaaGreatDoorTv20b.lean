/- Tables that the kernel can reckon with; what hangs on a table's answers alone; the example's book. -/
import Derived.Test.YtflahpmlcfhpcaaGreatDoorTvT20bBookLong
import Derived.Test.YtflahpmlcfhpcaaGreatDoorTv20a
namespace Go.Proofs.YtflahpmlcfhpcaaGreatDoor.T
open Go Go.Tv Go.Proofs
noncomputable section
def X2(l:List (Int×Int×Int)):Nat→Int→List Int
 | 0,_=>[]
 | n+1,r=>B5 l r::X2 l n (r+1)
theorem O4(l):∀n r,(X2 l n r).length=n
 | 0,_=>rfl
 | n+1,r=>by simp[X2,O4 l n]
theorem P0(l):∀n r c,c<n→(X2 l n r).getD c 0=B5 l (r+c)
 | n+1,r,0,_=>by simp[X2]
 | n+1,r,c+1,h=>by
  simp only[X2,List.getD_cons_succ]
  rw[P0 l n (r+1) c (by omega)]
  congr 1
  omega
def X0(l:List (Int×Int×Int)):Nat→Int→List (Arr 256)
 | 0,_=>[]
 | n+1,i=>⟨X2 l 256 (256*i),O4 l 256 _⟩::X0 l n (i+1)
theorem N1(l):∀n i,(X0 l n i).length=n
 | 0,_=>rfl
 | n+1,i=>by simp[X0,N1 l n]
theorem T7(l):∀n i q,q<n→∀c:Nat,c<256→eH ((X0 l n i).getD q (cT 256)) c=B5 l (256*(i+q)+c)
 | n+1,i,0,_,c,hc=>by
  simp only[X0,List.getD_cons_zero,eH]
  rw[P0 l 256 _ c hc]
  congr 1
  omega
 | n+1,i,q+1,h,c,hc=>by
  simp only[X0,List.getD_cons_succ]
  rw[T7 l n (i+1) q (by omega) c hc]
  congr 1
  omega
def X1:Nat→Int→List Int
 | 0,_=>[]
 | n+1,i=>i::X1 n (i+1)
theorem P2:∀n i,(X1 n i).length=n
 | 0,_=>rfl
 | n+1,i=>by simp[X1,P2 n]
theorem L3:∀n i j,j<n→(X1 n i).getD j 0=i+j
 | n+1,i,0,_=>by simp[X1]
 | n+1,i,j+1,h=>by
  simp only[X1,List.getD_cons_succ]
  rw[L3 n (i+1) j (by omega)]
  omega
def Z0(l:List (Int×Int×Int)):(Arr 4352)×List (Arr 256):=(⟨X1 4352 0,P2 _ _⟩,X0 l 4352 0)
theorem j6{l:List (Int×Int×Int)}(hR:Rp l):nB (some (Z0 l)) (R0 l):=by
 refine aBS hR fun j hj=>⟨j,?_,?_,fun c hc=> ?_⟩
 ·simp only[eH]
  rw[L3 _ _ _ hj]
  omega
 ·rw[N1];exact hj
 ·rw[T7 l 4352 0 j hj c hc]
  congr 1
  omega
theorem yM{t c:Option ((Arr 4352)×List (Arr 256))}(h:aV t=aV c)(l:List (Int×Int×Int)):cE t l=cE c l:=by
 unfold cE cS
 rw[h]
theorem R2{t c:Option ((Arr 4352)×List (Arr 256))}(h:aV t=aV c)(l:List (Int×Int×Int))(x1 x2:List Int)(x3:List Bool):fL l x1 x2 x3 t=fL l x1 x2 x3 c:=by
 unfold fL iL e9
 rw[h]
theorem xE{m1 m2 h t1 t2 t3 c1 c2 c3}(h1:aV t1=aV c1)(h2:aV t2=aV c2)(h3:aV t3=aV c3)(x:List Int):
  bG (some (m1,m2,t1,t2,t3,h)) x=bG (some (m1,m2,c1,c2,c3,h)) x:=by
 unfold bG
 simp only[Option.getD,Option.isNone,Option.isSome,yM h1,yM h2,R2 h3]
theorem aA5{m1 m2 h t1 t2 t3 c1 c2 c3}(h1:aV t1=aV c1)(h2:aV t2=aV c2)(h3:aV t3=aV c3)(x:List Int)(a b c d e:Int)(f:Option Nat):
  bI (some (m1,m2,t1,t2,t3,h)) x a b c d e f=bI (some (m1,m2,c1,c2,c3,h)) x a b c d e f:=by
 unfold bI
 rw[xE h1 h2 h3]
/-! ### The example -/
def gB:List (Int×Int×Int):=[(10,(10,2)),(32,(32,1))]
def iN:List (Int×Int×Int):=[(32,(126,1))]
def aCA:List UInt8:=[99,108,97,115,115,32,79,59,32,109,97,121,32,79,32,47,32,79,59]
def aCv:List UInt8:=[99,108,97,115,115,32,79,32,83,32,78,59,32,107,101,101,112,32,83,32,47,32,83,59,32,109,97,121,32,83,32,47,32,46,59,32,109,117,115,116,32,78,32,47,32,46,59,32,107,101,101,112,32,46,32,47,32,46,59]
def X9:=((iT aCA).getD (none,0,0)).1
def U2:=((iT aCv).getD (none,0,0)).1
def exH:=((oZ [] [] 2 2).getD (none,0,0)).1
theorem aCQ:iT aCA=some (X9,0,0):=by kernel_rfl
theorem aCO:iT aCv=some (U2,0,0):=by kernel_rfl
theorem aDU:oZ [] [] 2 2=some (exH,0,0):=by kernel_rfl
theorem aFV:cN X9=some 1:=by kernel_rfl
theorem aGJ:cN U2=some 3:=by kernel_rfl
theorem H0{l:List (Int×Int×Int)}{most:Int}(h:vV l most=true):∃t,fZ l most=some (some t,0)∧nB (some t) (R0 l):=by
 rcases L2 l most with⟨_,h2⟩ | ⟨t,e,_,f⟩
 ·rw[h]at h2;cases h2
 ·exact⟨t,e,f⟩
theorem aDm:∃t1 t2 t3,mM [] gB iN [] aCA aCv [] 2 2=some (some (X9,U2,some t1,some t2,some t3,exH),0,0)∧nB (some t1) (R0 [])∧nB (some t2) (R0 gB)∧nB (some t3) (R0 iN):=by
 obtain⟨t1,e1,f1⟩:=H0 (l:=[]) (most:=1) (by decide)
 obtain⟨t2,e2,f2⟩:=H0 (l:=gB) (most:=3) (by decide)
 obtain⟨t3,e3,f3⟩:=H0 (l:=iN) (most:=3) (by decide)
 refine⟨t1,t2,t3,?_,f1,f2,f3⟩
 unfold mM
 rw[aCQ,aCO]
 simp only[Option.bind,aFV,aGJ,e1,e2,e3,aDU]
 rfl
theorem jX:Rp []∧Rp gB∧Rp iN:=⟨pR (most:=1) (by decide),pR (most:=3) (by decide),pR (most:=3) (by decide)⟩
def exB:Option Z1:=some (X9,U2,some (Z0 []),some (Z0 gB),some (Z0 iN),exH)
theorem aDk{t1 t2 t3}(f1:nB (some t1) (R0 []))(f2:nB (some t2) (R0 gB))(f3:nB (some t3) (R0 iN))(x:List Int)(a b c d e:Int)(f:Option Nat):
  bI (some (X9,U2,some t1,some t2,some t3,exH)) x a b c d e f=bI exB x a b c d e f :=
 aA5 (f1.trans (j6 jX.1).symm) (f2.trans (j6 jX.2.1).symm) (f3.trans (j6 jX.2.2).symm) x a b c d e f
theorem aD8{t1 t2 t3}(f1:nB (some t1) (R0 []))(f2:nB (some t2) (R0 gB))(f3:nB (some t3) (R0 iN))(x:List Int):
  bG (some (X9,U2,some t1,some t2,some t3,exH)) x=bG exB x :=
 xE (f1.trans (j6 jX.1).symm) (f2.trans (j6 jX.2.1).symm) (f3.trans (j6 jX.2.2).symm) x
theorem xX:dA=some ([],gB,iN,[],aCA,aCv,[],2,2):=rfl
theorem aCW:dU=some true:=by
 obtain⟨t1,t2,t3,e,f1,f2,f3⟩:=aDm
 unfold dU
 rw[xX]
 simp only[Option.bind,e,aDk f1 f2 f3]
 kernel_rfl
end
end Go.Proofs.YtflahpmlcfhpcaaGreatDoor.T
