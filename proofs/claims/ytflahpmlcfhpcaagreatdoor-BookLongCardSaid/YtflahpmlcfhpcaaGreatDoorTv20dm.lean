/- The text of noughts: its layout; BookLong. -/
import Derived.Test.YtflahpmlcfhpcaaGreatDoorTv20c
import Derived.Test.YtflahpmlcfhpcaaGreatDoorTvT20b0
import Derived.Test.YtflahpmlcfhpcaaGreatDoorTvT20bBookLong1
import Derived.Test.YtflahpmlcfhpcaaGreatDoorTvT20bBookLong2
import Derived.Test.YtflahpmlcfhpcaaGreatDoorTvT20bBookLong3
import Derived.Test.YtflahpmlcfhpcaaGreatDoorTvT20bBookLong
namespace Go.Proofs.YtflahpmlcfhpcaaGreatDoor.T
open Go Go.Tv Go.Proofs
noncomputable section
theorem uG(n:Nat):(gQ n).length=n+1:=by simp[gQ]
theorem N2{n i:Nat}(h:i<n):(gQ n).getD i 0=0:=by
 simp[gQ,List.getD_eq_getElem?_getD,List.getElem?_append_left (show i<(List.replicate n (0:Int)).length by simpa using h),h]
theorem uP(n:Nat):(gQ n).getD n 0=2:=by simp[gQ,List.getD_eq_getElem?_getD]
theorem aDZ{n:Nat}(hn:n≤4096):lF (lE n) (gQ n)=some [(n:Int)]:=by
 have hL:iter (eE (gQ n)) (([]:List Int),(0:Int))=some [(n:Int)]:=by
  refine dK (fun k=>(if k≤n then[]else[(n:Int)],(k:Int))) (n+1) (fun k hk=> ?_) ?_
  ·have q1:(k:Int)<((gQ n).length:Int):=by rw[uG];omega
   have q2:0≤(k:Int):=by omega
   have q4:IntKind.i64.wrap ((k:Int)+1)=((k+1:Nat):Int):=by rw[bV (by omega) (by omega)];rfl
   have hkn:k≤n:=by omega
   by_cases hke:k=n
   ·subst hke
    have e:((2:Int) == 2)=true:=rfl
    simp only[eE,q1,q2,q4,uP,e,and_self,decide_true,if_true,Option.bind,Int.toNat_natCast,Nat.le_refl,List.length_nil,List.length_singleton]
    rw[if_pos (by omega)]
    simp
   ·have e:((0:Int) == 2)=false:=rfl
    have hk1:k+1≤n:=by omega
    simp only[eE,q1,q2,q4,N2 (show k<n by omega),e,hkn,hk1,and_self,decide_true,if_true,Option.bind,Int.toNat_natCast,Bool.false_eq_true,if_false]
  ·have q1:¬(((n+1:Nat):Int)<((gQ n).length:Int)):=by rw[uG];omega
   simp only[eE,q1,decide_false,Bool.false_eq_true,if_false]
   rw[if_neg (by omega)]
 exact congrArg (fun x=>Option.bind x fun o=>some o) hL
theorem aDA(a b:Int):nG a b 0 0=some true:=rfl
theorem C5{n k:Nat}(hk:k<n)(hn:n≤4096){fr:Int}(hf:fr<((k+1:Nat):Int)):eM (lE n) fr ((k+1:Nat):Int)=some (.inl (k:Int)):=by
 have q1:((k+1:Nat):Int) > fr:=hf
 have q2:IntKind.i64.wrap (((k+1:Nat):Int) - 1)=(k:Int):=by rw[bV (by omega) (by omega)];omega
 have q3:0≤(k:Int):=by omega
 have q4:(k:Int)<((lE n).length:Int):=by rw[iQ];omega
 simp only[eM,q1,q2,q3,q4,and_self,decide_true,if_true,Int.toNat_natCast,H7 hk,aDA,Option.bind]
theorem P5(n:Nat){fr to:Int}(h:¬to > fr):eM (lE n) fr to=some (.inr to):=by
 simp only[eM,h,decide_false,Bool.false_eq_true,if_false,Option.bind]
theorem aBo{n k:Nat}(hk:k<n)(hn:n≤4096)(o:List Int):iF (lE n) o (k:Int) ((k+1:Nat):Int)=some (k:Int):=by
 unfold iF
 rw[mB (C5 hk hn (by omega)),gP (P5 n (by omega))]
 rfl
theorem aDY{n:Nat}(hn:n≤4096)(o:List Int):iF (lE n) o 0 (n:Int)=some 0:=by
 have hL:iter (eM (lE n) 0) ((n - 0:Nat):Int)=some 0:=by
  refine dK (fun j=>((n - j:Nat):Int)) n (fun j hj=> ?_) ?_
  ·have e:n - j=(n - (j+1))+1:=by omega
   rw[e]
   exact C5 (by omega) hn (by omega)
  ·rw[Nat.sub_self]
   exact P5 n (by omega)
 exact congrArg (fun x=>Option.bind x fun o=>some o) hL
theorem aEN{n:Nat}(hn:n≤4096)(o:List Int):j9 (lE n) o 0 (n:Int) 2 8=some (0,((n:Int),(0,2))):=by
 have hc:gY (lE n) o 0 0 8=some [0]:=by
  unfold gY
  rw[gP (r:=[0]) (by simp[jH])]
  rfl
 unfold j9 m7
 simp only[aDY hn,hc,Option.bind]
 rfl
theorem aBm{n:Nat}(h1:1≤n)(hn:n≤4096)(x4 x5 x6:Int)(x7:Option Nat):mO (lE n) (gQ n) 0 (n:Int) 80 8 x4 x5 x6 x7=some (0,((n:Int),(0,2))):=by
 have hL:iter (eK (lE n) (gQ n) (n:Int) 80 8) ((-1:Int),(IntKind.i64.wrap ((0:Int)+1)),(0:Int),(0:Int),(IntKind.i64.wrap ((0:Int)+1)))=some ((n:Int),(n:Int)):=by
  have:=dK (body:=eK (lE n) (gQ n) (n:Int) 80 8) (fun j=>((if j=n then(n:Int)else -1),(if j=0 then(1:Int)else(j:Int)),(0:Int),(0:Int),((j+1:Nat):Int))) n (r:=((n:Int),(n:Int))) (fun j hj=> ?_) ?_
  ·rw[if_neg (show ¬(0:Nat)=n by omega),if_pos rfl]at this
   exact this
  ·have q1:((j+1:Nat):Int)≤(n:Int):=by omega
   have q2:IntKind.i64.wrap (((j+1:Nat):Int) - 1)=(j:Int):=by rw[bV (by omega) (by omega)];omega
   have q3:0≤(j:Int):=by omega
   have q4:(j:Int)<((lE n).length:Int):=by rw[iQ];omega
   have q5:mF (j:Int) 1 0 0 0 8=some 0:=rfl
   have q6:((j:Int) == ((j+1:Nat):Int))=false:=by rw[beq_eq_false_iff_ne];omega
   have q7:¬((0:Int) > 80):=by decide
   have q8:IntKind.i64.wrap (((j+1:Nat):Int)+1)=((j+1+1:Nat):Int):=by rw[bV (by omega) (by omega)];rfl
   have hjn:¬j=n:=by omega
   have q9:0≤((j+1:Nat):Int)∧((j+1:Nat):Int)<((gQ n).length:Int):=by rw[uG];omega
   by_cases hl:j+1=n
   ·have e1:(gQ n).getD (j+1) 0=2:=by rw[hl];exact uP n
    have he:iH (lE n) (gQ n) ((j+1:Nat):Int)=some (2,true):=by
     unfold iH
     rw[if_pos q9,if_pos q9,Int.toNat_natCast,e1]
     rfl
    have e2:((2:Int) != 3)=true:=rfl
    simp only[eK,q1,q2,q3,q4,q6,q7,q8,he,e2,H7 hj,q5,aBo hj hn,and_self,decide_true,decide_false,if_true,if_false,Bool.false_eq_true,Option.bind,Int.toNat_natCast]
    rw[if_pos hl,if_neg (show ¬j+1=0 by omega),show(n:Int)=((j+1:Nat):Int) by omega]
   ·have e1:(gQ n).getD (j+1) 0=0:=N2 (by omega)
    have he:iH (lE n) (gQ n) ((j+1:Nat):Int)=some (0,false):=by
     unfold iH
     rw[if_pos q9,if_pos q9,Int.toNat_natCast,e1]
     rfl
    simp only[eK,q1,q2,q3,q4,q6,q7,q8,he,H7 hj,q5,aBo hj hn,and_self,decide_true,decide_false,if_true,if_false,Bool.false_eq_true,Option.bind,Int.toNat_natCast,hl,hjn]
    rw[if_neg (by omega)]
  ·have q1:¬(((n+1:Nat):Int)≤(n:Int)):=by omega
   simp only[eK,q1,decide_false,Bool.false_eq_true,if_false,if_true]
   rw[if_neg (by omega)]
 unfold mO
 simp only[hL,Option.bind]
 have q1:(n:Int)≥0:=by omega
 have q2:(n:Int)<((gQ n).length:Int):=by rw[uG];omega
 have q3:0≤(n:Int):=by omega
 simp only[q1,q2,q3,and_self,decide_true,if_true,Int.toNat_natCast,uP,aEN hn]
theorem aFM{n:Nat}(h1:1≤n)(hn:n≤4096):∃l,bI exB (zs n) 80 8 0 0 0 (dS 0)=some (l,0):=by
 have hF:iX (lE n) (gQ n) 0 (n:Int) 80 8 0 0 0 (dS 0)=some [(0,((n:Int),(0,2)))]:=by
  have s1:eC (lE n) (gQ n) (n:Int) 80 8 0 0 0 (dS 0) ((0:Int),[])=some (.inl ((n:Int),[(0,((n:Int),(0,2)))])):=by
   have q:(0:Int)<(n:Int):=by omega
   simp only[eC,q,decide_true,if_true,aBm h1 hn,Option.bind]
   rfl
  have s2:eC (lE n) (gQ n) (n:Int) 80 8 0 0 0 (dS 0) ((n:Int),[(0,((n:Int),(0,2)))])=some (.inr [(0,((n:Int),(0,2)))]):=by
   simp only[eC,Int.lt_irrefl,decide_false,Bool.false_eq_true,if_false]
  unfold iX
  rw[mB s1,gP s2]
  rfl
 have hB:iW (lE n) (gQ n) 80 8 0 0 0 (dS 0)=some ([(0,((n:Int),(0,2)))],false):=by
  have s1:fM (lE n) (gQ n) 80 8 0 0 0 (dS 0) [(n:Int)] ([],false,(0:Int),(0:Int))=some (.inl ([(0,((n:Int),(0,2)))],false,(n:Int),(1:Int))):=by
   simp only[fM,m5,show([(n:Int)].getD (0:Int).toNat 0)=(n:Int)from rfl,show((0:Int) == 1)=false from rfl,Bool.false_eq_true,if_false,Option.bind,hF]
   rfl
  have s2:fM (lE n) (gQ n) 80 8 0 0 0 (dS 0) [(n:Int)] ([(0,((n:Int),(0,2)))],false,(n:Int),(1:Int))=some (.inr ([(0,((n:Int),(0,2)))],false)):=rfl
  unfold iW
  simp only[aDZ hn,Option.bind]
  rw[mB s1,gP s2]
 have hR:∃r,kK (lE n) (gQ n) [(0,((n:Int),(0,2)))]=some r:=by
  obtain⟨k,rfl⟩:∃k,n=k+1:=⟨n - 1,by omega⟩
  have q1:IntKind.i64.wrap (((k+1:Nat):Int) - 1)=(k:Int):=by rw[bV (by omega) (by omega)];omega
  have q2:0≤(k:Int):=by omega
  have q3:(k:Int)<((lE (k+1)).length:Int):=by rw[iQ];omega
  have q4:(0:Int)<((lE (k+1)).length:Int):=by rw[iQ];omega
  have s1:∃y,f9 (lE (k+1)) [(0,(((k+1:Nat):Int),(0,2)))] ([],(0:Int))=some (.inl (y,(1:Int))):=by
   simp only[f9,show([((0:Int),(((k+1:Nat):Int),((0:Int),(2:Int))))].getD (0:Int).toNat (0,(0,(0,0))))=(0,(((k+1:Nat):Int),(0,2)))from rfl,q1,q2,q3,q4,and_self,if_true,Int.le_refl]
   exact⟨_,rfl⟩
  obtain⟨y,s1⟩:=s1
  have s2:f9 (lE (k+1)) [(0,(((k+1:Nat):Int),(0,2)))] (y,(1:Int))=some (.inr y):=rfl
  refine⟨y,?_⟩
  unfold kK
  rw[if_neg (by simp),mB s1,gP s2]
  rfl
 obtain⟨r,hr⟩:=hR
 refine⟨(r,false),?_⟩
 have hS:fO 80 8 0 0 0 (dS 0)=some true:=rfl
 unfold bI
 simp only[hS,aDe h1 hn,hB,hr,Option.bind]
 rfl
end
end Go.Proofs.YtflahpmlcfhpcaaGreatDoor.T
