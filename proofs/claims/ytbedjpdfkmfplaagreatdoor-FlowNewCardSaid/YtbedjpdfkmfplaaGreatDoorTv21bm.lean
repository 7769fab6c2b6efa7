/- Tables that the kernel can reckon with; what hangs on a table's answers alone; the example's book. -/
import Derived.Test.YtbedjpdfkmfplaaGreatDoorTvT21ba
import Derived.Test.YtbedjpdfkmfplaaGreatDoorTv21a
import Derived.Test.YtbedjpdfkmfplaaGreatDoorTvYm
import Derived.KernelRfl
namespace Go.Proofs.YtbedjpdfkmfplaaGreatDoor.T
open Go Go.Tv Go.Proofs
noncomputable section
def aEc(l:List (Int×Int×Int)):Nat→Int→List Int
 | 0,_=>[]
 | n+1,r=>W8 l r::aEc l n (r+1)
theorem aDK(l):∀n r,(aEc l n r).length=n
 | 0,_=>rfl
 | n+1,r=>by simp[aEc,aDK l n]
theorem aCw(l):∀n r c,c<n→(aEc l n r).getD c 0=W8 l (r+c)
 | n+1,r,0,_=>by simp[aEc]
 | n+1,r,c+1,h=>by
  simp only[aEc,List.getD_cons_succ]
  rw[aCw l n (r+1) c (by omega)]
  congr 1
  omega
def aEv(l:List (Int×Int×Int)):Nat→Int→List (Arr 256)
 | 0,_=>[]
 | n+1,i=>⟨aEc l 256 (256*i),aDK l 256 _⟩::aEv l n (i+1)
theorem aDr(l):∀n i,(aEv l n i).length=n
 | 0,_=>rfl
 | n+1,i=>by simp[aEv,aDr l n]
theorem aDD(l):∀n i q,q<n→∀c:Nat,c<256→fT ((aEv l n i).getD q (dS 256)) c=W8 l (256*(i+q)+c)
 | n+1,i,0,_,c,hc=>by
  simp only[aEv,List.getD_cons_zero,fT]
  rw[aCw l 256 _ c hc]
  congr 1
  omega
 | n+1,i,q+1,h,c,hc=>by
  simp only[aEv,List.getD_cons_succ]
  rw[aDD l n (i+1) q (by omega) c hc]
  congr 1
  omega
def aDV:Nat→Int→List Int
 | 0,_=>[]
 | n+1,i=>i::aDV n (i+1)
theorem aDO:∀n i,(aDV n i).length=n
 | 0,_=>rfl
 | n+1,i=>by simp[aDV,aDO n]
theorem aCr:∀n i j,j<n→(aDV n i).getD j 0=i+j
 | n+1,i,0,_=>by simp[aDV]
 | n+1,i,j+1,h=>by
  simp only[aDV,List.getD_cons_succ]
  rw[aCr n (i+1) j (by omega)]
  omega
def aHt(l:List (Int×Int×Int)):(Arr 4352)×List (Arr 256):=(⟨aDV 4352 0,aDO _ _⟩,aEv l 4352 0)
theorem vG{l:List (Int×Int×Int)}(hR:Rp l):yB (some (aHt l)) (ofR l):=by
 refine aGo hR fun j hj=>⟨j,?_,?_,fun c hc=> ?_⟩
 ·simp only[fT]
  rw[aCr _ _ _ hj]
  omega
 ·rw[aDr];exact hj
 ·rw[aDD l 4352 0 j hj c hc]
  congr 1
  omega
theorem M5{t c:Option ((Arr 4352)×List (Arr 256))}(h:bE t=bE c)(l:List (Int×Int×Int)):cU t l=cU c l:=by
 unfold cU dR
 rw[h]
theorem aDa{t c:Option ((Arr 4352)×List (Arr 256))}(h:bE t=bE c)(l:List (Int×Int×Int))(x1 x2:List Int)(x3:List Bool):hD l x1 x2 x3 t=hD l x1 x2 x3 c:=by
 unfold hD m6 dT
 rw[h]
theorem aEn{m1 m2 h t1 t2 t3 c1 c2 c3}(h1:bE t1=bE c1)(h2:bE t2=bE c2)(h3:bE t3=bE c3)(x:List Int):
  bB (some (m1,m2,t1,t2,t3,h)) x=bB (some (m1,m2,c1,c2,c3,h)) x:=by
 unfold bB
 simp only[Option.getD,Option.isNone,Option.isSome,M5 h1,M5 h2,aDa h3]
/-! ### The example -/
def jR:List (Int×Int×Int):=[(10,(10,2)),(32,(32,1))]
def l8:List (Int×Int×Int):=[(32,(126,1))]
def aGO:List UInt8:=[99,108,97,115,115,32,79,59,32,109,97,121,32,79,32,47,32,79,59]
def aHp:List UInt8:=[99,108,97,115,115,32,79,32,83,32,78,59,32,107,101,101,112,32,83,32,47,32,83,59,32,109,97,121,32,83,32,47,32,46,59,32,109,117,115,116,32,78,32,47,32,46,59,32,107,101,101,112,32,46,32,47,32,46,59]
def aF6:=((lC aGO).getD (none,0,0)).1
def aGj:=((lC aHp).getD (none,0,0)).1
def exH:=((tB [] [] 2 2).getD (none,0,0)).1
theorem aIp:lC aGO=some (aF6,0,0):=by kernel_rfl
theorem aH2:lC aHp=some (aGj,0,0):=by kernel_rfl
theorem aJy:tB [] [] 2 2=some (exH,0,0):=by kernel_rfl
theorem aLQ:dG aF6=some 1:=by kernel_rfl
theorem aLT:dG aGj=some 3:=by kernel_rfl
theorem aBo{l:List (Int×Int×Int)}{most:Int}(h:I1 l most=true):∃t,iB l most=some (some t,0)∧yB (some t) (ofR l):=by
 rcases aB8 l most with⟨_,h2⟩ | ⟨t,e,_,f⟩
 ·rw[h]at h2;cases h2
 ·exact⟨t,e,f⟩
theorem aJ0:∃t1 t2 t3,nM [] jR l8 [] aGO aHp [] 2 2=some (some (aF6,aGj,some t1,some t2,some t3,exH),0,0)∧yB (some t1) (ofR [])∧yB (some t2) (ofR jR)∧yB (some t3) (ofR l8):=by
 obtain⟨t1,e1,f1⟩:=aBo (l:=[]) (most:=1) (by decide)
 obtain⟨t2,e2,f2⟩:=aBo (l:=jR) (most:=3) (by decide)
 obtain⟨t3,e3,f3⟩:=aBo (l:=l8) (most:=3) (by decide)
 refine⟨t1,t2,t3,?_,f1,f2,f3⟩
 unfold nM
 rw[aIp,aH2]
 simp only[Option.bind,aLQ,aLT,e1,e2,e3,aJy]
 rfl
theorem u9:Rp []∧Rp jR∧Rp l8:=⟨tV (most:=1) (by decide),tV (most:=3) (by decide),tV (most:=3) (by decide)⟩
def exB:Option Z1:=some (aF6,aGj,some (aHt []),some (aHt jR),some (aHt l8),exH)
theorem aJt{t1 t2 t3}(f1:yB (some t1) (ofR []))(f2:yB (some t2) (ofR jR))(f3:yB (some t3) (ofR l8))(x:List Int):
  bB (some (aF6,aGj,some t1,some t2,some t3,exH)) x=bB exB x :=
 aEn (f1.trans (vG u9.1).symm) (f2.trans (vG u9.2.1).symm) (f3.trans (vG u9.2.2).symm) x
end
end Go.Proofs.YtbedjpdfkmfplaaGreatDoor.T
namespace Go.Proofs.YtbedjpdfkmfplaaGreatDoor.T
open Go Go.Tv Go.Proofs
def Bytes(b:List Int):Prop:=∀x∈b,0≤x∧x≤255
theorem Bytes.get{b:List Int}(h:Bytes b)(i:Nat):0≤b.getD i 0∧b.getD i 0≤255:=by
 rcases Nat.lt_or_ge i b.length with hi | hi
 ·exact h _ (B9 hi)
 ·rw[List.getD_eq_getElem?_getD,List.getElem?_eq_none hi];simp
def iQ(c:Int):Nat:=if c<128 then 1 else if 194≤c∧c≤223 then 2 else if 224≤c∧c≤239 then 3 else if 240≤c∧c≤244 then 4 else 0
def loS(c:Int):Int:=if c=224 then 160 else if c=240 then 144 else 128
def hiS(c:Int):Int:=if c=237 then 159 else if c=244 then 143 else 191
theorem aH6(c:Int):pL c=some (if iQ c≤1 then((iQ c:Int),0,0)else((iQ c:Int),loS c,hiS c)):=by
 unfold pL iQ loS hiS
 by_cases h1:c<128
 ·rw[if_pos (by simpa using h1),if_pos h1,if_pos (by omega)];rfl
 rw[if_neg (by simpa using h1),if_neg h1]
 by_cases h2:c<194
 ·rw[if_pos (by simpa using h2),if_neg (c:=194≤c∧c≤223) (by omega),if_neg (c:=224≤c∧c≤239) (by omega),if_neg (c:=240≤c∧c≤244) (by omega)];rfl
 rw[if_neg (by simpa using h2)]
 by_cases h3:c > 244
 ·rw[if_neg (c:=194≤c∧c≤223) (by omega),if_neg (c:=224≤c∧c≤239) (by omega),if_neg (c:=240≤c∧c≤244) (by omega)]
  simp only[Option.bind_some]
  rw[if_pos (by simpa using h3)];rfl
 simp only[Option.bind_some]
 rw[if_neg (by simpa using h3)]
 by_cases h4:c<224
 ·rw[if_pos (by simpa using h4),if_pos (c:=194≤c∧c≤223) (by omega),if_neg (by omega),if_neg (c:=c=224) (by omega),if_neg (c:=c=240) (by omega),if_neg (c:=c=237) (by omega),if_neg (c:=c=244) (by omega)];rfl
 rw[if_neg (by simpa using h4),if_neg (c:=194≤c∧c≤223) (by omega)]
 by_cases h5:c≤239
 ·rw[if_pos (c:=224≤c∧c≤239) (by omega),if_neg (c:=(3:Nat)≤1) (by omega),if_neg (c:=c=240) (by omega),if_neg (c:=c=244) (by omega)]
  by_cases h6:c=224
  ·subst h6;rfl
  rw[if_neg (by simpa using h6),if_neg h6]
  by_cases h7:c=237
  ·subst h7;rfl
  rw[if_neg (by simpa using h7),if_neg h7,if_pos (by simp only[decide_eq_true_eq];omega)];rfl
 rw[if_neg (c:=224≤c∧c≤239) (by omega),if_pos (c:=240≤c∧c≤244) (by omega),if_neg (c:=(4:Nat)≤1) (by omega),if_neg (c:=c=224) (by omega),if_neg (c:=c=237) (by omega),
  if_neg (by simp only[beq_iff_eq];omega),if_neg (by simp only[beq_iff_eq];omega),if_neg (by simp only[decide_eq_true_eq];omega)]
 by_cases h6:c=240
 ·subst h6;rfl
 rw[if_neg (by simpa using h6),if_neg h6]
 by_cases h7:c=244
 ·subst h7;rfl
 rw[if_neg (by simpa using h7),if_neg h7];rfl
theorem L6(c:Int):iQ c≤4:=by unfold iQ;split;omega;split;omega;split;omega;split <;> omega
def okS(b:List Int)(a k:Nat):Bool:=decide (a+k<b.length∧(if k=1 then loS (b.getD a 0)else 128)≤b.getD (a+k) 0∧b.getD (a+k) 0≤(if k=1 then hiS (b.getD a 0)else 191))
def jA(b:List Int)(a:Nat):Nat:=oS (fun j=> !okS b a (j+1)) (iQ (b.getD a 0) - 1)
def xZ(b:List Int)(a:Nat):Nat→Int
 | 0=>b.getD a 0 % ((2 ^ (7 - iQ (b.getD a 0)):Nat):Int)
 | k+1=>xZ b a k*64+(b.getD (a+(k+1)) 0 - 128)
def C4(b:List Int)(a:Nat):Int×Nat :=
 if iQ (b.getD a 0)≤1 then(if iQ (b.getD a 0)=1 then b.getD a 0 else 65533,1)
 else if jA b a=iQ (b.getD a 0) - 1 then(xZ b a (jA b a),jA b a+1)else(65533,jA b a+1)
theorem aEU(b:List Int)(a:Nat):jA b a≤iQ (b.getD a 0) - 1:=aAX _ _
theorem aBI{b:List Int}{a k:Nat}(h1:1≤k)(h2:k≤jA b a):okS b a k=true:=by
 have:=aA1 (fun j=> !okS b a (j+1)) (iQ (b.getD a 0) - 1) (j:=k - 1) (by unfold jA at h2;omega)
 rw[show k - 1+1=k by omega]at this
 simpa using this
theorem aHA{b:List Int}{a:Nat}(h:jA b a<iQ (b.getD a 0) - 1):okS b a (jA b a+1)=false:=by
 have:=aAQ (fun j=> !okS b a (j+1)) (iQ (b.getD a 0) - 1) h
 simp only[Bool.not_eq_true']at this
 exact this
theorem aDU{b:List Int}{a k:Nat}(h:okS b a k=true):a+k<b.length∧128≤b.getD (a+k) 0∧b.getD (a+k) 0≤191:=by
 unfold okS at h
 simp only[decide_eq_true_eq]at h
 have h1:128≤loS (b.getD a 0):=by unfold loS;split;omega;split <;> omega
 have h2:hiS (b.getD a 0)≤191:=by unfold hiS;split;omega;split <;> omega
 split at h <;> omega
theorem aFj{b:List Int}{a:Nat}(hl:2≤iQ (b.getD a 0)):∀k,k≤jA b a→0≤xZ b a k∧xZ b a k<32*((64 ^ k:Nat):Int)
 | 0,_=>by
  have h4:=L6 (b.getD a 0)
  simp only[xZ]
  have hp:(2:Nat) ^ (7 - iQ (b.getD a 0))≤2 ^ 5:=Nat.pow_le_pow_right (by decide) (by omega)
  have hp0:0<(2:Nat) ^ (7 - iQ (b.getD a 0)):=Nat.pow_pos (by decide)
  have e5:(2:Nat) ^ 5=32:=by decide
  have:=Int.emod_nonneg (b.getD a 0) (show((2 ^ (7 - iQ (b.getD a 0)):Nat):Int)≠0 by omega)
  have:=Int.emod_lt_of_pos (b.getD a 0) (show 0<((2 ^ (7 - iQ (b.getD a 0)):Nat):Int) by omega)
  simp only[Nat.pow_zero]
  omega
 | k+1,hk=>by
  have ih:=aFj hl k (by omega)
  have ho:=aDU (aBI (b:=b) (a:=a) (k:=k+1) (by omega) hk)
  simp only[xZ]
  have e:((64 ^ (k+1):Nat):Int)=((64 ^ k:Nat):Int)*64:=by rw[Nat.pow_succ];omega
  rw[e]
  omega
theorem aG8(b:List Int)(a:Nat):jA b a≤3:=by have:=aEU b a;have:=L6 (b.getD a 0);omega
section
variable{b:List Int}(hb:Bytes b)(hl:b.length≤1000000)
include hb hl
omit hb in
theorem aJm{a:Nat}(ha:a<b.length)(h2:2≤iQ (b.getD a 0)):
  iter (jC b (a:Int) (iQ (b.getD a 0):Int)) (loS (b.getD a 0),hiS (b.getD a 0),(1:Int),xZ b a 0,(1:Int)) =
   some (if jA b a=iQ (b.getD a 0) - 1 then Sum.inl (((jA b a+1:Nat):Int),xZ b a (jA b a))else Sum.inr ((65533:Int),((a:Int),((jA b a+1:Nat):Int)))):=by
 have hc:=aEU b a
 have hc3:=aG8 b a
 have h4:=L6 (b.getD a 0)
 have hi:=hN (body:=jC b (a:Int) (iQ (b.getD a 0):Int)) (fun j=>(if j=0 then loS (b.getD a 0)else 128,if j=0 then hiS (b.getD a 0)else 191,((j+1:Nat):Int),xZ b a j,((j+1:Nat):Int))) (jA b a)
  (r:=if jA b a=iQ (b.getD a 0) - 1 then Sum.inl (((jA b a+1:Nat):Int),xZ b a (jA b a))else Sum.inr ((65533:Int),((a:Int),((jA b a+1:Nat):Int)))) (fun j hj=>by
   have ho:=aBI (b:=b) (a:=a) (k:=j+1) (by omega) (by omega)
   have hin:=aDU ho
   have hnum:=aFj h2 j (by omega)
   unfold okS at ho
   simp only[decide_eq_true_eq,Nat.add_eq_right]at ho
   have hk64:((64 ^ j:Nat):Int)≤4096:=by
    have:(64:Nat) ^ j≤64 ^ 2:=Nat.pow_le_pow_right (by decide) (by omega)
    omega
   have e0:IntKind.i64.wrap ((a:Int)+((j+1:Nat):Int))=((a+(j+1):Nat):Int):=by rw[wrap_i64 (by omega) (by omega)];omega
   have e1:IntKind.i64.wrap (((j+1:Nat):Int)+1)=((j+1+1:Nat):Int):=by rw[wrap_i64 (by omega) (by omega)];omega
   have e2:aU .and .u8 (b.getD (a+(j+1)) 0) 63=b.getD (a+(j+1)) 0 - 128:=by
    have:=aJz (x:=b.getD (a+(j+1)) 0) (by omega) (by omega) (k:=6) (by decide)
    have e63:((2 ^ 6 - 1:Nat):Int)=63:=by decide
    have e64:((2 ^ 6:Nat):Int)=64:=by decide
    rw[e63,e64]at this
    omega
   have e3:IntKind.i32.wrap (b.getD (a+(j+1)) 0 - 128)=b.getD (a+(j+1)) 0 - 128:=iU (by omega) (by omega)
   have e4:aU .or .i32 (IntKind.i32.wrap (xZ b a j*2 ^ (min (6:Int).toNat IntKind.i32.bits))) (b.getD (a+(j+1)) 0 - 128)=xZ b a (j+1):=by
    have e64:((2 ^ 6:Nat):Int)=64:=by decide
    have e64':(2:Int) ^ (min (6:Int).toNat IntKind.i32.bits)=64:=by decide
    have:=aJp (a:=xZ b a j) (y:=b.getD (a+(j+1)) 0 - 128) (k:=6) hnum.1 (by omega) (by omega) (by omega)
    rw[e64]at this
    rw[e64',iU (by omega) (by omega),this]
    rfl
   simp only[jC,e0,e1,Int.toNat_natCast,e2,e3,e4]
   rw[if_pos (by simp only[decide_eq_true_eq];omega),if_neg (by simp only[decide_eq_true_eq];omega),if_pos ⟨by omega,by omega⟩,if_neg (by simp only[decide_eq_true_eq];omega),if_pos ⟨by omega,by omega⟩]
   simp only[Option.bind_some]
   rw[if_neg (by simp only[decide_eq_true_eq];omega),if_pos (by decide),if_pos ⟨by omega,by omega⟩]
   simp only[Nat.add_one_ne_zero,if_false]) (by
   have e0:IntKind.i64.wrap ((a:Int)+((jA b a+1:Nat):Int))=((a+(jA b a+1):Nat):Int):=by rw[wrap_i64 (by omega) (by omega)];omega
   simp only[jC,e0,Int.toNat_natCast]
   by_cases q:jA b a=iQ (b.getD a 0) - 1
   ·rw[if_neg (by simp only[decide_eq_true_eq];omega),if_pos q]
   ·have hno:=aHA (b:=b) (a:=a) (by omega)
    rw[if_pos (by simp only[decide_eq_true_eq];omega),if_neg q]
    unfold okS at hno
    simp only[decide_eq_false_iff_not,Nat.add_eq_right]at hno
    by_cases q1:a+(jA b a+1)<b.length
    ·rw[if_neg (by simp only[decide_eq_true_eq];omega),if_pos ⟨by omega,by omega⟩]
     by_cases q2:b.getD (a+(jA b a+1)) 0<(if jA b a=0 then loS (b.getD a 0)else 128)
     ·rw[if_pos (by simpa using q2)];rfl
     ·rw[if_neg (by simpa using q2),if_pos ⟨by omega,by omega⟩]
      have:decide (b.getD (a+(jA b a+1)) 0 > (if jA b a=0 then hiS (b.getD a 0)else 191))=true:=by simp only[decide_eq_true_eq];omega
      rw[this];rfl
    ·rw[if_pos (by simp only[decide_eq_true_eq];omega)];rfl)
 exact hi
theorem aEr{a:Nat}(ha:a<b.length):tH b (a:Int)=some ((C4 b a).1,((a:Int),((C4 b a).2:Int))):=by
 have hc:=hb.get a
 have h4:=L6 (b.getD a 0)
 unfold tH C4
 rw[if_neg (by simp only[decide_eq_true_eq];omega)]
 simp only[Option.bind_some]
 rw[if_neg (by simp only[decide_eq_true_eq];omega),if_pos ⟨by omega,by omega⟩,Int.toNat_natCast,aH6]
 simp only[Option.bind_some]
 by_cases h1:iQ (b.getD a 0)≤1
 ·rw[if_pos h1,if_pos h1]
  simp only
  rw[if_pos (by simp only[decide_eq_true_eq];omega)]
  by_cases h2:iQ (b.getD a 0)=1
  ·rw[if_pos (by simp only[beq_iff_eq];omega),if_pos ⟨by omega,by omega⟩,if_pos h2,iU (by omega) (by omega)];rfl
  ·rw[if_neg (by simp only[beq_iff_eq];omega),if_neg h2];rfl
 ·rw[if_neg h1,if_neg h1]
  simp only
  have e0:aU .and .i32 (IntKind.i32.wrap (b.getD a 0)) (Int.fdiv (127:Int) (2 ^ (min (iQ (b.getD a 0):Int).toNat IntKind.i32.bits)))=xZ b a 0:=by
   have e1:Int.fdiv (127:Int) (2 ^ (min (iQ (b.getD a 0):Int).toNat IntKind.i32.bits))=((2 ^ (7 - iQ (b.getD a 0)) - 1:Nat):Int):=by
    generalize iQ (b.getD a 0)=n at h1 h4
    have:n=2∨n=3∨n=4:=by omega
    rcases this with rfl | rfl | rfl <;> decide
   rw[e1,iU (by omega) (by omega),aE3 hc.1 (by omega) (by omega)]
   rfl
  rw[if_neg (by simp only[decide_eq_true_eq];omega),if_pos ⟨by omega,by omega⟩,if_pos (by omega),e0,aJm hl ha (by omega)]
  simp only[Option.bind_some]
  by_cases q:jA b a=iQ (b.getD a 0) - 1
  ·rw[if_pos q,if_pos q]
  ·rw[if_neg q,if_neg q]
end
end Go.Proofs.YtbedjpdfkmfplaaGreatDoor.T
namespace Go.Proofs.YtbedjpdfkmfplaaGreatDoor.T
open Go Go.Tv Go.Proofs
theorem aHc{b:List Int}{a:Nat}(ha:a<b.length):1≤(C4 b a).2∧(C4 b a).2≤4∧a+(C4 b a).2≤b.length:=by
 have h3:=aG8 b a
 have key:a+(jA b a+1)≤b.length:=by
  rcases Nat.eq_zero_or_pos (jA b a)with e | e
  ·omega
  ·have:=(aDU (aBI (b:=b) (a:=a) e (Nat.le_refl _))).1
   omega
 unfold C4
 split
 ·exact⟨Nat.le_refl _,by simp,ha⟩
 ·split
  ·exact⟨by simp,by simp only;omega,key⟩
  ·exact⟨by simp,by simp only;omega,key⟩
def Cv:Int→List (Int×Int×Int)→Int→Prop
 | a,[],n=>a=n
 | a,x::r,n=>x.2.1=a∧1≤x.2.2∧x.2.2≤4∧Cv (a+x.2.2) r n
theorem Cv.snoc{x:Int×Int×Int}:∀ {a m:Int} {s:List (Int×Int×Int)},Cv a s m→x.2.1=m→1≤x.2.2→x.2.2≤4→Cv a (s++[x]) (m+x.2.2)
 | a,m,[],h,h1,h2,h3=>by
  simp only[Cv]at h
  subst h
  exact⟨h1,h2,h3,rfl⟩
 | a,m,y::s,h,h1,h2,h3=>⟨h.1,h.2.1,h.2.2.1,h.2.2.2.snoc h1 h2 h3⟩
theorem aJL{b:List Int}(hb:Bytes b)(hl:b.length≤4096):∃s,pB b=some s∧Cv 0 s (b.length:Int)∧s.length≤b.length:=by
 obtain⟨r,h1,h2⟩:=eL (body:=lB b) (fun s=>∃a:Nat,s.2=(a:Int)∧a≤b.length∧Cv 0 s.1 (a:Int)∧s.1.length≤a) (fun s=>b.length - s.2.toNat) (fun r=>Cv 0 r (b.length:Int)∧r.length≤b.length) (by
  rintro⟨out,at2⟩ ⟨a,rfl,ha,hc,ho⟩
  simp only at hc ho
  by_cases h:a<b.length
  ·left
   obtain⟨l1,l2,l3⟩:=aHc h
   have h':(a:Int)<(b.length:Int):=by omega
   refine⟨(out++[((C4 b a).1,((a:Int),((C4 b a).2:Int)))],((a+(C4 b a).2:Nat):Int)),?_,⟨a+(C4 b a).2,rfl,l3,?_,by simp;omega⟩,by simp only[Int.toNat_natCast];omega⟩
   ·simp only[lB,h',decide_true,if_true,aEr hb (by omega) h,Option.bind,List.length_singleton]
    rw[if_pos (by omega),wrap_i64 (by omega) (by omega)]
    rfl
   ·have:=hc.snoc (x:=((C4 b a).1,((a:Int),((C4 b a).2:Int)))) rfl (by simp only;omega) (by simp only;omega)
    simpa using this
  ·right
   obtain rfl:a=b.length:=by omega
   exact⟨out,by simp[lB],hc,ho⟩) (s:=([],0)) ⟨0,rfl,by omega,rfl,by simp⟩
 refine⟨r,?_,h2⟩
 unfold pB
 rw[h1]
 rfl
theorem aFf{t:Option ((Arr 4352)×List (Arr 256))}{f:Int→Int}(ht:yB t f){s:List (Int×Int×Int)}(hs:s.length≤4096):cU t s=some (s.map fun x=>f x.1):=by
 have ht':bE t=fun r=>some (f r):=ht
 have hL:iter (dR t s) (List.replicate s.length 0,((0:Nat):Int))=some (s.map fun x=>f x.1):=by
  refine hN (fun k=>((s.take k).map (fun x=>f x.1)++List.replicate (s.length - k) 0,(k:Int))) s.length (fun k hk=> ?_) ?_ |> fun h=>by simpa using h
  ·have h1:(k:Int)<(s.length:Int):=by omega
   have h2:0≤(k:Int):=by omega
   have hlen:((s.take k).map (fun x:Int×Int×Int=>f x.1)++List.replicate (s.length - k) (0:Int)).length=s.length:=by simp;omega
   have hset:((s.take k).map (fun x=>f x.1)++List.replicate (s.length - k) (0:Int)).set k (f (s.getD k (0,(0,0))).1)=(s.take (k+1)).map (fun x=>f x.1)++List.replicate (s.length - (k+1)) 0:=by
    rw[qS (d:=(0,(0,0))) hk,List.map_append,List.set_append_right _ _ (by simp;omega),List.length_map,List.length_take,Nat.min_eq_left (by omega),Nat.sub_self,show s.length - k=(s.length - (k+1))+1 by omega,List.replicate_succ,List.set_cons_zero]
    simp
   simp only[dR,h1,h2,hlen,hk,and_self,decide_true,if_true,Int.toNat_natCast,ht',Option.bind,hset]
   rw[wrap_i64 (by omega) (by omega)]
   rfl
  ·have h1:¬((s.length:Int)<(s.length:Int)):=by omega
   simp[dR]
 unfold cU
 rw[if_pos (by omega),Int.toNat_natCast]
 exact congrArg (fun x=>Option.bind x fun o=>some o) hL
end Go.Proofs.YtbedjpdfkmfplaaGreatDoor.T
