/- Tables that the kernel can reckon with; what hangs on a table's answers alone; the example's book. -/
import Derived.Test.YtbedjpdfkmfplaaGreatDoorTvT21ba
import Derived.Test.YtbedjpdfkmfplaaGreatDoorTvYm
import Derived.KernelRfl
namespace Go.Proofs.YtbedjpdfkmfplaaGreatDoor.T
open Go Go.Tv Go.Proofs
noncomputable section
def aE3(l:List (Int×Int×Int)):Nat→Int→List Int
 | 0,_=>[]
 | n+1,r=>Y0 l r::aE3 l n (r+1)
theorem aDy(l):∀n r,(aE3 l n r).length=n
 | 0,_=>rfl
 | n+1,r=>by simp[aE3,aDy l n]
theorem aCp(l):∀n r c,c<n→(aE3 l n r).getD c 0=Y0 l (r+c)
 | n+1,r,0,_=>by simp[aE3]
 | n+1,r,c+1,h=>by
  simp only[aE3,List.getD_cons_succ]
  rw[aCp l n (r+1) c (by omega)]
  congr 1
  omega
def aEX(l:List (Int×Int×Int)):Nat→Int→List (Arr 256)
 | 0,_=>[]
 | n+1,i=>⟨aE3 l 256 (256*i),aDy l 256 _⟩::aEX l n (i+1)
theorem aC8(l):∀n i,(aEX l n i).length=n
 | 0,_=>rfl
 | n+1,i=>by simp[aEX,aC8 l n]
theorem aCz(l):∀n i q,q<n→∀c:Nat,c<256→gB ((aEX l n i).getD q (eA 256)) c=Y0 l (256*(i+q)+c)
 | n+1,i,0,_,c,hc=>by
  simp only[aEX,List.getD_cons_zero,gB]
  rw[aCp l 256 _ c hc]
  congr 1
  omega
 | n+1,i,q+1,h,c,hc=>by
  simp only[aEX,List.getD_cons_succ]
  rw[aCz l n (i+1) q (by omega) c hc]
  congr 1
  omega
def aFb:Nat→Int→List Int
 | 0,_=>[]
 | n+1,i=>i::aFb n (i+1)
theorem aDa:∀n i,(aFb n i).length=n
 | 0,_=>rfl
 | n+1,i=>by simp[aFb,aDa n]
theorem aD6:∀n i j,j<n→(aFb n i).getD j 0=i+j
 | n+1,i,0,_=>by simp[aFb]
 | n+1,i,j+1,h=>by
  simp only[aFb,List.getD_cons_succ]
  rw[aD6 n (i+1) j (by omega)]
  omega
def aGU(l:List (Int×Int×Int)):(Arr 4352)×List (Arr 256):=(⟨aFb 4352 0,aDa _ _⟩,aEX l 4352 0)
theorem vZ{l:List (Int×Int×Int)}(hR:Rp l):yZ (some (aGU l)) (ofR l):=by
 refine aHu hR fun j hj=>⟨j,?_,?_,fun c hc=> ?_⟩
 ·simp only[gB]
  rw[aD6 _ _ _ hj]
  omega
 ·rw[aC8];exact hj
 ·rw[aCz l 4352 0 j hj c hc]
  congr 1
  omega
theorem P9{t c:Option ((Arr 4352)×List (Arr 256))}(h:bF t=bF c)(l:List (Int×Int×Int)):cZ t l=cZ c l:=by
 unfold cZ dY
 rw[h]
theorem aCr{t c:Option ((Arr 4352)×List (Arr 256))}(h:bF t=bF c)(l:List (Int×Int×Int))(x1 x2:List Int)(x3:List Bool):iG l x1 x2 x3 t=iG l x1 x2 x3 c:=by
 unfold iG nM eF
 rw[h]
theorem aE9{m1 m2 h t1 t2 t3 c1 c2 c3}(h1:bF t1=bF c1)(h2:bF t2=bF c2)(h3:bF t3=bF c3)(x:List Int):
  bA (some (m1,m2,t1,t2,t3,h)) x=bA (some (m1,m2,c1,c2,c3,h)) x:=by
 unfold bA
 simp only[Option.getD,Option.isNone,Option.isSome,P9 h1,P9 h2,aCr h3]
/-! ### The example -/
def j6:List (Int×Int×Int):=[(10,(10,2)),(32,(32,1))]
def mP:List (Int×Int×Int):=[(32,(126,1))]
def aH0:List UInt8:=[99,108,97,115,115,32,79,59,32,109,97,121,32,79,32,47,32,79,59]
def aH9:List UInt8:=[99,108,97,115,115,32,79,32,83,32,78,59,32,107,101,101,112,32,83,32,47,32,83,59,32,109,97,121,32,83,32,47,32,46,59,32,109,117,115,116,32,78,32,47,32,46,59,32,107,101,101,112,32,46,32,47,32,46,59]
def aGf:=((lP aH0).getD (none,0,0)).1
def aF0:=((lP aH9).getD (none,0,0)).1
def exH:=((u4 [] [] 2 2).getD (none,0,0)).1
theorem aIV:lP aH0=some (aGf,0,0):=by kernel_rfl
theorem aIj:lP aH9=some (aF0,0,0):=by kernel_rfl
theorem aKb:u4 [] [] 2 2=some (exH,0,0):=by kernel_rfl
theorem aLi:dP aGf=some 1:=by kernel_rfl
theorem aLB:dP aF0=some 3:=by kernel_rfl
theorem aBU{l:List (Int×Int×Int)}{most:Int}(h:I2 l most=true):∃t,iT l most=some (some t,0)∧yZ (some t) (ofR l):=by
 rcases aCB l most with⟨_,h2⟩ | ⟨t,e,_,f⟩
 ·rw[h]at h2;cases h2
 ·exact⟨t,e,f⟩
theorem aKO:∃t1 t2 t3,n4 [] j6 mP [] aH0 aH9 [] 2 2=some (some (aGf,aF0,some t1,some t2,some t3,exH),0,0)∧yZ (some t1) (ofR [])∧yZ (some t2) (ofR j6)∧yZ (some t3) (ofR mP):=by
 obtain⟨t1,e1,f1⟩:=aBU (l:=[]) (most:=1) (by decide)
 obtain⟨t2,e2,f2⟩:=aBU (l:=j6) (most:=3) (by decide)
 obtain⟨t3,e3,f3⟩:=aBU (l:=mP) (most:=3) (by decide)
 refine⟨t1,t2,t3,?_,f1,f2,f3⟩
 unfold n4
 rw[aIV,aIj]
 simp only[Option.bind,aLi,aLB,e1,e2,e3,aKb]
 rfl
theorem wC:Rp []∧Rp j6∧Rp mP:=⟨uF (most:=1) (by decide),uF (most:=3) (by decide),uF (most:=3) (by decide)⟩
def exB:Option Z1:=some (aGf,aF0,some (aGU []),some (aGU j6),some (aGU mP),exH)
theorem aJy{t1 t2 t3}(f1:yZ (some t1) (ofR []))(f2:yZ (some t2) (ofR j6))(f3:yZ (some t3) (ofR mP))(x:List Int):
  bA (some (aGf,aF0,some t1,some t2,some t3,exH)) x=bA exB x :=
 aE9 (f1.trans (vZ wC.1).symm) (f2.trans (vZ wC.2.1).symm) (f3.trans (vZ wC.2.2).symm) x
end
end Go.Proofs.YtbedjpdfkmfplaaGreatDoor.T
namespace Go.Proofs.YtbedjpdfkmfplaaGreatDoor.T
open Go Go.Tv Go.Proofs
def Bytes(b:List Int):Prop:=∀x∈b,0≤x∧x≤255
theorem Bytes.get{b:List Int}(h:Bytes b)(i:Nat):0≤b.getD i 0∧b.getD i 0≤255:=by
 rcases Nat.lt_or_ge i b.length with hi | hi
 ·exact h _ (wG hi)
 ·rw[List.getD_eq_getElem?_getD,List.getElem?_eq_none hi];simp
def i5(c:Int):Nat:=if c<128 then 1 else if 194≤c∧c≤223 then 2 else if 224≤c∧c≤239 then 3 else if 240≤c∧c≤244 then 4 else 0
def loS(c:Int):Int:=if c=224 then 160 else if c=240 then 144 else 128
def hiS(c:Int):Int:=if c=237 then 159 else if c=244 then 143 else 191
theorem aIW(c:Int):p7 c=some (if i5 c≤1 then((i5 c:Int),0,0)else((i5 c:Int),loS c,hiS c)):=by
 unfold p7 i5 loS hiS
 by_cases h1:c<128
 ·rw[if_pos (by simpa using h1),if_pos h1,if_pos (by omega)];rfl
 rw[if_neg (by simpa using h1),if_neg h1]
 by_cases h2:c<194
 ·rw[if_pos (by simpa using h2),if_neg (c:=194≤c∧c≤223) (by omega),if_neg (c:=224≤c∧c≤239) (by omega),if_neg (c:=240≤c∧c≤244) (by omega)];rfl
 rw[if_neg (by simpa using h2)]
 by_cases h3:c > 244
 ·rw[if_neg (c:=194≤c∧c≤223) (by omega),if_neg (c:=224≤c∧c≤239) (by omega),if_neg (c:=240≤c∧c≤244) (by omega)]
  simp only[Option.bind_some]
  rw[if_pos (by simpa using h3)];rfl
 simp only[Option.bind_some]
 rw[if_neg (by simpa using h3)]
 by_cases h4:c<224
 ·rw[if_pos (by simpa using h4),if_pos (c:=194≤c∧c≤223) (by omega),if_neg (by omega),if_neg (c:=c=224) (by omega),if_neg (c:=c=240) (by omega),if_neg (c:=c=237) (by omega),if_neg (c:=c=244) (by omega)];rfl
 rw[if_neg (by simpa using h4),if_neg (c:=194≤c∧c≤223) (by omega)]
 by_cases h5:c≤239
 ·rw[if_pos (c:=224≤c∧c≤239) (by omega),if_neg (c:=(3:Nat)≤1) (by omega),if_neg (c:=c=240) (by omega),if_neg (c:=c=244) (by omega)]
  by_cases h6:c=224
  ·subst h6;rfl
  rw[if_neg (by simpa using h6),if_neg h6]
  by_cases h7:c=237
  ·subst h7;rfl
  rw[if_neg (by simpa using h7),if_neg h7,if_pos (by simp only[decide_eq_true_eq];omega)];rfl
 rw[if_neg (c:=224≤c∧c≤239) (by omega),if_pos (c:=240≤c∧c≤244) (by omega),if_neg (c:=(4:Nat)≤1) (by omega),if_neg (c:=c=224) (by omega),if_neg (c:=c=237) (by omega),
  if_neg (by simp only[beq_iff_eq];omega),if_neg (by simp only[beq_iff_eq];omega),if_neg (by simp only[decide_eq_true_eq];omega)]
 by_cases h6:c=240
 ·subst h6;rfl
 rw[if_neg (by simpa using h6),if_neg h6]
 by_cases h7:c=244
 ·subst h7;rfl
 rw[if_neg (by simpa using h7),if_neg h7];rfl
theorem N3(c:Int):i5 c≤4:=by unfold i5;split;omega;split;omega;split;omega;split <;> omega
def okS(b:List Int)(a k:Nat):Bool:=decide (a+k<b.length∧(if k=1 then loS (b.getD a 0)else 128)≤b.getD (a+k) 0∧b.getD (a+k) 0≤(if k=1 then hiS (b.getD a 0)else 191))
def jK(b:List Int)(a:Nat):Nat:=pA (fun j=> !okS b a (j+1)) (i5 (b.getD a 0) - 1)
def zJ(b:List Int)(a:Nat):Nat→Int
 | 0=>b.getD a 0 % ((2 ^ (7 - i5 (b.getD a 0)):Nat):Int)
 | k+1=>zJ b a k*64+(b.getD (a+(k+1)) 0 - 128)
def F7(b:List Int)(a:Nat):Int×Nat :=
 if i5 (b.getD a 0)≤1 then(if i5 (b.getD a 0)=1 then b.getD a 0 else 65533,1)
 else if jK b a=i5 (b.getD a 0) - 1 then(zJ b a (jK b a),jK b a+1)else(65533,jK b a+1)
theorem aFC(b:List Int)(a:Nat):jK b a≤i5 (b.getD a 0) - 1:=aBl _ _
theorem aBB{b:List Int}{a k:Nat}(h1:1≤k)(h2:k≤jK b a):okS b a k=true:=by
 have:=aA2 (fun j=> !okS b a (j+1)) (i5 (b.getD a 0) - 1) (j:=k - 1) (by unfold jK at h2;omega)
 rw[show k - 1+1=k by omega]at this
 simpa using this
theorem aHW{b:List Int}{a:Nat}(h:jK b a<i5 (b.getD a 0) - 1):okS b a (jK b a+1)=false:=by
 have:=aA5 (fun j=> !okS b a (j+1)) (i5 (b.getD a 0) - 1) h
 simp only[Bool.not_eq_true']at this
 exact this
theorem aEL{b:List Int}{a k:Nat}(h:okS b a k=true):a+k<b.length∧128≤b.getD (a+k) 0∧b.getD (a+k) 0≤191:=by
 unfold okS at h
 simp only[decide_eq_true_eq]at h
 have h1:128≤loS (b.getD a 0):=by unfold loS;split;omega;split <;> omega
 have h2:hiS (b.getD a 0)≤191:=by unfold hiS;split;omega;split <;> omega
 split at h <;> omega
theorem aFJ{b:List Int}{a:Nat}(hl:2≤i5 (b.getD a 0)):∀k,k≤jK b a→0≤zJ b a k∧zJ b a k<32*((64 ^ k:Nat):Int)
 | 0,_=>by
  have h4:=N3 (b.getD a 0)
  simp only[zJ]
  have hp:(2:Nat) ^ (7 - i5 (b.getD a 0))≤2 ^ 5:=Nat.pow_le_pow_right (by decide) (by omega)
  have hp0:0<(2:Nat) ^ (7 - i5 (b.getD a 0)):=Nat.pow_pos (by decide)
  have e5:(2:Nat) ^ 5=32:=by decide
  have:=Int.emod_nonneg (b.getD a 0) (show((2 ^ (7 - i5 (b.getD a 0)):Nat):Int)≠0 by omega)
  have:=Int.emod_lt_of_pos (b.getD a 0) (show 0<((2 ^ (7 - i5 (b.getD a 0)):Nat):Int) by omega)
  simp only[Nat.pow_zero]
  omega
 | k+1,hk=>by
  have ih:=aFJ hl k (by omega)
  have ho:=aEL (aBB (b:=b) (a:=a) (k:=k+1) (by omega) hk)
  simp only[zJ]
  have e:((64 ^ (k+1):Nat):Int)=((64 ^ k:Nat):Int)*64:=by rw[Nat.pow_succ];omega
  rw[e]
  omega
theorem aHq(b:List Int)(a:Nat):jK b a≤3:=by have:=aFC b a;have:=N3 (b.getD a 0);omega
section
variable{b:List Int}(hb:Bytes b)(hl:b.length≤1000000)
include hb hl
omit hb in
theorem aJQ{a:Nat}(ha:a<b.length)(h2:2≤i5 (b.getD a 0)):
  iter (jS b (a:Int) (i5 (b.getD a 0):Int)) (loS (b.getD a 0),hiS (b.getD a 0),(1:Int),zJ b a 0,(1:Int)) =
   some (if jK b a=i5 (b.getD a 0) - 1 then Sum.inl (((jK b a+1:Nat):Int),zJ b a (jK b a))else Sum.inr ((65533:Int),((a:Int),((jK b a+1:Nat):Int)))):=by
 have hc:=aFC b a
 have hc3:=aHq b a
 have h4:=N3 (b.getD a 0)
 have hi:=fD (body:=jS b (a:Int) (i5 (b.getD a 0):Int)) (fun j=>(if j=0 then loS (b.getD a 0)else 128,if j=0 then hiS (b.getD a 0)else 191,((j+1:Nat):Int),zJ b a j,((j+1:Nat):Int))) (jK b a)
  (r:=if jK b a=i5 (b.getD a 0) - 1 then Sum.inl (((jK b a+1:Nat):Int),zJ b a (jK b a))else Sum.inr ((65533:Int),((a:Int),((jK b a+1:Nat):Int)))) (fun j hj=>by
   have ho:=aBB (b:=b) (a:=a) (k:=j+1) (by omega) (by omega)
   have hin:=aEL ho
   have hnum:=aFJ h2 j (by omega)
   unfold okS at ho
   simp only[decide_eq_true_eq,Nat.add_eq_right]at ho
   have hk64:((64 ^ j:Nat):Int)≤4096:=by
    have:(64:Nat) ^ j≤64 ^ 2:=Nat.pow_le_pow_right (by decide) (by omega)
    omega
   have e0:IntKind.i64.wrap ((a:Int)+((j+1:Nat):Int))=((a+(j+1):Nat):Int):=by rw[wrap_i64 (by omega) (by omega)];omega
   have e1:IntKind.i64.wrap (((j+1:Nat):Int)+1)=((j+1+1:Nat):Int):=by rw[wrap_i64 (by omega) (by omega)];omega
   have e2:aT .and .u8 (b.getD (a+(j+1)) 0) 63=b.getD (a+(j+1)) 0 - 128:=by
    have:=aJ0 (x:=b.getD (a+(j+1)) 0) (by omega) (by omega) (k:=6) (by decide)
    have e63:((2 ^ 6 - 1:Nat):Int)=63:=by decide
    have e64:((2 ^ 6:Nat):Int)=64:=by decide
    rw[e63,e64]at this
    omega
   have e3:IntKind.i32.wrap (b.getD (a+(j+1)) 0 - 128)=b.getD (a+(j+1)) 0 - 128:=jD (by omega) (by omega)
   have e4:aT .or .i32 (IntKind.i32.wrap (zJ b a j*2 ^ (min (6:Int).toNat IntKind.i32.bits))) (b.getD (a+(j+1)) 0 - 128)=zJ b a (j+1):=by
    have e64:((2 ^ 6:Nat):Int)=64:=by decide
    have e64':(2:Int) ^ (min (6:Int).toNat IntKind.i32.bits)=64:=by decide
    have:=aJs (a:=zJ b a j) (y:=b.getD (a+(j+1)) 0 - 128) (k:=6) hnum.1 (by omega) (by omega) (by omega)
    rw[e64]at this
    rw[e64',jD (by omega) (by omega),this]
    rfl
   simp only[jS,e0,e1,Int.toNat_natCast,e2,e3,e4]
   rw[if_pos (by simp only[decide_eq_true_eq];omega),if_neg (by simp only[decide_eq_true_eq];omega),if_pos ⟨by omega,by omega⟩,if_neg (by simp only[decide_eq_true_eq];omega),if_pos ⟨by omega,by omega⟩]
   simp only[Option.bind_some]
   rw[if_neg (by simp only[decide_eq_true_eq];omega),if_pos (by decide),if_pos ⟨by omega,by omega⟩]
   simp only[Nat.add_one_ne_zero,if_false]) (by
   have e0:IntKind.i64.wrap ((a:Int)+((jK b a+1:Nat):Int))=((a+(jK b a+1):Nat):Int):=by rw[wrap_i64 (by omega) (by omega)];omega
   simp only[jS,e0,Int.toNat_natCast]
   by_cases q:jK b a=i5 (b.getD a 0) - 1
   ·rw[if_neg (by simp only[decide_eq_true_eq];omega),if_pos q]
   ·have hno:=aHW (b:=b) (a:=a) (by omega)
    rw[if_pos (by simp only[decide_eq_true_eq];omega),if_neg q]
    unfold okS at hno
    simp only[decide_eq_false_iff_not,Nat.add_eq_right]at hno
    by_cases q1:a+(jK b a+1)<b.length
    ·rw[if_neg (by simp only[decide_eq_true_eq];omega),if_pos ⟨by omega,by omega⟩]
     by_cases q2:b.getD (a+(jK b a+1)) 0<(if jK b a=0 then loS (b.getD a 0)else 128)
     ·rw[if_pos (by simpa using q2)];rfl
     ·rw[if_neg (by simpa using q2),if_pos ⟨by omega,by omega⟩]
      have:decide (b.getD (a+(jK b a+1)) 0 > (if jK b a=0 then hiS (b.getD a 0)else 191))=true:=by simp only[decide_eq_true_eq];omega
      rw[this];rfl
    ·rw[if_pos (by simp only[decide_eq_true_eq];omega)];rfl)
 exact hi
theorem aET{a:Nat}(ha:a<b.length):uJ b (a:Int)=some ((F7 b a).1,((a:Int),((F7 b a).2:Int))):=by
 have hc:=hb.get a
 have h4:=N3 (b.getD a 0)
 unfold uJ F7
 rw[if_neg (by simp only[decide_eq_true_eq];omega)]
 simp only[Option.bind_some]
 rw[if_neg (by simp only[decide_eq_true_eq];omega),if_pos ⟨by omega,by omega⟩,Int.toNat_natCast,aIW]
 simp only[Option.bind_some]
 by_cases h1:i5 (b.getD a 0)≤1
 ·rw[if_pos h1,if_pos h1]
  simp only
  rw[if_pos (by simp only[decide_eq_true_eq];omega)]
  by_cases h2:i5 (b.getD a 0)=1
  ·rw[if_pos (by simp only[beq_iff_eq];omega),if_pos ⟨by omega,by omega⟩,if_pos h2,jD (by omega) (by omega)];rfl
  ·rw[if_neg (by simp only[beq_iff_eq];omega),if_neg h2];rfl
 ·rw[if_neg h1,if_neg h1]
  simp only
  have e0:aT .and .i32 (IntKind.i32.wrap (b.getD a 0)) (Int.fdiv (127:Int) (2 ^ (min (i5 (b.getD a 0):Int).toNat IntKind.i32.bits)))=zJ b a 0:=by
   have e1:Int.fdiv (127:Int) (2 ^ (min (i5 (b.getD a 0):Int).toNat IntKind.i32.bits))=((2 ^ (7 - i5 (b.getD a 0)) - 1:Nat):Int):=by
    generalize i5 (b.getD a 0)=n at h1 h4
    have:n=2∨n=3∨n=4:=by omega
    rcases this with rfl | rfl | rfl <;> decide
   rw[e1,jD (by omega) (by omega),aFi hc.1 (by omega) (by omega)]
   rfl
  rw[if_neg (by simp only[decide_eq_true_eq];omega),if_pos ⟨by omega,by omega⟩,if_pos (by omega),e0,aJQ hl ha (by omega)]
  simp only[Option.bind_some]
  by_cases q:jK b a=i5 (b.getD a 0) - 1
  ·rw[if_pos q,if_pos q]
  ·rw[if_neg q,if_neg q]
end
end Go.Proofs.YtbedjpdfkmfplaaGreatDoor.T
namespace Go.Proofs.YtbedjpdfkmfplaaGreatDoor.T
open Go Go.Tv Go.Proofs
theorem aH6{b:List Int}{a:Nat}(ha:a<b.length):1≤(F7 b a).2∧(F7 b a).2≤4∧a+(F7 b a).2≤b.length:=by
 have h3:=aHq b a
 have key:a+(jK b a+1)≤b.length:=by
  rcases Nat.eq_zero_or_pos (jK b a)with e | e
  ·omega
  ·have:=(aEL (aBB (b:=b) (a:=a) e (Nat.le_refl _))).1
   omega
 unfold F7
 split
 ·exact⟨Nat.le_refl _,by simp,ha⟩
 ·split
  ·exact⟨by simp,by simp only;omega,key⟩
  ·exact⟨by simp,by simp only;omega,key⟩
def Cv:Int→List (Int×Int×Int)→Int→Prop
 | a,[],n=>a=n
 | a,x::r,n=>x.2.1=a∧1≤x.2.2∧x.2.2≤4∧Cv (a+x.2.2) r n
theorem Cv.snoc{x:Int×Int×Int}:∀ {a m:Int} {s:List (Int×Int×Int)},Cv a s m→x.2.1=m→1≤x.2.2→x.2.2≤4→Cv a (s++[x]) (m+x.2.2)
 | a,m,[],h,h1,h2,h3=>by
  simp only[Cv]at h
  subst h
  exact⟨h1,h2,h3,rfl⟩
 | a,m,y::s,h,h1,h2,h3=>⟨h.1,h.2.1,h.2.2.1,h.2.2.2.snoc h1 h2 h3⟩
theorem aJq{b:List Int}(hb:Bytes b)(hl:b.length≤4096):∃s,qD b=some s∧Cv 0 s (b.length:Int)∧s.length≤b.length:=by
 obtain⟨r,h1,h2⟩:=dQ (body:=lO b) (fun s=>∃a:Nat,s.2=(a:Int)∧a≤b.length∧Cv 0 s.1 (a:Int)∧s.1.length≤a) (fun s=>b.length - s.2.toNat) (fun r=>Cv 0 r (b.length:Int)∧r.length≤b.length) (by
  rintro⟨out,at2⟩ ⟨a,rfl,ha,hc,ho⟩
  simp only at hc ho
  by_cases h:a<b.length
  ·left
   obtain⟨l1,l2,l3⟩:=aH6 h
   have h':(a:Int)<(b.length:Int):=by omega
   refine⟨(out++[((F7 b a).1,((a:Int),((F7 b a).2:Int)))],((a+(F7 b a).2:Nat):Int)),?_,⟨a+(F7 b a).2,rfl,l3,?_,by simp;omega⟩,by simp only[Int.toNat_natCast];omega⟩
   ·simp only[lO,h',decide_true,if_true,aET hb (by omega) h,Option.bind,List.length_singleton]
    rw[if_pos (by omega),wrap_i64 (by omega) (by omega)]
    rfl
   ·have:=hc.snoc (x:=((F7 b a).1,((a:Int),((F7 b a).2:Int)))) rfl (by simp only;omega) (by simp only;omega)
    simpa using this
  ·right
   obtain rfl:a=b.length:=by omega
   exact⟨out,by simp[lO],hc,ho⟩) (s:=([],0)) ⟨0,rfl,by omega,rfl,by simp⟩
 refine⟨r,?_,h2⟩
 unfold qD
 rw[h1]
 rfl
theorem aFl{t:Option ((Arr 4352)×List (Arr 256))}{f:Int→Int}(ht:yZ t f){s:List (Int×Int×Int)}(hs:s.length≤4096):cZ t s=some (s.map fun x=>f x.1):=by
 have ht':bF t=fun r=>some (f r):=ht
 have hL:iter (dY t s) (List.replicate s.length 0,((0:Nat):Int))=some (s.map fun x=>f x.1):=by
  refine fD (fun k=>((s.take k).map (fun x=>f x.1)++List.replicate (s.length - k) 0,(k:Int))) s.length (fun k hk=> ?_) ?_ |> fun h=>by simpa using h
  ·have h1:(k:Int)<(s.length:Int):=by omega
   have h2:0≤(k:Int):=by omega
   have hlen:((s.take k).map (fun x:Int×Int×Int=>f x.1)++List.replicate (s.length - k) (0:Int)).length=s.length:=by simp;omega
   have hset:((s.take k).map (fun x=>f x.1)++List.replicate (s.length - k) (0:Int)).set k (f (s.getD k (0,(0,0))).1)=(s.take (k+1)).map (fun x=>f x.1)++List.replicate (s.length - (k+1)) 0:=by
    rw[kU (d:=(0,(0,0))) hk,List.map_append,List.set_append_right _ _ (by simp;omega),List.length_map,List.length_take,Nat.min_eq_left (by omega),Nat.sub_self,show s.length - k=(s.length - (k+1))+1 by omega,List.replicate_succ,List.set_cons_zero]
    simp
   simp only[dY,h1,h2,hlen,hk,and_self,decide_true,if_true,Int.toNat_natCast,ht',Option.bind,hset]
   rw[wrap_i64 (by omega) (by omega)]
   rfl
  ·have h1:¬((s.length:Int)<(s.length:Int)):=by omega
   simp[dY]
 unfold cZ
 rw[if_pos (by omega),Int.toNat_natCast]
 exact congrArg (fun x=>Option.bind x fun o=>some o) hL
end Go.Proofs.YtbedjpdfkmfplaaGreatDoor.T
