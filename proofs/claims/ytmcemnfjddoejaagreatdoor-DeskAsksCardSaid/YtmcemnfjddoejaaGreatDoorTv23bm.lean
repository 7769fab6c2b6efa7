/- Tables that the kernel can reckon with; what hangs on a table's answers alone; the example's book. -/
import Derived.Test.YtmcemnfjddoejaaGreatDoorTvT23aa
import Derived.Test.YtmcemnfjddoejaaGreatDoorTvYm
import Derived.KernelRfl
namespace Go.Proofs.YtmcemnfjddoejaaGreatDoor.T
open Go Go.Tv Go.Proofs
open Go.IntKind (i32 i64)
noncomputable section
def C5(l:List (Int×Int×Int)):Nat→Int→List Int
 | 0,_=>[]
 | n+1,r=>atR l r::C5 l n (r+1)
theorem B0(l):∀n r,(C5 l n r).length=n
 | 0,_=>rfl
 | n+1,r=>by simp[C5,B0 l n]
theorem BM(l):∀n r c,c<n→(C5 l n r).getD c 0=atR l (r+c)
 | n+1,r,0,_=>by simp[C5]
 | n+1,r,c+1,h=>by
  simp only[C5,List.getD_cons_succ];rw[BM l n (r+1) c (by omega)];congr 1;omega
def Dg(l:List (Int×Int×Int)):Nat→Int→List (ew 256)
 | 0,_=>[]
 | n+1,i=>⟨C5 l 256 (256*i),B0 l 256 _⟩::Dg l n (i+1)
theorem A9(l):∀n i,(Dg l n i).length=n
 | 0,_=>rfl
 | n+1,i=>by simp[Dg,A9 l n]
theorem Bo(l):∀n i q,q<n→∀c:Nat,c<256→eP ((Dg l n i).getD q (cY 256)) c=atR l (256*(i+q)+c)
 | n+1,i,0,_,c,e=>by
  simp only[Dg,List.getD_cons_zero,eP];rw[BM l 256 _ c e];congr 1;omega
 | n+1,i,q+1,h,c,e=>by
  simp only[Dg,List.getD_cons_succ];rw[Bo l n (i+1) q (by omega) c e];congr 1;omega
def DX:Nat→Int→List Int
 | 0,_=>[]
 | n+1,i=>i::DX n (i+1)
theorem C0:∀n i,(DX n i).length=n
 | 0,_=>rfl
 | n+1,i=>by simp[DX,C0 n]
theorem Be:∀n i j,j<n→(DX n i).getD j 0=i+j
 | n+1,i,0,_=>by simp[DX]
 | n+1,i,j+1,h=>by
  simp only[DX,List.getD_cons_succ];rw[Be n (i+1) j (by omega)];omega
def GI(l:List (Int×Int×Int)):(ew 4352)×List (ew 256):=(⟨DX 4352 0,C0 _ _⟩,Dg l 4352 0)
theorem pX{l:List (Int×Int×Int)}(f:Rp l):ta (some (GI l)) (Fq l):=by
 refine Hq f fun j e=>⟨j,?_,?_,fun c k=> ?_⟩
 ·simp only[eP];rw[Be _ _ _ e];omega
 ·rw[A9];exact e
 ·rw[Bo l 4352 0 j e c k];congr 1;omega
theorem xA{t c:Option ((ew 4352)×List (ew 256))}(h:aZ t=aZ c)(l:List (Int×Int×Int)):b9 t l=b9 c l:=by
 unfold b9 cW;rw[h]
theorem BP{t c:Option ((ew 4352)×List (ew 256))}(h:aZ t=aZ c)(l:List (Int×Int×Int))(e f:List Int)(j:List Bool):fX l e f j t=fX l e f j c:=by
 unfold fX lb db;rw[h]
theorem Dx{c e h f j k m p q}(u:aZ f=aZ m)(v:aZ j=aZ p)(z:aZ k=aZ q)(x:List Int):
  aN (some (c,e,f,j,k,h)) x=aN (some (c,e,m,p,q,h)) x:=by
 unfold aN;simp only[Option.getD,Option.isNone,Option.isSome,xA u,xA v,BP z]
/-! ### A example -/
def fU:List (Int×Int×Int):=[(10,(10,2)),(32,(32,1))]
def iG:List (Int×Int×Int):=[(32,(126,1))]
def DP:List UInt8:=[99,108,97,115,115,32,79,59,32,109,97,121,32,79,32,47,32,79,59]
def Ek:List UInt8:=[99,108,97,115,115,32,79,32,83,32,78,59,32,107,101,101,112,32,83,32,47,32,83,59,32,109,97,121,32,83,32,47,32,46,59,32,109,117,115,116,32,78,32,47,32,46,59,32,107,101,101,112,32,46,32,47,32,46,59]
def Fi:=((jY DP).getD (none,0,0)).1
def FI:=((jY Ek).getD (none,0,0)).1
def Ik:=((pz [] [] 2 2).getD (none,0,0)).1
theorem IF:jY DP=some (Fi,0,0):=by kernel_rfl
theorem IA:jY Ek=some (FI,0,0):=by kernel_rfl
theorem JV:pz [] [] 2 2=some (Ik,0,0):=by kernel_rfl
theorem MI:cJ Fi=some 1:=by kernel_rfl
theorem MG:cJ FI=some 3:=by kernel_rfl
theorem zS{l:List (Int×Int×Int)}{most:Int}(h:uV l most=true):∃t,gx l most=some (some t,0)∧ta (some t) (Fq l):=by
 rcases BV l most with⟨_,c⟩ | ⟨t,e,_,f⟩
 ·rw[h]at c;cases c
 ·exact⟨t,e,f⟩
theorem KV:∃c e f,mQ [] fU iG [] DP Ek [] 2 2=some (some (Fi,FI,some c,some e,some f,Ik),0,0)∧ta (some c) (Fq [])∧ta (some e) (Fq fU)∧ta (some f) (Fq iG):=by
 obtain⟨c,j,k⟩:=zS (l:=[]) (most:=1) (by decide);obtain⟨e,m,p⟩:=zS (l:=fU) (most:=3) (by decide);obtain⟨f,q,u⟩:=zS (l:=iG) (most:=3) (by decide);refine⟨c,e,f,?_,k,p,u⟩;unfold mQ;rw[IF,IA];simp only[Option.bind,MI,MG,j,m,q,JV];rfl
theorem pW:Rp []∧Rp fU∧Rp iG:=⟨o9 (most:=1) (by decide),o9 (most:=3) (by decide),o9 (most:=3) (by decide)⟩
def J6:Option Z1:=some (Fi,FI,some (GI []),some (GI fU),some (GI iG),Ik)
theorem JU{c e f}(j:ta (some c) (Fq []))(k:ta (some e) (Fq fU))(m:ta (some f) (Fq iG))(x:List Int):
  aN (some (Fi,FI,some c,some e,some f,Ik)) x=aN J6 x :=
 Dx (j.trans (pX pW.1).symm) (k.trans (pX pW.2.1).symm) (m.trans (pX pW.2.2).symm) x
end
end Go.Proofs.YtmcemnfjddoejaaGreatDoor.T
namespace Go.Proofs.YtmcemnfjddoejaaGreatDoor.T
open Go Go.Tv Go.Proofs
open Go.IntKind (i32 i64)
def Bytes(b:List Int):Prop:=∀x∈b,0≤x∧x≤255
theorem Bytes.get{b:List Int}(h:Bytes b)(i:Nat):0≤b.getD i 0∧b.getD i 0≤255:=by
 rcases Nat.lt_or_ge i b.length with hi | hi
 ·exact h _ (mW hi)
 ·rw[List.getD_eq_getElem?_getD,List.getElem?_eq_none hi];simp
def gL(c:Int):Nat:=if c<128 then 1 else if 194≤c∧c≤223 then 2 else if 224≤c∧c≤239 then 3 else if 240≤c∧c≤244 then 4 else 0
def Ju(c:Int):Int:=if c=224 then 160 else if c=240 then 144 else 128
def JF(c:Int):Int:=if c=237 then 159 else if c=244 then 143 else 191
theorem I4(c:Int):mZ c=some (if gL c≤1 then((gL c:Int),0,0)else((gL c:Int),Ju c,JF c)):=by
 unfold mZ gL Ju JF;by_cases j:c<128
 ·rw[if_pos (by simpa using j),if_pos j,if_pos (by omega)];rfl
 rw[if_neg (by simpa using j),if_neg j];by_cases k:c<194
 ·rw[if_pos (by simpa using k),if_neg (c:=194≤c∧c≤223) (by omega),if_neg (c:=224≤c∧c≤239) (by omega),if_neg (c:=240≤c∧c≤244) (by omega)];rfl
 rw[if_neg (by simpa using k)];by_cases m:c > 244
 ·rw[if_neg (c:=194≤c∧c≤223) (by omega),if_neg (c:=224≤c∧c≤239) (by omega),if_neg (c:=240≤c∧c≤244) (by omega)];simp only[Option.bind_some];rw[if_pos (by simpa using m)];rfl
 simp only[Option.bind_some];rw[if_neg (by simpa using m)];by_cases p:c<224
 ·rw[if_pos (by simpa using p),if_pos (c:=194≤c∧c≤223) (by omega),if_neg (by omega),if_neg (c:=c=224) (by omega),if_neg (c:=c=240) (by omega),if_neg (c:=c=237) (by omega),if_neg (c:=c=244) (by omega)];rfl
 rw[if_neg (by simpa using p),if_neg (c:=194≤c∧c≤223) (by omega)];by_cases q:c≤239
 ·rw[if_pos (c:=224≤c∧c≤239) (by omega),if_neg (c:=(3:Nat)≤1) (by omega),if_neg (c:=c=240) (by omega),if_neg (c:=c=244) (by omega)];by_cases e:c=224
  ·subst e;rfl
  rw[if_neg (by simpa using e),if_neg e];by_cases f:c=237
  ·subst f;rfl
  rw[if_neg (by simpa using f),if_neg f,if_pos (by simp only[decide_eq_true_eq];omega)];rfl
 rw[if_neg (c:=224≤c∧c≤239) (by omega),if_pos (c:=240≤c∧c≤244) (by omega),if_neg (c:=(4:Nat)≤1) (by omega),if_neg (c:=c=224) (by omega),if_neg (c:=c=237) (by omega),
  if_neg (by simp only[beq_iff_eq];omega),if_neg (by simp only[beq_iff_eq];omega),if_neg (by simp only[decide_eq_true_eq];omega)]
 by_cases e:c=240
 ·subst e;rfl
 rw[if_neg (by simpa using e),if_neg e];by_cases f:c=244
 ·subst f;rfl
 rw[if_neg (by simpa using f),if_neg f];rfl
theorem vJ(c:Int):gL c≤4:=by unfold gL;split;omega;split;omega;split;omega;split <;> omega
def IN(b:List Int)(a k:Nat):Bool:=decide (a+k<b.length∧(if k=1 then Ju (b.getD a 0)else 128)≤b.getD (a+k) 0∧b.getD (a+k) 0≤(if k=1 then JF (b.getD a 0)else 191))
def hY(b:List Int)(a:Nat):Nat:=mq (fun j=> !IN b a (j+1)) (gL (b.getD a 0) - 1)
def tn(b:List Int)(a:Nat):Nat→Int
 | 0=>b.getD a 0 % ((2 ^ (7 - gL (b.getD a 0)):Nat):Int)
 | k+1=>tn b a k*64+(b.getD (a+(k+1)) 0 - 128)
def ud(b:List Int)(a:Nat):Int×Nat :=
 if gL (b.getD a 0)≤1 then(if gL (b.getD a 0)=1 then b.getD a 0 else 65533,1)
 else if hY b a=gL (b.getD a 0) - 1 then(tn b a (hY b a),hY b a+1)else(65533,hY b a+1)
theorem E8(b:List Int)(a:Nat):hY b a≤gL (b.getD a 0) - 1:=zz _ _
theorem zO{b:List Int}{a k:Nat}(e:1≤k)(c:k≤hY b a):IN b a k=true:=by
 have:=ze (fun j=> !IN b a (j+1)) (gL (b.getD a 0) - 1) (j:=k - 1) (by unfold hY at c;omega);rw[show k - 1+1=k by omega]at this;simpa using this
theorem H0{b:List Int}{a:Nat}(h:hY b a<gL (b.getD a 0) - 1):IN b a (hY b a+1)=false:=by
 have:=yY (fun j=> !IN b a (j+1)) (gL (b.getD a 0) - 1) h;simp only[Bool.not_eq_true']at this;exact this
theorem DL{b:List Int}{a k:Nat}(h:IN b a k=true):a+k<b.length∧128≤b.getD (a+k) 0∧b.getD (a+k) 0≤191:=by
 unfold IN at h;simp only[decide_eq_true_eq]at h;have c:128≤Ju (b.getD a 0):=by unfold Ju;split;omega;split <;> omega
 have e:JF (b.getD a 0)≤191:=by unfold JF;split;omega;split <;> omega
 split at h <;> omega
theorem EV{b:List Int}{a:Nat}(hl:2≤gL (b.getD a 0)):∀k,k≤hY b a→0≤tn b a k∧tn b a k<32*((64 ^ k:Nat):Int)
 | 0,_=>by
  have j:=vJ (b.getD a 0);simp only[tn];have m:(2:Nat) ^ (7 - gL (b.getD a 0))≤2 ^ 5:=Nat.pow_le_pow_right (by decide) (by omega);have c:0<(2:Nat) ^ (7 - gL (b.getD a 0)):=Nat.pow_pos (by decide);have p:(2:Nat) ^ 5=32:=by decide
  have:=Int.emod_nonneg (b.getD a 0) (show((2 ^ (7 - gL (b.getD a 0)):Nat):Int)≠0 by omega);have:=Int.emod_lt_of_pos (b.getD a 0) (show 0<((2 ^ (7 - gL (b.getD a 0)):Nat):Int) by omega);simp only[Nat.pow_zero];omega
 | k+1,f=>by
  have q:=EV hl k (by omega);have u:=DL (zO (b:=b) (a:=a) (k:=k+1) (by omega) f);simp only[tn];have e:((64 ^ (k+1):Nat):Int)=((64 ^ k:Nat):Int)*64:=by rw[Nat.pow_succ];omega
  rw[e];omega
theorem H8(b:List Int)(a:Nat):hY b a≤3:=by have:=E8 b a;have:=vJ (b.getD a 0);omega
section
variable{b:List Int}(hb:Bytes b)(hl:b.length≤1000000)
include hb hl
omit hb in
theorem Kj{a:Nat}(ha:a<b.length)(B:2≤gL (b.getD a 0)):
  iter (iA b (a:Int) (gL (b.getD a 0):Int)) (Ju (b.getD a 0),JF (b.getD a 0),(1:Int),tn b a 0,(1:Int)) =
   some (if hY b a=gL (b.getD a 0) - 1 then Sum.inl (((hY b a+1:Nat):Int),tn b a (hY b a))else Sum.inr ((65533:Int),((a:Int),((hY b a+1:Nat):Int)))):=by
 have L:=E8 b a;have C:=H8 b a;have M:=vJ (b.getD a 0);have hi:=dL (body:=iA b (a:Int) (gL (b.getD a 0):Int)) (fun j=>(if j=0 then Ju (b.getD a 0)else 128,if j=0 then JF (b.getD a 0)else 191,((j+1:Nat):Int),tn b a j,((j+1:Nat):Int))) (hY b a)
  (r:=if hY b a=gL (b.getD a 0) - 1 then Sum.inl (((hY b a+1:Nat):Int),tn b a (hY b a))else Sum.inr ((65533:Int),((a:Int),((hY b a+1:Nat):Int)))) (fun j N=>by
   have p:=zO (b:=b) (a:=a) (k:=j+1) (by omega) (by omega);have hin:=DL p;have e:=EV B j (by omega);unfold IN at p;simp only[decide_eq_true_eq,Nat.add_eq_right]at p;have z:((64 ^ j:Nat):Int)≤4096:=by have:(64:Nat) ^ j≤64 ^ 2:=Nat.pow_le_pow_right (by decide) (by omega);omega
   have u:i64.wrap ((a:Int)+((j+1:Nat):Int))=((a+(j+1):Nat):Int):=by rw[wrap_i64 (by omega) (by omega)];omega
   have D:i64.wrap (((j+1:Nat):Int)+1)=((j+1+1:Nat):Int):=by rw[wrap_i64 (by omega) (by omega)];omega
   have E:bitsOf .and .u8 (b.getD (a+(j+1)) 0) 63=b.getD (a+(j+1)) 0 - 128:=by
    have:=Kr (x:=b.getD (a+(j+1)) 0) (by omega) (by omega) (k:=6) (by decide);have v:((2 ^ 6 - 1:Nat):Int)=63:=by decide
    have c:((2 ^ 6:Nat):Int)=64:=by decide
    rw[v,c]at this;omega
   have I:i32.wrap (b.getD (a+(j+1)) 0 - 128)=b.getD (a+(j+1)) 0 - 128:=wrap_i32 (by omega) (by omega);have J:bitsOf .or .i32 (i32.wrap (tn b a j*2 ^ (min (6:Int).toNat i32.bits))) (b.getD (a+(j+1)) 0 - 128)=tn b a (j+1):=by
    have c:((2 ^ 6:Nat):Int)=64:=by decide
    have f:(2:Int) ^ (min (6:Int).toNat i32.bits)=64:=by decide
    have:=KB (a:=tn b a j) (y:=b.getD (a+(j+1)) 0 - 128) (k:=6) e.1 (by omega) (by omega) (by omega);rw[c]at this;rw[f,wrap_i32 (by omega) (by omega),this];rfl
   simp only[iA,u,D,Int.toNat_natCast,E,I,J];rw[if_pos (by simp only[decide_eq_true_eq];omega),if_neg (by simp only[decide_eq_true_eq];omega),if_pos ⟨by omega,by omega⟩,if_neg (by simp only[decide_eq_true_eq];omega),if_pos ⟨by omega,by omega⟩];simp only[Option.bind_some];rw[if_neg (by simp only[decide_eq_true_eq];omega),if_pos (by decide),if_pos ⟨by omega,by omega⟩];simp only[Nat.add_one_ne_zero,if_false]) (by
   have u:i64.wrap ((a:Int)+((hY b a+1:Nat):Int))=((a+(hY b a+1):Nat):Int):=by rw[wrap_i64 (by omega) (by omega)];omega
   simp only[iA,u,Int.toNat_natCast];by_cases q:hY b a=gL (b.getD a 0) - 1
   ·rw[if_neg (by simp only[decide_eq_true_eq];omega),if_pos q]
   ·have m:=H0 (b:=b) (a:=a) (by omega);rw[if_pos (by simp only[decide_eq_true_eq];omega),if_neg q];unfold IN at m;simp only[decide_eq_false_iff_not,Nat.add_eq_right]at m;by_cases O:a+(hY b a+1)<b.length
    ·rw[if_neg (by simp only[decide_eq_true_eq];omega),if_pos ⟨by omega,by omega⟩];by_cases A:b.getD (a+(hY b a+1)) 0<(if hY b a=0 then Ju (b.getD a 0)else 128)
     ·rw[if_pos (by simpa using A)];rfl
     ·rw[if_neg (by simpa using A),if_pos ⟨by omega,by omega⟩];have:decide (b.getD (a+(hY b a+1)) 0 > (if hY b a=0 then JF (b.getD a 0)else 191))=true:=by simp only[decide_eq_true_eq];omega
      rw[this];rfl
    ·rw[if_pos (by simp only[decide_eq_true_eq];omega)];rfl)
 exact hi
theorem Dm{a:Nat}(ha:a<b.length):pS b (a:Int)=some ((ud b a).1,((a:Int),((ud b a).2:Int))):=by
 have f:=hb.get a;have j:=vJ (b.getD a 0);unfold pS ud;rw[if_neg (by simp only[decide_eq_true_eq];omega)];simp only[Option.bind_some];rw[if_neg (by simp only[decide_eq_true_eq];omega),if_pos ⟨by omega,by omega⟩,Int.toNat_natCast,I4];simp only[Option.bind_some];by_cases c:gL (b.getD a 0)≤1
 ·rw[if_pos c,if_pos c];simp only;rw[if_pos (by simp only[decide_eq_true_eq];omega)];by_cases e:gL (b.getD a 0)=1
  ·rw[if_pos (by simp only[beq_iff_eq];omega),if_pos ⟨by omega,by omega⟩,if_pos e,wrap_i32 (by omega) (by omega)];rfl
  ·rw[if_neg (by simp only[beq_iff_eq];omega),if_neg e];rfl
 ·rw[if_neg c,if_neg c];simp only;have k:bitsOf .and .i32 (i32.wrap (b.getD a 0)) (Int.fdiv (127:Int) (2 ^ (min (gL (b.getD a 0):Int).toNat i32.bits)))=tn b a 0:=by
   have m:Int.fdiv (127:Int) (2 ^ (min (gL (b.getD a 0):Int).toNat i32.bits))=((2 ^ (7 - gL (b.getD a 0)) - 1:Nat):Int):=by
    generalize gL (b.getD a 0)=n at c j;have:n=2∨n=3∨n=4:=by omega
    rcases this with rfl | rfl | rfl <;> decide
   rw[m,wrap_i32 (by omega) (by omega),EN f.1 (by omega) (by omega)];rfl
  rw[if_neg (by simp only[decide_eq_true_eq];omega),if_pos ⟨by omega,by omega⟩,if_pos (by omega),k,Kj hl ha (by omega)];simp only[Option.bind_some];by_cases q:hY b a=gL (b.getD a 0) - 1
  ·rw[if_pos q,if_pos q]
  ·rw[if_neg q,if_neg q]
end
end Go.Proofs.YtmcemnfjddoejaaGreatDoor.T
namespace Go.Proofs.YtmcemnfjddoejaaGreatDoor.T
open Go Go.Tv Go.Proofs
open Go.IntKind (i32 i64)
theorem HI{b:List Int}{a:Nat}(ha:a<b.length):1≤(ud b a).2∧(ud b a).2≤4∧a+(ud b a).2≤b.length:=by
 have c:=H8 b a;have key:a+(hY b a+1)≤b.length:=by
  rcases Nat.eq_zero_or_pos (hY b a)with e | e
  ·omega
  ·have:=(DL (zO (b:=b) (a:=a) e (Nat.le_refl _))).1;omega
 unfold ud;split
 ·exact⟨Nat.le_refl _,by simp,ha⟩
 ·split
  ·exact⟨by simp,by simp only;omega,key⟩
  ·exact⟨by simp,by simp only;omega,key⟩
def Cv:Int→List (Int×Int×Int)→Int→Prop
 | a,[],n=>a=n
 | a,x::r,n=>x.2.1=a∧1≤x.2.2∧x.2.2≤4∧Cv (a+x.2.2) r n
theorem Cv.snoc{x:Int×Int×Int}:∀ {a m:Int} {s:List (Int×Int×Int)},Cv a s m→x.2.1=m→1≤x.2.2→x.2.2≤4→Cv a (s++[x]) (m+x.2.2)
 | a,m,[],h,c,e,f=>by
  simp only[Cv]at h;subst h;exact⟨c,e,f,rfl⟩
 | a,m,y::s,h,c,e,f=>⟨h.1,h.2.1,h.2.2.1,h.2.2.2.snoc c e f⟩
theorem JS{b:List Int}(hb:Bytes b)(hl:b.length≤4096):∃s,m6 b=some s∧Cv 0 s (b.length:Int)∧s.length≤b.length:=by
 obtain⟨r,f,j⟩:=cH (body:=jH b) (fun s=>∃a:Nat,s.2=(a:Int)∧a≤b.length∧Cv 0 s.1 (a:Int)∧s.1.length≤a) (fun s=>b.length - s.2.toNat) (fun r=>Cv 0 r (b.length:Int)∧r.length≤b.length) (by
  rintro⟨out,k⟩ ⟨a,rfl,ha,c,e⟩;simp only at c e;by_cases h:a<b.length
  ·left
   obtain⟨p,q,m⟩:=HI h;have h':(a:Int)<(b.length:Int):=by omega
   refine⟨(out++[((ud b a).1,((a:Int),((ud b a).2:Int)))],((a+(ud b a).2:Nat):Int)),?_,⟨a+(ud b a).2,rfl,m,?_,by simp;omega⟩,by simp only[Int.toNat_natCast];omega⟩
   ·simp only[jH,h',decide_true,if_true,Dm hb (by omega) h,Option.bind,List.length_singleton];rw[if_pos (by omega),wrap_i64 (by omega) (by omega)];rfl
   ·have:=c.snoc (x:=((ud b a).1,((a:Int),((ud b a).2:Int)))) rfl (by simp only;omega) (by simp only;omega);simpa using this
  ·right
   obtain rfl:a=b.length:=by omega
   exact⟨out,by simp[jH],c,e⟩) (s:=([],0)) ⟨0,rfl,by omega,rfl,by simp⟩
 refine⟨r,?_,j⟩;unfold m6;rw[f];rfl
theorem Eu{t:Option ((ew 4352)×List (ew 256))}{f:Int→Int}(q:ta t f){s:List (Int×Int×Int)}(z:s.length≤4096):b9 t s=some (s.map fun x=>f x.1):=by
 have j:aZ t=fun r=>some (f r):=q
 have u:iter (cW t s) (List.replicate s.length 0,((0:Nat):Int))=some (s.map fun x=>f x.1):=by
  refine dL (fun k=>((s.take k).map (fun x=>f x.1)++List.replicate (s.length - k) 0,(k:Int))) s.length (fun k m=> ?_) ?_ |> fun h=>by simpa using h
  ·have p:(k:Int)<(s.length:Int):=by omega
   have v:0≤(k:Int):=by omega
   have c:((s.take k).map (fun x:Int×Int×Int=>f x.1)++List.replicate (s.length - k) (0:Int)).length=s.length:=by simp;omega
   have e:((s.take k).map (fun x=>f x.1)++List.replicate (s.length - k) (0:Int)).set k (f (s.getD k (0,(0,0))).1)=(s.take (k+1)).map (fun x=>f x.1)++List.replicate (s.length - (k+1)) 0:=by rw[nH (d:=(0,(0,0))) m,List.map_append,List.set_append_right _ _ (by simp;omega),List.length_map,List.length_take,Nat.min_eq_left (by omega),Nat.sub_self,show s.length - k=(s.length - (k+1))+1 by omega,List.replicate_succ,List.set_cons_zero];simp
   simp only[cW,p,v,c,m,and_self,decide_true,if_true,Int.toNat_natCast,j,Option.bind,e];rw[wrap_i64 (by omega) (by omega)];rfl
  ·have p:¬((s.length:Int)<(s.length:Int)):=by omega
   simp[cW]
 unfold b9;rw[if_pos (by omega),Int.toNat_natCast];exact congrArg (fun x=>Option.bind x fun o=>some o) u
end Go.Proofs.YtmcemnfjddoejaaGreatDoor.T
