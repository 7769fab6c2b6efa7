import Derived.Test.YtobbjfkfmdiklaaGreatDoorTvT50eTopEdges
import Derived.Test.YtobbjfkfmdiklaaGreatDoorTvYm
import Derived.KernelRfl
namespace Go.Proofs.YtobbjfkfmdiklaaGreatDoor.T
open Go Go.Tv Go.Proofs
open Go.IntKind (i32 i64)
noncomputable section
def DD(l:Qx):Nat→Int→QK
 | 0,_=>[]
 | n+1,r=>atR l r::DD l n (r+1)
theorem Ck(l):∀n r,(DD l n r).length=n
 | 0,_=>rfl
 | n+1,r=>by simp[DD,Ck l n]
theorem Cs(l):∀n r c,c<n→(DD l n r).getD c 0=atR l (r+c)
 | n+1,r,0,_=>by simp[DD]
 | n+1,r,c+1,h=>by
  simp only[DD,List.getD_cons_succ];rw[Cs l n (r+1) c (by omega)];congr 1;omega
def Du(l:Qx):Nat→Int→List (fh 256)
 | 0,_=>[]
 | n+1,i=>⟨DD l 256 (256*i),Ck l 256 _⟩::Du l n (i+1)
theorem Cy(l):∀n i,(Du l n i).length=n
 | 0,_=>rfl
 | n+1,i=>by simp[Du,Cy l n]
theorem Bt(l):∀n i q,q<n→∀c:Nat,c<256→fF ((Du l n i).getD q (dx 256)) c=atR l (256*(i+q)+c)
 | n+1,i,0,_,c,hc=>by
  simp only[Du,List.getD_cons_zero,fF];rw[Cs l 256 _ c hc];congr 1;omega
 | n+1,i,q+1,h,c,hc=>by
  simp only[Du,List.getD_cons_succ];rw[Bt l n (i+1) q (by omega) c hc];congr 1;omega
def DO:Nat→Int→QK
 | 0,_=>[]
 | n+1,i=>i::DO n (i+1)
theorem BG:∀n i,(DO n i).length=n
 | 0,_=>rfl
 | n+1,i=>by simp[DO,BG n]
theorem CH:∀n i j,j<n→(DO n i).getD j 0=i+j
 | n+1,i,0,_=>by simp[DO]
 | n+1,i,j+1,h=>by
  simp only[DO,List.getD_cons_succ];rw[CH n (i+1) j (by omega)];omega
def JE(l:Qx):(fh 4352)×List (fh 256):=(⟨DO 4352 0,BG _ _⟩,Du l 4352 0)
theorem z7{l:Qx}(q:Rp l):oq (some (JE l)) (Gs l):=by
 refine G8 q fun j p=>⟨j,?_,?_,fun c hc=>?_⟩
 ·simp only[fF];rw[CH _ _ _ p];omega
 ·rw[Cy];exact p
 ·rw[Bt l 4352 0 j p c hc];congr 1;omega
theorem xm{t c:Option ((fh 4352)×List (fh 256))}(h:bf t=bf c)(l:Qx):cD t l=cD c l:=by
 unfold cD dv;rw[h]
theorem CB{t c:Option ((fh 4352)×List (fh 256))}(h:bf t=bf c)(l:Qx)(j p:QK)(q:List Bool):gz l j p q t=gz l j p q c:=by
 unfold gz lA dz;rw[h]
theorem D8{j p h q u v z A B}(h1:bf q=bf z)(h2:bf u=bf A)(C:bf v=bf B)(x:QK):
  ba (some (j,p,q,u,v,h)) x=ba (some (j,p,z,A,B,h)) x:=by
 unfold ba;simp only[Option.getD,Option.isNone,Option.isSome,xm h1,xm h2,CB C]
/-! ### D example -/
def jW:Qx:=[(10,(10,2)),(32,(32,1))]
def mj:Qx:=[(32,(126,1))]
def GK:QX:=[99,108,97,115,115,32,79,59,32,109,97,121,32,79,32,47,32,79,59]
def GG:QX:=[99,108,97,115,115,32,79,32,83,32,78,59,32,107,101,101,112,32,83,32,47,32,83,59,32,109,97,121,32,83,32,47,32,46,59,32,109,117,115,116,32,78,32,47,32,46,59,32,107,101,101,112,32,46,32,47,32,46,59]
def GI:=((iX GK).getD (none,0,0)).1
def GM:=((iX GG).getD (none,0,0)).1
def MP:=((mZ [] [] 2 2).getD (none,0,0)).1
theorem JO:iX GK=some (GI,0,0):=by kernel_rfl
theorem IS:iX GG=some (GM,0,0):=by kernel_rfl
theorem KG:mZ [] [] 2 2=some (MP,0,0):=by kernel_rfl
theorem NC:cr GI=some 1:=by kernel_rfl
theorem Nk:cr GM=some 3:=by kernel_rfl
theorem zb{l:Qx}{most:Int}(h:uw l most=true):∃t,fW l most=some (some t,0)∧oq (some t) (Gs l):=by
 rcases uF l most with⟨_,h2⟩ | ⟨t,e,_,f⟩
 ·rw[h]at h2;cases h2
 ·exact⟨t,e,f⟩
theorem Mg:∃j p q,jS [] jW mj [] GK GG [] 2 2=some (some (GI,GM,some j,some p,some q,MP),0,0)∧oq (some j) (Gs [])∧oq (some p) (Gs jW)∧oq (some q) (Gs mj):=by
 obtain⟨j,u,v⟩:=zb (l:=[]) (most:=1) (by decide);obtain⟨p,x,z⟩:=zb (l:=jW) (most:=3) (by decide);obtain⟨q,A,B⟩:=zb (l:=mj) (most:=3) (by decide);refine⟨j,p,q,?_,v,z,B⟩;unfold jS;rw[JO,IS];simp only[Option.bind,NC,Nk,u,x,A,KG];rfl
theorem zf:Rp []∧Rp jW∧Rp mj:=⟨oT (most:=1) (by decide),oT (most:=3) (by decide),oT (most:=3) (by decide)⟩
def NM:Option Z1:=some (GI,GM,some (JE []),some (JE jW),some (JE mj),MP)
theorem KZ{j p q}(u:oq (some j) (Gs []))(v:oq (some p) (Gs jW))(z:oq (some q) (Gs mj))(x:QK):
  ba (some (GI,GM,some j,some p,some q,MP)) x=ba NM x :=
 D8 (u.trans (z7 zf.1).symm) (v.trans (z7 zf.2.1).symm) (z.trans (z7 zf.2.2).symm) x
end
end Go.Proofs.YtobbjfkfmdiklaaGreatDoor.T
namespace Go.Proofs.YtobbjfkfmdiklaaGreatDoor.T
open Go Go.Tv Go.Proofs
open Go.IntKind (i32 i64)
def Bytes(b:QK):Prop:=∀x∈b,0≤x∧x≤255
theorem Bytes.get{b:QK}(h:Bytes b)(i:Nat):0≤b.getD i 0∧b.getD i 0≤255:=by
 rcases Nat.lt_or_ge i b.length with hi | hi
 ·exact h _ (sN hi)
 ·rw[List.getD_eq_getElem?_getD,List.getElem?_eq_none hi];simp
def gS(c:Int):Nat:=if c<128 then 1 else if 194≤c∧c≤223 then 2 else if 224≤c∧c≤239 then 3 else if 240≤c∧c≤244 then 4 else 0
def J5(c:Int):Int:=if c=224 then 160 else if c=240 then 144 else 128
def J4(c:Int):Int:=if c=237 then 159 else if c=244 then 143 else 191
theorem I5(c:Int):mX c=some (if gS c≤1 then((gS c:Int),0,0)else((gS c:Int),J5 c,J4 c)):=by
 unfold mX gS J5 J4;by_cases h1:c<128
 ·rw[if_pos (by simpa using h1),if_pos h1,if_pos (by omega)];rfl
 rw[if_neg (by simpa using h1),if_neg h1];by_cases h2:c<194
 ·rw[if_pos (by simpa using h2),if_neg (c:=194≤c∧c≤223) (by omega),if_neg (c:=224≤c∧c≤239) (by omega),if_neg (c:=240≤c∧c≤244) (by omega)];rfl
 rw[if_neg (by simpa using h2)];by_cases q:c > 244
 ·rw[if_neg (c:=194≤c∧c≤223) (by omega),if_neg (c:=224≤c∧c≤239) (by omega),if_neg (c:=240≤c∧c≤244) (by omega)];simp only[Option.bind_some];rw[if_pos (by simpa using q)];rfl
 simp only[Option.bind_some];rw[if_neg (by simpa using q)];by_cases u:c<224
 ·rw[if_pos (by simpa using u),if_pos (c:=194≤c∧c≤223) (by omega),if_neg (by omega),if_neg (c:=c=224) (by omega),if_neg (c:=c=240) (by omega),if_neg (c:=c=237) (by omega),if_neg (c:=c=244) (by omega)];rfl
 rw[if_neg (by simpa using u),if_neg (c:=194≤c∧c≤223) (by omega)];by_cases v:c≤239
 ·rw[if_pos (c:=224≤c∧c≤239) (by omega),if_neg (c:=(3:Nat)≤1) (by omega),if_neg (c:=c=240) (by omega),if_neg (c:=c=244) (by omega)];by_cases j:c=224
  ·subst j;rfl
  rw[if_neg (by simpa using j),if_neg j];by_cases p:c=237
  ·subst p;rfl
  rw[if_neg (by simpa using p),if_neg p,if_pos (by simp only[decide_eq_true_eq];omega)];rfl
 rw[if_neg (c:=224≤c∧c≤239) (by omega),if_pos (c:=240≤c∧c≤244) (by omega),if_neg (c:=(4:Nat)≤1) (by omega),if_neg (c:=c=224) (by omega),if_neg (c:=c=237) (by omega),
  if_neg (by simp only[beq_iff_eq];omega),if_neg (by simp only[beq_iff_eq];omega),if_neg (by simp only[decide_eq_true_eq];omega)]
 by_cases j:c=240
 ·subst j;rfl
 rw[if_neg (by simpa using j),if_neg j];by_cases p:c=244
 ·subst p;rfl
 rw[if_neg (by simpa using p),if_neg p];rfl
theorem u4(c:Int):gS c≤4:=by unfold gS;split;omega;split;omega;split;omega;split <;> omega
def Js(b:QK)(a k:Nat):Bool:=decide (a+k<b.length∧(if k=1 then J5 (b.getD a 0)else 128)≤b.getD (a+k) 0∧b.getD (a+k) 0≤(if k=1 then J4 (b.getD a 0)else 191))
def iB(b:QK)(a:Nat):Nat:=my (fun j=> !Js b a (j+1)) (gS (b.getD a 0) - 1)
def qR(b:QK)(a:Nat):Nat→Int
 | 0=>b.getD a 0 % ((2 ^ (7 - gS (b.getD a 0)):Nat):Int)
 | k+1=>qR b a k*64+(b.getD (a+(k+1)) 0 - 128)
def sQ(b:QK)(a:Nat):Int×Nat :=
 if gS (b.getD a 0)≤1 then(if gS (b.getD a 0)=1 then b.getD a 0 else 65533,1)
 else if iB b a=gS (b.getD a 0) - 1 then(qR b a (iB b a),iB b a+1)else(65533,iB b a+1)
theorem EX(b:QK)(a:Nat):iB b a≤gS (b.getD a 0) - 1:=yG _ _
theorem zN{b:QK}{a k:Nat}(h1:1≤k)(h2:k≤iB b a):Js b a k=true:=by
 have:=yZ (fun j=> !Js b a (j+1)) (gS (b.getD a 0) - 1) (j:=k - 1) (by unfold iB at h2;omega);rw[show k - 1+1=k by omega]at this;simpa using this
theorem Ih{b:QK}{a:Nat}(h:iB b a<gS (b.getD a 0) - 1):Js b a (iB b a+1)=false:=by
 have:=yH (fun j=> !Js b a (j+1)) (gS (b.getD a 0) - 1) h;simp only[Bool.not_eq_true']at this;exact this
theorem DG{b:QK}{a k:Nat}(h:Js b a k=true):a+k<b.length∧128≤b.getD (a+k) 0∧b.getD (a+k) 0≤191:=by
 unfold Js at h;simp only[decide_eq_true_eq]at h;have h1:128≤J5 (b.getD a 0):=by unfold J5;split;omega;split <;> omega
 have h2:J4 (b.getD a 0)≤191:=by unfold J4;split;omega;split <;> omega
 split at h <;> omega
theorem Er{b:QK}{a:Nat}(hl:2≤gS (b.getD a 0)):∀k,k≤iB b a→0≤qR b a k∧qR b a k<32*((64 ^ k:Nat):Int)
 | 0,_=>by
  have p:=u4 (b.getD a 0);simp only[qR];have hp:(2:Nat) ^ (7 - gS (b.getD a 0))≤2 ^ 5:=Nat.pow_le_pow_right (by decide) (by omega);have j:0<(2:Nat) ^ (7 - gS (b.getD a 0)):=Nat.pow_pos (by decide);have q:(2:Nat) ^ 5=32:=by decide
  have:=Int.emod_nonneg (b.getD a 0) (show((2 ^ (7 - gS (b.getD a 0)):Nat):Int)≠0 by omega);have:=Int.emod_lt_of_pos (b.getD a 0) (show 0<((2 ^ (7 - gS (b.getD a 0)):Nat):Int) by omega);simp only[Nat.pow_zero];omega
 | k+1,hk=>by
  have u:=Er hl k (by omega);have v:=DG (zN (b:=b) (a:=a) (k:=k+1) (by omega) hk);simp only[qR];have e:((64 ^ (k+1):Nat):Int)=((64 ^ k:Nat):Int)*64:=by rw[Nat.pow_succ];omega
  rw[e];omega
theorem HK(b:QK)(a:Nat):iB b a≤3:=by have:=EX b a;have:=u4 (b.getD a 0);omega
section
variable{b:QK}(hb:Bytes b)(hl:b.length≤1000000)
include hb hl
omit hb in
theorem KV{a:Nat}(ha:a<b.length)(h2:2≤gS (b.getD a 0)):
  iter (iG b (a:Int) (gS (b.getD a 0):Int)) (J5 (b.getD a 0),J4 (b.getD a 0),(1:Int),qR b a 0,(1:Int)) =
   some (if iB b a=gS (b.getD a 0) - 1 then Sum.inl (((iB b a+1:Nat):Int),qR b a (iB b a))else Sum.inr ((65533:Int),((a:Int),((iB b a+1:Nat):Int)))):=by
 have hc:=EX b a;have I:=HK b a;have O:=u4 (b.getD a 0);have hi:=iz (body:=iG b (a:Int) (gS (b.getD a 0):Int)) (fun j=>(if j=0 then J5 (b.getD a 0)else 128,if j=0 then J4 (b.getD a 0)else 191,((j+1:Nat):Int),qR b a j,((j+1:Nat):Int))) (iB b a)
  (r:=if iB b a=gS (b.getD a 0) - 1 then Sum.inl (((iB b a+1:Nat):Int),qR b a (iB b a))else Sum.inr ((65533:Int),((a:Int),((iB b a+1:Nat):Int)))) (fun j V=>by
   have A:=zN (b:=b) (a:=a) (k:=j+1) (by omega) (by omega);have hin:=DG A;have u:=Er h2 j (by omega);unfold Js at A;simp only[decide_eq_true_eq,Nat.add_eq_right]at A;have D:((64 ^ j:Nat):Int)≤4096:=by have:(64:Nat) ^ j≤64 ^ 2:=Nat.pow_le_pow_right (by decide) (by omega);omega
   have B:i64.wrap ((a:Int)+((j+1:Nat):Int))=((a+(j+1):Nat):Int):=by rw[wrap_i64 (by omega) (by omega)];omega
   have J:i64.wrap (((j+1:Nat):Int)+1)=((j+1+1:Nat):Int):=by rw[wrap_i64 (by omega) (by omega)];omega
   have L:bitsOf .and .u8 (b.getD (a+(j+1)) 0) 63=b.getD (a+(j+1)) 0 - 128:=by
    have:=LI (x:=b.getD (a+(j+1)) 0) (by omega) (by omega) (k:=6) (by decide);have C:((2 ^ 6 - 1:Nat):Int)=63:=by decide
    have p:((2 ^ 6:Nat):Int)=64:=by decide
    rw[C,p]at this;omega
   have M:i32.wrap (b.getD (a+(j+1)) 0 - 128)=b.getD (a+(j+1)) 0 - 128:=wrap_i32 (by omega) (by omega);have N:bitsOf .or .i32 (i32.wrap (qR b a j*2 ^ (min (6:Int).toNat i32.bits))) (b.getD (a+(j+1)) 0 - 128)=qR b a (j+1):=by
    have p:((2 ^ 6:Nat):Int)=64:=by decide
    have v:(2:Int) ^ (min (6:Int).toNat i32.bits)=64:=by decide
    have:=Lm (a:=qR b a j) (y:=b.getD (a+(j+1)) 0 - 128) (k:=6) u.1 (by omega) (by omega) (by omega);rw[p]at this;rw[v,wrap_i32 (by omega) (by omega),this];rfl
   simp only[iG,B,J,Int.toNat_natCast,L,M,N];rw[if_pos (by simp only[decide_eq_true_eq];omega),if_neg (by simp only[decide_eq_true_eq];omega),if_pos ⟨by omega,by omega⟩,if_neg (by simp only[decide_eq_true_eq];omega),if_pos ⟨by omega,by omega⟩];simp only[Option.bind_some];rw[if_neg (by simp only[decide_eq_true_eq];omega),if_pos (by decide),if_pos ⟨by omega,by omega⟩];simp only[Nat.add_one_ne_zero,if_false]) (by
   have B:i64.wrap ((a:Int)+((iB b a+1:Nat):Int))=((a+(iB b a+1):Nat):Int):=by rw[wrap_i64 (by omega) (by omega)];omega
   simp only[iG,B,Int.toNat_natCast];by_cases q:iB b a=gS (b.getD a 0) - 1
   ·rw[if_neg (by simp only[decide_eq_true_eq];omega),if_pos q]
   ·have z:=Ih (b:=b) (a:=a) (by omega);rw[if_pos (by simp only[decide_eq_true_eq];omega),if_neg q];unfold Js at z;simp only[decide_eq_false_iff_not,Nat.add_eq_right]at z;by_cases X:a+(iB b a+1)<b.length
    ·rw[if_neg (by simp only[decide_eq_true_eq];omega),if_pos ⟨by omega,by omega⟩];by_cases E:b.getD (a+(iB b a+1)) 0<(if iB b a=0 then J5 (b.getD a 0)else 128)
     ·rw[if_pos (by simpa using E)];rfl
     ·rw[if_neg (by simpa using E),if_pos ⟨by omega,by omega⟩];have:decide (b.getD (a+(iB b a+1)) 0 > (if iB b a=0 then J4 (b.getD a 0)else 191))=true:=by simp only[decide_eq_true_eq];omega
      rw[this];rfl
    ·rw[if_pos (by simp only[decide_eq_true_eq];omega)];rfl)
 exact hi
theorem Df{a:Nat}(ha:a<b.length):pd b (a:Int)=some ((sQ b a).1,((a:Int),((sQ b a).2:Int))):=by
 have hc:=hb.get a;have j:=u4 (b.getD a 0);unfold pd sQ;rw[if_neg (by simp only[decide_eq_true_eq];omega)];simp only[Option.bind_some];rw[if_neg (by simp only[decide_eq_true_eq];omega),if_pos ⟨by omega,by omega⟩,Int.toNat_natCast,I5];simp only[Option.bind_some];by_cases h1:gS (b.getD a 0)≤1
 ·rw[if_pos h1,if_pos h1];simp only;rw[if_pos (by simp only[decide_eq_true_eq];omega)];by_cases h2:gS (b.getD a 0)=1
  ·rw[if_pos (by simp only[beq_iff_eq];omega),if_pos ⟨by omega,by omega⟩,if_pos h2,wrap_i32 (by omega) (by omega)];rfl
  ·rw[if_neg (by simp only[beq_iff_eq];omega),if_neg h2];rfl
 ·rw[if_neg h1,if_neg h1];simp only;have p:bitsOf .and .i32 (i32.wrap (b.getD a 0)) (Int.fdiv (127:Int) (2 ^ (min (gS (b.getD a 0):Int).toNat i32.bits)))=qR b a 0:=by
   have u:Int.fdiv (127:Int) (2 ^ (min (gS (b.getD a 0):Int).toNat i32.bits))=((2 ^ (7 - gS (b.getD a 0)) - 1:Nat):Int):=by
    generalize gS (b.getD a 0)=n at h1 j;have:n=2∨n=3∨n=4:=by omega
    rcases this with rfl | rfl | rfl <;> decide
   rw[u,wrap_i32 (by omega) (by omega),EY hc.1 (by omega) (by omega)];rfl
  rw[if_neg (by simp only[decide_eq_true_eq];omega),if_pos ⟨by omega,by omega⟩,if_pos (by omega),p,KV hl ha (by omega)];simp only[Option.bind_some];by_cases q:iB b a=gS (b.getD a 0) - 1
  ·rw[if_pos q,if_pos q]
  ·rw[if_neg q,if_neg q]
end
theorem GA{b:QK}{a:Nat}(ha:a<b.length):1≤(sQ b a).2∧(sQ b a).2≤4∧a+(sQ b a).2≤b.length:=by
 have j:=HK b a;have key:a+(iB b a+1)≤b.length:=by
  rcases Nat.eq_zero_or_pos (iB b a)with e | e
  ·omega
  ·have:=(DG (zN (b:=b) (a:=a) e (Nat.le_refl _))).1;omega
 unfold sQ;split
 ·exact⟨Nat.le_refl _,by simp,ha⟩
 ·split
  ·exact⟨by simp,by simp only;omega,key⟩
  ·exact⟨by simp,by simp only;omega,key⟩
def Cv:Int→Qx→Int→Prop
 | a,[],n=>a=n
 | a,x::r,n=>x.2.1=a∧1≤x.2.2∧x.2.2≤4∧Cv (a+x.2.2) r n
theorem Cv.snoc{x:Int×Int×Int}:∀ {a m:Int} {s:Qx},Cv a s m→x.2.1=m→1≤x.2.2→x.2.2≤4→Cv a (s++[x]) (m+x.2.2)
 | a,m,[],h,h1,h2,j=>by
  simp only[Cv]at h;subst h;exact⟨h1,h2,j,rfl⟩
 | a,m,y::s,h,h1,h2,j=>⟨h.1,h.2.1,h.2.2.1,h.2.2.2.snoc h1 h2 j⟩
theorem HV{b:QK}(hb:Bytes b)(hl:b.length≤4096):∃s,mR b=some s∧Cv 0 s (b.length:Int)∧s.length≤b.length:=by
 obtain⟨r,h1,h2⟩:=dG (body:=jX b) (fun s=>∃a:Nat,s.2=(a:Int)∧a≤b.length∧Cv 0 s.1 (a:Int)∧s.1.length≤a) (fun s=>b.length - s.2.toNat) (fun r=>Cv 0 r (b.length:Int)∧r.length≤b.length) (by
  rintro⟨out,p⟩ ⟨a,rfl,ha,hc,j⟩;simp only at hc j;by_cases h:a<b.length
  ·left
   obtain⟨u,v,q⟩:=GA h;have h':(a:Int)<(b.length:Int):=by omega
   refine⟨(out++[((sQ b a).1,((a:Int),((sQ b a).2:Int)))],((a+(sQ b a).2:Nat):Int)),?_,⟨a+(sQ b a).2,rfl,q,?_,by simp;omega⟩,by simp only[Int.toNat_natCast];omega⟩
   ·simp only[jX,h',decide_true,if_true,Df hb (by omega) h,Option.bind,List.length_singleton];rw[if_pos (by omega),wrap_i64 (by omega) (by omega)];rfl
   ·have:=hc.snoc (x:=((sQ b a).1,((a:Int),((sQ b a).2:Int)))) rfl (by simp only;omega) (by simp only;omega);simpa using this
  ·right
   obtain rfl:a=b.length:=by omega
   exact⟨out,by simp[jX],hc,j⟩) (s:=([],0)) ⟨0,rfl,by omega,rfl,by simp⟩
 refine⟨r,?_,h2⟩;unfold mR;rw[h1];rfl
theorem ER{t:Option ((fh 4352)×List (fh 256))}{f:Int→Int}(ht:oq t f){s:Qx}(v:s.length≤4096):cD t s=some (s.map fun x=>f x.1):=by
 have q:bf t=fun r=>some (f r):=ht
 have u:iter (dv t s) (List.replicate s.length 0,((0:Nat):Int))=some (s.map fun x=>f x.1):=by
  refine iz (fun k=>((s.take k).map (fun x=>f x.1)++List.replicate (s.length - k) 0,(k:Int))) s.length (fun k hk=>?_) ?_ |> fun h=>by simpa using h
  ·have h1:(k:Int)<(s.length:Int):=by omega
   have h2:0≤(k:Int):=by omega
   have j:((s.take k).map (fun x:Int×Int×Int=>f x.1)++List.replicate (s.length - k) (0:Int)).length=s.length:=by simp;omega
   have p:((s.take k).map (fun x=>f x.1)++List.replicate (s.length - k) (0:Int)).set k (f (s.getD k (0,(0,0))).1)=(s.take (k+1)).map (fun x=>f x.1)++List.replicate (s.length - (k+1)) 0:=by rw[qw (d:=(0,(0,0))) hk,List.map_append,List.set_append_right _ _ (by simp;omega),List.length_map,List.length_take,Nat.min_eq_left (by omega),Nat.sub_self,show s.length - k=(s.length - (k+1))+1 by omega,List.replicate_succ,List.set_cons_zero];simp
   simp only[dv,h1,h2,j,hk,and_self,decide_true,if_true,Int.toNat_natCast,q,Option.bind,p];rw[wrap_i64 (by omega) (by omega)];rfl
  ·have h1:¬((s.length:Int)<(s.length:Int)):=by omega
   simp[dv]
 unfold cD;rw[if_pos (by omega),Int.toNat_natCast];exact congrArg (fun x=>Option.bind x fun o=>some o) u
end Go.Proofs.YtobbjfkfmdiklaaGreatDoor.T
