import Derived.Test.YtobbjfkfmdiklaaGreatDoorTvT50aa
import Derived.Test.YtobbjfkfmdiklaaGreatDoorTvYm
import Derived.KernelRfl
namespace Go.Proofs.YtobbjfkfmdiklaaGreatDoor.T
open Go Go.Tv Go.Proofs
open Go.IntKind (i32 i64)
noncomputable section
def CN(l:Qx):Nat→Int→QK
 | 0,_=>[]
 | n+1,r=>atR l r::CN l n (r+1)
theorem AZ(l):∀n r,(CN l n r).length=n
 | 0,_=>rfl
 | n+1,r=>by simp[CN,AZ l n]
theorem Bf(l):∀n r c,c<n→(CN l n r).getD c 0=atR l (r+c)
 | n+1,r,0,_=>by simp[CN]
 | n+1,r,c+1,h=>by
  simp only[CN,List.getD_cons_succ];rw[Bf l n (r+1) c (by omega)];congr 1;omega
def CC(l:Qx):Nat→Int→List (eY 256)
 | 0,_=>[]
 | n+1,i=>⟨CN l 256 (256*i),AZ l 256 _⟩::CC l n (i+1)
theorem Bz(l):∀n i,(CC l n i).length=n
 | 0,_=>rfl
 | n+1,i=>by simp[CC,Bz l n]
theorem BS(l):∀n i q,q<n→∀c:Nat,c<256→fy ((CC l n i).getD q (dh 256)) c=atR l (256*(i+q)+c)
 | n+1,i,0,_,c,hc=>by
  simp only[CC,List.getD_cons_zero,fy];rw[Bf l 256 _ c hc];congr 1;omega
 | n+1,i,q+1,h,c,hc=>by
  simp only[CC,List.getD_cons_succ];rw[BS l n (i+1) q (by omega) c hc];congr 1;omega
def Cl:Nat→Int→QK
 | 0,_=>[]
 | n+1,i=>i::Cl n (i+1)
theorem Ah:∀n i,(Cl n i).length=n
 | 0,_=>rfl
 | n+1,i=>by simp[Cl,Ah n]
theorem AF:∀n i j,j<n→(Cl n i).getD j 0=i+j
 | n+1,i,0,_=>by simp[Cl]
 | n+1,i,j+1,h=>by
  simp only[Cl,List.getD_cons_succ];rw[AF n (i+1) j (by omega)];omega
def HW(l:Qx):(eY 4352)×List (eY 256):=(⟨Cl 4352 0,Ah _ _⟩,CC l 4352 0)
theorem y7{l:Qx}(p:Rp l):n9 (some (HW l)) (F5 l):=by
 refine Hs p fun j f=>⟨j,?_,?_,fun c hc=>?_⟩
 ·simp only[fy];rw[AF _ _ _ f];omega
 ·rw[Bz];exact f
 ·rw[BS l 4352 0 j f c hc];congr 1;omega
theorem vg{t c:Option ((eY 4352)×List (eY 256))}(h:bd t=bd c)(l:Qx):cz t l=cz c l:=by
 unfold cz cY;rw[h]
theorem Ac{t c:Option ((eY 4352)×List (eY 256))}(h:bd t=bd c)(l:Qx)(f j:QK)(p:List Bool):gn l f j p t=gn l f j p c:=by
 unfold gn kY dv;rw[h]
theorem Cs{f j h p q u v z A}(h1:bd p=bd v)(h2:bd q=bd z)(B:bd u=bd A)(x:QK):
  ba (some (f,j,p,q,u,h)) x=ba (some (f,j,v,z,A,h)) x:=by
 unfold ba;simp only[Option.getD,Option.isNone,Option.isSome,vg h1,vg h2,Ac B]
/-! ### C example -/
def jP:Qx:=[(10,(10,2)),(32,(32,1))]
def lS:Qx:=[(32,(126,1))]
def GZ:QX:=[99,108,97,115,115,32,79,59,32,109,97,121,32,79,32,47,32,79,59]
def GA:QX:=[99,108,97,115,115,32,79,32,83,32,78,59,32,107,101,101,112,32,83,32,47,32,83,59,32,109,97,121,32,83,32,47,32,46,59,32,109,117,115,116,32,78,32,47,32,46,59,32,107,101,101,112,32,46,32,47,32,46,59]
def GV:=((iU GZ).getD (none,0,0)).1
def F4:=((iU GA).getD (none,0,0)).1
def Ly:=((mT [] [] 2 2).getD (none,0,0)).1
theorem Iw:iU GZ=some (GV,0,0):=by kernel_rfl
theorem IQ:iU GA=some (F4,0,0):=by kernel_rfl
theorem Jq:mT [] [] 2 2=some (Ly,0,0):=by kernel_rfl
theorem LW:cj GV=some 1:=by kernel_rfl
theorem Mj:cj F4=some 3:=by kernel_rfl
theorem zc{l:Qx}{most:Int}(h:tJ l most=true):∃t,fM l most=some (some t,0)∧n9 (some t) (F5 l):=by
 rcases tU l most with⟨_,h2⟩ | ⟨t,e,_,f⟩
 ·rw[h]at h2;cases h2
 ·exact⟨t,e,f⟩
theorem Ld:∃f j p,jH [] jP lS [] GZ GA [] 2 2=some (some (GV,F4,some f,some j,some p,Ly),0,0)∧n9 (some f) (F5 [])∧n9 (some j) (F5 jP)∧n9 (some p) (F5 lS):=by
 obtain⟨f,q,u⟩:=zc (l:=[]) (most:=1) (by decide);obtain⟨j,v,x⟩:=zc (l:=jP) (most:=3) (by decide);obtain⟨p,z,A⟩:=zc (l:=lS) (most:=3) (by decide);refine⟨f,j,p,?_,u,x,A⟩;unfold jH;rw[Iw,IQ];simp only[Option.bind,LW,Mj,q,v,z,Jq];rfl
theorem y3:Rp []∧Rp jP∧Rp lS:=⟨oU (most:=1) (by decide),oU (most:=3) (by decide),oU (most:=3) (by decide)⟩
def MF:Option Z1:=some (GV,F4,some (HW []),some (HW jP),some (HW lS),Ly)
theorem J6{f j p}(q:n9 (some f) (F5 []))(u:n9 (some j) (F5 jP))(v:n9 (some p) (F5 lS))(x:QK):
  ba (some (GV,F4,some f,some j,some p,Ly)) x=ba MF x :=
 Cs (q.trans (y7 y3.1).symm) (u.trans (y7 y3.2.1).symm) (v.trans (y7 y3.2.2).symm) x
end
end Go.Proofs.YtobbjfkfmdiklaaGreatDoor.T
namespace Go.Proofs.YtobbjfkfmdiklaaGreatDoor.T
open Go Go.Tv Go.Proofs
open Go.IntKind (i32 i64)
def Bytes(b:QK):Prop:=∀x∈b,0≤x∧x≤255
theorem Bytes.get{b:QK}(h:Bytes b)(i:Nat):0≤b.getD i 0∧b.getD i 0≤255:=by
 rcases Nat.lt_or_ge i b.length with hi | hi
 ·exact h _ (yv hi)
 ·rw[List.getD_eq_getElem?_getD,List.getElem?_eq_none hi];simp
def gL(c:Int):Nat:=if c<128 then 1 else if 194≤c∧c≤223 then 2 else if 224≤c∧c≤239 then 3 else if 240≤c∧c≤244 then 4 else 0
def Jd(c:Int):Int:=if c=224 then 160 else if c=240 then 144 else 128
def I8(c:Int):Int:=if c=237 then 159 else if c=244 then 143 else 191
theorem IB(c:Int):mz c=some (if gL c≤1 then((gL c:Int),0,0)else((gL c:Int),Jd c,I8 c)):=by
 unfold mz gL Jd I8;by_cases h1:c<128
 ·rw[if_pos (by simpa using h1),if_pos h1,if_pos (by omega)];rfl
 rw[if_neg (by simpa using h1),if_neg h1];by_cases h2:c<194
 ·rw[if_pos (by simpa using h2),if_neg (c:=194≤c∧c≤223) (by omega),if_neg (c:=224≤c∧c≤239) (by omega),if_neg (c:=240≤c∧c≤244) (by omega)];rfl
 rw[if_neg (by simpa using h2)];by_cases p:c > 244
 ·rw[if_neg (c:=194≤c∧c≤223) (by omega),if_neg (c:=224≤c∧c≤239) (by omega),if_neg (c:=240≤c∧c≤244) (by omega)];simp only[Option.bind_some];rw[if_pos (by simpa using p)];rfl
 simp only[Option.bind_some];rw[if_neg (by simpa using p)];by_cases q:c<224
 ·rw[if_pos (by simpa using q),if_pos (c:=194≤c∧c≤223) (by omega),if_neg (by omega),if_neg (c:=c=224) (by omega),if_neg (c:=c=240) (by omega),if_neg (c:=c=237) (by omega),if_neg (c:=c=244) (by omega)];rfl
 rw[if_neg (by simpa using q),if_neg (c:=194≤c∧c≤223) (by omega)];by_cases u:c≤239
 ·rw[if_pos (c:=224≤c∧c≤239) (by omega),if_neg (c:=(3:Nat)≤1) (by omega),if_neg (c:=c=240) (by omega),if_neg (c:=c=244) (by omega)];by_cases f:c=224
  ·subst f;rfl
  rw[if_neg (by simpa using f),if_neg f];by_cases j:c=237
  ·subst j;rfl
  rw[if_neg (by simpa using j),if_neg j,if_pos (by simp only[decide_eq_true_eq];omega)];rfl
 rw[if_neg (c:=224≤c∧c≤239) (by omega),if_pos (c:=240≤c∧c≤244) (by omega),if_neg (c:=(4:Nat)≤1) (by omega),if_neg (c:=c=224) (by omega),if_neg (c:=c=237) (by omega),
  if_neg (by simp only[beq_iff_eq];omega),if_neg (by simp only[beq_iff_eq];omega),if_neg (by simp only[decide_eq_true_eq];omega)]
 by_cases f:c=240
 ·subst f;rfl
 rw[if_neg (by simpa using f),if_neg f];by_cases j:c=244
 ·subst j;rfl
 rw[if_neg (by simpa using j),if_neg j];rfl
theorem uD(c:Int):gL c≤4:=by unfold gL;split;omega;split;omega;split;omega;split <;> omega
def H7(b:QK)(a k:Nat):Bool:=decide (a+k<b.length∧(if k=1 then Jd (b.getD a 0)else 128)≤b.getD (a+k) 0∧b.getD (a+k) 0≤(if k=1 then I8 (b.getD a 0)else 191))
def ie(b:QK)(a:Nat):Nat:=mu (fun j=> !H7 b a (j+1)) (gL (b.getD a 0) - 1)
def ss(b:QK)(a:Nat):Nat→Int
 | 0=>b.getD a 0 % ((2 ^ (7 - gL (b.getD a 0)):Nat):Int)
 | k+1=>ss b a k*64+(b.getD (a+(k+1)) 0 - 128)
def sF(b:QK)(a:Nat):Int×Nat :=
 if gL (b.getD a 0)≤1 then(if gL (b.getD a 0)=1 then b.getD a 0 else 65533,1)
 else if ie b a=gL (b.getD a 0) - 1 then(ss b a (ie b a),ie b a+1)else(65533,ie b a+1)
theorem DL(b:QK)(a:Nat):ie b a≤gL (b.getD a 0) - 1:=yu _ _
theorem zd{b:QK}{a k:Nat}(h1:1≤k)(h2:k≤ie b a):H7 b a k=true:=by
 have:=xM (fun j=> !H7 b a (j+1)) (gL (b.getD a 0) - 1) (j:=k - 1) (by unfold ie at h2;omega);rw[show k - 1+1=k by omega]at this;simpa using this
theorem FT{b:QK}{a:Nat}(h:ie b a<gL (b.getD a 0) - 1):H7 b a (ie b a+1)=false:=by
 have:=yh (fun j=> !H7 b a (j+1)) (gL (b.getD a 0) - 1) h;simp only[Bool.not_eq_true']at this;exact this
theorem CJ{b:QK}{a k:Nat}(h:H7 b a k=true):a+k<b.length∧128≤b.getD (a+k) 0∧b.getD (a+k) 0≤191:=by
 unfold H7 at h;simp only[decide_eq_true_eq]at h;have h1:128≤Jd (b.getD a 0):=by unfold Jd;split;omega;split <;> omega
 have h2:I8 (b.getD a 0)≤191:=by unfold I8;split;omega;split <;> omega
 split at h <;> omega
theorem DU{b:QK}{a:Nat}(hl:2≤gL (b.getD a 0)):∀k,k≤ie b a→0≤ss b a k∧ss b a k<32*((64 ^ k:Nat):Int)
 | 0,_=>by
  have j:=uD (b.getD a 0);simp only[ss];have hp:(2:Nat) ^ (7 - gL (b.getD a 0))≤2 ^ 5:=Nat.pow_le_pow_right (by decide) (by omega);have f:0<(2:Nat) ^ (7 - gL (b.getD a 0)):=Nat.pow_pos (by decide);have p:(2:Nat) ^ 5=32:=by decide
  have:=Int.emod_nonneg (b.getD a 0) (show((2 ^ (7 - gL (b.getD a 0)):Nat):Int)≠0 by omega);have:=Int.emod_lt_of_pos (b.getD a 0) (show 0<((2 ^ (7 - gL (b.getD a 0)):Nat):Int) by omega);simp only[Nat.pow_zero];omega
 | k+1,hk=>by
  have q:=DU hl k (by omega);have u:=CJ (zd (b:=b) (a:=a) (k:=k+1) (by omega) hk);simp only[ss];have e:((64 ^ (k+1):Nat):Int)=((64 ^ k:Nat):Int)*64:=by rw[Nat.pow_succ];omega
  rw[e];omega
theorem Fz(b:QK)(a:Nat):ie b a≤3:=by have:=DL b a;have:=uD (b.getD a 0);omega
section
variable{b:QK}(hb:Bytes b)(hl:b.length≤1000000)
include hb hl
omit hb in
theorem Jr{a:Nat}(ha:a<b.length)(h2:2≤gL (b.getD a 0)):
  iter (iu b (a:Int) (gL (b.getD a 0):Int)) (Jd (b.getD a 0),I8 (b.getD a 0),(1:Int),ss b a 0,(1:Int)) =
   some (if ie b a=gL (b.getD a 0) - 1 then Sum.inl (((ie b a+1:Nat):Int),ss b a (ie b a))else Sum.inr ((65533:Int),((a:Int),((ie b a+1:Nat):Int)))):=by
 have hc:=DL b a;have E:=Fz b a;have N:=uD (b.getD a 0);have hi:=ib (body:=iu b (a:Int) (gL (b.getD a 0):Int)) (fun j=>(if j=0 then Jd (b.getD a 0)else 128,if j=0 then I8 (b.getD a 0)else 191,((j+1:Nat):Int),ss b a j,((j+1:Nat):Int))) (ie b a)
  (r:=if ie b a=gL (b.getD a 0) - 1 then Sum.inl (((ie b a+1:Nat):Int),ss b a (ie b a))else Sum.inr ((65533:Int),((a:Int),((ie b a+1:Nat):Int)))) (fun j O=>by
   have z:=zd (b:=b) (a:=a) (k:=j+1) (by omega) (by omega);have hin:=CJ z;have p:=DU h2 j (by omega);unfold H7 at z;simp only[decide_eq_true_eq,Nat.add_eq_right]at z;have C:((64 ^ j:Nat):Int)≤4096:=by have:(64:Nat) ^ j≤64 ^ 2:=Nat.pow_le_pow_right (by decide) (by omega);omega
   have A:i64.wrap ((a:Int)+((j+1:Nat):Int))=((a+(j+1):Nat):Int):=by rw[wrap_i64 (by omega) (by omega)];omega
   have I:i64.wrap (((j+1:Nat):Int)+1)=((j+1+1:Nat):Int):=by rw[wrap_i64 (by omega) (by omega)];omega
   have J:bitsOf .and .u8 (b.getD (a+(j+1)) 0) 63=b.getD (a+(j+1)) 0 - 128:=by
    have:=Kt (x:=b.getD (a+(j+1)) 0) (by omega) (by omega) (k:=6) (by decide);have B:((2 ^ 6 - 1:Nat):Int)=63:=by decide
    have f:((2 ^ 6:Nat):Int)=64:=by decide
    rw[B,f]at this;omega
   have L:i32.wrap (b.getD (a+(j+1)) 0 - 128)=b.getD (a+(j+1)) 0 - 128:=wrap_i32 (by omega) (by omega);have M:bitsOf .or .i32 (i32.wrap (ss b a j*2 ^ (min (6:Int).toNat i32.bits))) (b.getD (a+(j+1)) 0 - 128)=ss b a (j+1):=by
    have f:((2 ^ 6:Nat):Int)=64:=by decide
    have u:(2:Int) ^ (min (6:Int).toNat i32.bits)=64:=by decide
    have:=JR (a:=ss b a j) (y:=b.getD (a+(j+1)) 0 - 128) (k:=6) p.1 (by omega) (by omega) (by omega);rw[f]at this;rw[u,wrap_i32 (by omega) (by omega),this];rfl
   simp only[iu,A,I,Int.toNat_natCast,J,L,M];rw[if_pos (by simp only[decide_eq_true_eq];omega),if_neg (by simp only[decide_eq_true_eq];omega),if_pos ⟨by omega,by omega⟩,if_neg (by simp only[decide_eq_true_eq];omega),if_pos ⟨by omega,by omega⟩];simp only[Option.bind_some];rw[if_neg (by simp only[decide_eq_true_eq];omega),if_pos (by decide),if_pos ⟨by omega,by omega⟩];simp only[Nat.add_one_ne_zero,if_false]) (by
   have A:i64.wrap ((a:Int)+((ie b a+1:Nat):Int))=((a+(ie b a+1):Nat):Int):=by rw[wrap_i64 (by omega) (by omega)];omega
   simp only[iu,A,Int.toNat_natCast];by_cases q:ie b a=gL (b.getD a 0) - 1
   ·rw[if_neg (by simp only[decide_eq_true_eq];omega),if_pos q]
   ·have v:=FT (b:=b) (a:=a) (by omega);rw[if_pos (by simp only[decide_eq_true_eq];omega),if_neg q];unfold H7 at v;simp only[decide_eq_false_iff_not,Nat.add_eq_right]at v;by_cases V:a+(ie b a+1)<b.length
    ·rw[if_neg (by simp only[decide_eq_true_eq];omega),if_pos ⟨by omega,by omega⟩];by_cases D:b.getD (a+(ie b a+1)) 0<(if ie b a=0 then Jd (b.getD a 0)else 128)
     ·rw[if_pos (by simpa using D)];rfl
     ·rw[if_neg (by simpa using D),if_pos ⟨by omega,by omega⟩];have:decide (b.getD (a+(ie b a+1)) 0 > (if ie b a=0 then I8 (b.getD a 0)else 191))=true:=by simp only[decide_eq_true_eq];omega
      rw[this];rfl
    ·rw[if_pos (by simp only[decide_eq_true_eq];omega)];rfl)
 exact hi
theorem CQ{a:Nat}(ha:a<b.length):o9 b (a:Int)=some ((sF b a).1,((a:Int),((sF b a).2:Int))):=by
 have hc:=hb.get a;have f:=uD (b.getD a 0);unfold o9 sF;rw[if_neg (by simp only[decide_eq_true_eq];omega)];simp only[Option.bind_some];rw[if_neg (by simp only[decide_eq_true_eq];omega),if_pos ⟨by omega,by omega⟩,Int.toNat_natCast,IB];simp only[Option.bind_some];by_cases h1:gL (b.getD a 0)≤1
 ·rw[if_pos h1,if_pos h1];simp only;rw[if_pos (by simp only[decide_eq_true_eq];omega)];by_cases h2:gL (b.getD a 0)=1
  ·rw[if_pos (by simp only[beq_iff_eq];omega),if_pos ⟨by omega,by omega⟩,if_pos h2,wrap_i32 (by omega) (by omega)];rfl
  ·rw[if_neg (by simp only[beq_iff_eq];omega),if_neg h2];rfl
 ·rw[if_neg h1,if_neg h1];simp only;have j:bitsOf .and .i32 (i32.wrap (b.getD a 0)) (Int.fdiv (127:Int) (2 ^ (min (gL (b.getD a 0):Int).toNat i32.bits)))=ss b a 0:=by
   have p:Int.fdiv (127:Int) (2 ^ (min (gL (b.getD a 0):Int).toNat i32.bits))=((2 ^ (7 - gL (b.getD a 0)) - 1:Nat):Int):=by
    generalize gL (b.getD a 0)=n at h1 f;have:n=2∨n=3∨n=4:=by omega
    rcases this with rfl | rfl | rfl <;> decide
   rw[p,wrap_i32 (by omega) (by omega),Dn hc.1 (by omega) (by omega)];rfl
  rw[if_neg (by simp only[decide_eq_true_eq];omega),if_pos ⟨by omega,by omega⟩,if_pos (by omega),j,Jr hl ha (by omega)];simp only[Option.bind_some];by_cases q:ie b a=gL (b.getD a 0) - 1
  ·rw[if_pos q,if_pos q]
  ·rw[if_neg q,if_neg q]
end
theorem Hr{b:QK}{a:Nat}(ha:a<b.length):1≤(sF b a).2∧(sF b a).2≤4∧a+(sF b a).2≤b.length:=by
 have f:=Fz b a;have key:a+(ie b a+1)≤b.length:=by
  rcases Nat.eq_zero_or_pos (ie b a)with e | e
  ·omega
  ·have:=(CJ (zd (b:=b) (a:=a) e (Nat.le_refl _))).1;omega
 unfold sF;split
 ·exact⟨Nat.le_refl _,by simp,ha⟩
 ·split
  ·exact⟨by simp,by simp only;omega,key⟩
  ·exact⟨by simp,by simp only;omega,key⟩
def Cv:Int→Qx→Int→Prop
 | a,[],n=>a=n
 | a,x::r,n=>x.2.1=a∧1≤x.2.2∧x.2.2≤4∧Cv (a+x.2.2) r n
theorem Cv.snoc{x:Int×Int×Int}:∀ {a m:Int} {s:Qx},Cv a s m→x.2.1=m→1≤x.2.2→x.2.2≤4→Cv a (s++[x]) (m+x.2.2)
 | a,m,[],h,h1,h2,f=>by
  simp only[Cv]at h;subst h;exact⟨h1,h2,f,rfl⟩
 | a,m,y::s,h,h1,h2,f=>⟨h.1,h.2.1,h.2.2.1,h.2.2.2.snoc h1 h2 f⟩
theorem FR{b:QK}(hb:Bytes b)(hl:b.length≤4096):∃s,mR b=some s∧Cv 0 s (b.length:Int)∧s.length≤b.length:=by
 obtain⟨r,h1,h2⟩:=dP (body:=jJ b) (fun s=>∃a:Nat,s.2=(a:Int)∧a≤b.length∧Cv 0 s.1 (a:Int)∧s.1.length≤a) (fun s=>b.length - s.2.toNat) (fun r=>Cv 0 r (b.length:Int)∧r.length≤b.length) (by
  rintro⟨out,j⟩ ⟨a,rfl,ha,hc,f⟩;simp only at hc f;by_cases h:a<b.length
  ·left
   obtain⟨q,u,p⟩:=Hr h;have h':(a:Int)<(b.length:Int):=by omega
   refine⟨(out++[((sF b a).1,((a:Int),((sF b a).2:Int)))],((a+(sF b a).2:Nat):Int)),?_,⟨a+(sF b a).2,rfl,p,?_,by simp;omega⟩,by simp only[Int.toNat_natCast];omega⟩
   ·simp only[jJ,h',decide_true,if_true,CQ hb (by omega) h,Option.bind,List.length_singleton];rw[if_pos (by omega),wrap_i64 (by omega) (by omega)];rfl
   ·have:=hc.snoc (x:=((sF b a).1,((a:Int),((sF b a).2:Int)))) rfl (by simp only;omega) (by simp only;omega);simpa using this
  ·right
   obtain rfl:a=b.length:=by omega
   exact⟨out,by simp[jJ],hc,f⟩) (s:=([],0)) ⟨0,rfl,by omega,rfl,by simp⟩
 refine⟨r,?_,h2⟩;unfold mR;rw[h1];rfl
theorem DH{t:Option ((eY 4352)×List (eY 256))}{f:Int→Int}(ht:n9 t f){s:Qx}(v:s.length≤4096):cz t s=some (s.map fun x=>f x.1):=by
 have q:bd t=fun r=>some (f r):=ht
 have u:iter (cY t s) (List.replicate s.length 0,((0:Nat):Int))=some (s.map fun x=>f x.1):=by
  refine ib (fun k=>((s.take k).map (fun x=>f x.1)++List.replicate (s.length - k) 0,(k:Int))) s.length (fun k hk=>?_) ?_ |> fun h=>by simpa using h
  ·have h1:(k:Int)<(s.length:Int):=by omega
   have h2:0≤(k:Int):=by omega
   have j:((s.take k).map (fun x:Int×Int×Int=>f x.1)++List.replicate (s.length - k) (0:Int)).length=s.length:=by simp;omega
   have p:((s.take k).map (fun x=>f x.1)++List.replicate (s.length - k) (0:Int)).set k (f (s.getD k (0,(0,0))).1)=(s.take (k+1)).map (fun x=>f x.1)++List.replicate (s.length - (k+1)) 0:=by rw[qy (d:=(0,(0,0))) hk,List.map_append,List.set_append_right _ _ (by simp;omega),List.length_map,List.length_take,Nat.min_eq_left (by omega),Nat.sub_self,show s.length - k=(s.length - (k+1))+1 by omega,List.replicate_succ,List.set_cons_zero];simp
   simp only[cY,h1,h2,j,hk,and_self,decide_true,if_true,Int.toNat_natCast,q,Option.bind,p];rw[wrap_i64 (by omega) (by omega)];rfl
  ·have h1:¬((s.length:Int)<(s.length:Int)):=by omega
   simp[cY]
 unfold cz;rw[if_pos (by omega),Int.toNat_natCast];exact congrArg (fun x=>Option.bind x fun o=>some o) u
end Go.Proofs.YtobbjfkfmdiklaaGreatDoor.T
