import Derived.Test.YtbedjpdfkmfplaaGreatDoorTvT21da
import Derived.Test.YtbedjpdfkmfplaaGreatDoorTvYm
import Derived.KernelRfl
namespace Go.Proofs.YtbedjpdfkmfplaaGreatDoor.T
open Go Go.Tv Go.Proofs
open Go.IntKind (i32 i64)
noncomputable section
def EY(l:Qx):Nat→Int→QK
 | 0,_=>[]
 | n+1,r=>atR l r::EY l n (r+1)
theorem BJ(l):∀n r,(EY l n r).length=n
 | 0,_=>rfl
 | n+1,r=>by simp[EY,BJ l n]
theorem Dk(l):∀n r c,c<n→(EY l n r).getD c 0=atR l (r+c)
 | n+1,r,0,_=>by simp[EY]
 | n+1,r,c+1,h=>by
  simp only[EY,List.getD_cons_succ];rw[Dk l n (r+1) c (by omega)];congr 1;omega
def Ev(l:Qx):Nat→Int→List (fG 256)
 | 0,_=>[]
 | n+1,i=>⟨EY l 256 (256*i),BJ l 256 _⟩::Ev l n (i+1)
theorem DL(l):∀n i,(Ev l n i).length=n
 | 0,_=>rfl
 | n+1,i=>by simp[Ev,DL l n]
theorem BC(l):∀n i q,q<n→∀c:Nat,c<256→fR ((Ev l n i).getD q (dC 256)) c=atR l (256*(i+q)+c)
 | n+1,i,0,_,c,e=>by
  simp only[Ev,List.getD_cons_zero,fR];rw[Dk l 256 _ c e];congr 1;omega
 | n+1,i,q+1,h,c,e=>by
  simp only[Ev,List.getD_cons_succ];rw[BC l n (i+1) q (by omega) c e];congr 1;omega
def EE:Nat→Int→QK
 | 0,_=>[]
 | n+1,i=>i::EE n (i+1)
theorem BQ:∀n i,(EE n i).length=n
 | 0,_=>rfl
 | n+1,i=>by simp[EE,BQ n]
theorem Bv:∀n i j,j<n→(EE n i).getD j 0=i+j
 | n+1,i,0,_=>by simp[EE]
 | n+1,i,j+1,h=>by
  simp only[EE,List.getD_cons_succ];rw[Bv n (i+1) j (by omega)];omega
def KL(l:Qx):(fG 4352)×List (fG 256):=(⟨EE 4352 0,BQ _ _⟩,Ev l 4352 0)
theorem Ar{l:Qx}(f:Rp l):pe (some (KL l)) (IP l):=by
 refine H8 f fun j e=>⟨j,?_,?_,fun c q=>?_⟩
 ·simp only[fR];rw[Bv _ _ _ e];omega
 ·rw[DL];exact e
 ·rw[BC l 4352 0 j e c q];congr 1;omega
theorem wK{t c:Option ((fG 4352)×List (fG 256))}(h:bh t=bh c)(l:Qx):cJ t l=cJ c l:=by
 unfold cJ dx;rw[h]
theorem Cr{t c:Option ((fG 4352)×List (fG 256))}(h:bh t=bh c)(l:Qx)(e f:QK)(j:List Bool):gS l e f j t=gS l e f j c:=by
 unfold gS lQ dG;rw[h]
theorem DZ{e f h j q u v z A}(B:bh j=bh v)(C:bh q=bh z)(D:bh u=bh A)(x:QK):
  aU (some (e,f,j,q,u,h)) x=aU (some (e,f,v,z,A,h)) x:=by
 unfold aU;simp only[Option.getD,Option.isNone,Option.isSome,wK B,wK C,Cr D]
/-! ### E example -/
def j7:Qx:=[(10,(10,2)),(32,(32,1))]
def mP:Qx:=[(32,(126,1))]
def Jq:QX:=[99,108,97,115,115,32,79,59,32,109,97,121,32,79,32,47,32,79,59]
def IA:QX:=[99,108,97,115,115,32,79,32,83,32,78,59,32,107,101,101,112,32,83,32,47,32,83,59,32,109,97,121,32,83,32,47,32,46,59,32,109,117,115,116,32,78,32,47,32,46,59,32,107,101,101,112,32,46,32,47,32,46,59]
def IW:=((jk Jq).getD (none,0,0)).1
def Im:=((jk IA).getD (none,0,0)).1
def NO:=((nT [] [] 2 2).getD (none,0,0)).1
theorem Kk:jk Jq=some (IW,0,0):=by kernel_rfl
theorem KH:jk IA=some (Im,0,0):=by kernel_rfl
theorem Ms:nT [] [] 2 2=some (NO,0,0):=by kernel_rfl
theorem Ox:cr IW=some 1:=by kernel_rfl
theorem OH:cr Im=some 3:=by kernel_rfl
theorem AQ{l:Qx}{most:Int}(h:u6 l most=true):∃t,gw l most=some (some t,0)∧pe (some t) (IP l):=by
 rcases vA l most with⟨_,j⟩ | ⟨t,e,_,f⟩
 ·rw[h]at j;cases j
 ·exact⟨t,e,f⟩
theorem NF:∃e f j,kx [] j7 mP [] Jq IA [] 2 2=some (some (IW,Im,some e,some f,some j,NO),0,0)∧pe (some e) (IP [])∧pe (some f) (IP j7)∧pe (some j) (IP mP):=by
 obtain⟨e,q,u⟩:=AQ (l:=[]) (most:=1) (by decide);obtain⟨f,v,z⟩:=AQ (l:=j7) (most:=3) (by decide);obtain⟨j,A,B⟩:=AQ (l:=mP) (most:=3) (by decide);refine⟨e,f,j,?_,u,z,B⟩;unfold kx;rw[Kk,KH];simp only[Option.bind,Ox,OH,q,v,A,Ms];rfl
theorem Bp:Rp []∧Rp j7∧Rp mP:=⟨pV (most:=1) (by decide),pV (most:=3) (by decide),pV (most:=3) (by decide)⟩
def OK:Option Z1:=some (IW,Im,some (KL []),some (KL j7),some (KL mP),NO)
theorem L2{e f j}(q:pe (some e) (IP []))(u:pe (some f) (IP j7))(v:pe (some j) (IP mP))(x:QK):
  aU (some (IW,Im,some e,some f,some j,NO)) x=aU OK x :=
 DZ (q.trans (Ar Bp.1).symm) (u.trans (Ar Bp.2.1).symm) (v.trans (Ar Bp.2.2).symm) x
end
end Go.Proofs.YtbedjpdfkmfplaaGreatDoor.T
namespace Go.Proofs.YtbedjpdfkmfplaaGreatDoor.T
open Go Go.Tv Go.Proofs
open Go.IntKind (i32 i64)
def Bytes(b:QK):Prop:=∀x∈b,0≤x∧x≤255
theorem Bytes.get{b:QK}(h:Bytes b)(i:Nat):0≤b.getD i 0∧b.getD i 0≤255:=by
 rcases Nat.lt_or_ge i b.length with hi | hi
 ·exact h _ (qt hi)
 ·rw[List.getD_eq_getElem?_getD,List.getElem?_eq_none hi];simp
def ij(c:Int):Nat:=if c<128 then 1 else if 194≤c∧c≤223 then 2 else if 224≤c∧c≤239 then 3 else if 240≤c∧c≤244 then 4 else 0
def K8(c:Int):Int:=if c=224 then 160 else if c=240 then 144 else 128
def La(c:Int):Int:=if c=237 then 159 else if c=244 then 143 else 191
theorem J9(c:Int):nM c=some (if ij c≤1 then((ij c:Int),0,0)else((ij c:Int),K8 c,La c)):=by
 unfold nM ij K8 La;by_cases j:c<128
 ·rw[if_pos (by simpa using j),if_pos j,if_pos (by omega)];rfl
 rw[if_neg (by simpa using j),if_neg j];by_cases q:c<194
 ·rw[if_pos (by simpa using q),if_neg (c:=194≤c∧c≤223) (by omega),if_neg (c:=224≤c∧c≤239) (by omega),if_neg (c:=240≤c∧c≤244) (by omega)];rfl
 rw[if_neg (by simpa using q)];by_cases u:c > 244
 ·rw[if_neg (c:=194≤c∧c≤223) (by omega),if_neg (c:=224≤c∧c≤239) (by omega),if_neg (c:=240≤c∧c≤244) (by omega)];simp only[Option.bind_some];rw[if_pos (by simpa using u)];rfl
 simp only[Option.bind_some];rw[if_neg (by simpa using u)];by_cases v:c<224
 ·rw[if_pos (by simpa using v),if_pos (c:=194≤c∧c≤223) (by omega),if_neg (by omega),if_neg (c:=c=224) (by omega),if_neg (c:=c=240) (by omega),if_neg (c:=c=237) (by omega),if_neg (c:=c=244) (by omega)];rfl
 rw[if_neg (by simpa using v),if_neg (c:=194≤c∧c≤223) (by omega)];by_cases z:c≤239
 ·rw[if_pos (c:=224≤c∧c≤239) (by omega),if_neg (c:=(3:Nat)≤1) (by omega),if_neg (c:=c=240) (by omega),if_neg (c:=c=244) (by omega)];by_cases e:c=224
  ·subst e;rfl
  rw[if_neg (by simpa using e),if_neg e];by_cases f:c=237
  ·subst f;rfl
  rw[if_neg (by simpa using f),if_neg f,if_pos (by simp only[decide_eq_true_eq];omega)];rfl
 rw[if_neg (c:=224≤c∧c≤239) (by omega),if_pos (c:=240≤c∧c≤244) (by omega),if_neg (c:=(4:Nat)≤1) (by omega),if_neg (c:=c=224) (by omega),if_neg (c:=c=237) (by omega),
  if_neg (by simp only[beq_iff_eq];omega),if_neg (by simp only[beq_iff_eq];omega),if_neg (by simp only[decide_eq_true_eq];omega)]
 by_cases e:c=240
 ·subst e;rfl
 rw[if_neg (by simpa using e),if_neg e];by_cases f:c=244
 ·subst f;rfl
 rw[if_neg (by simpa using f),if_neg f];rfl
theorem wm(c:Int):ij c≤4:=by unfold ij;split;omega;split;omega;split;omega;split <;> omega
def Kb(b:QK)(a k:Nat):Bool:=decide (a+k<b.length∧(if k=1 then K8 (b.getD a 0)else 128)≤b.getD (a+k) 0∧b.getD (a+k) 0≤(if k=1 then La (b.getD a 0)else 191))
def iU(b:QK)(a:Nat):Nat:=mX (fun j=> !Kb b a (j+1)) (ij (b.getD a 0) - 1)
def ta(b:QK)(a:Nat):Nat→Int
 | 0=>b.getD a 0 % ((2 ^ (7 - ij (b.getD a 0)):Nat):Int)
 | k+1=>ta b a k*64+(b.getD (a+(k+1)) 0 - 128)
def uG(b:QK)(a:Nat):Int×Nat :=
 if ij (b.getD a 0)≤1 then(if ij (b.getD a 0)=1 then b.getD a 0 else 65533,1)
 else if iU b a=ij (b.getD a 0) - 1 then(ta b a (iU b a),iU b a+1)else(65533,iU b a+1)
theorem F8(b:QK)(a:Nat):iU b a≤ij (b.getD a 0) - 1:=zH _ _
theorem Bo{b:QK}{a k:Nat}(f:1≤k)(e:k≤iU b a):Kb b a k=true:=by
 have:=zP (fun j=> !Kb b a (j+1)) (ij (b.getD a 0) - 1) (j:=k - 1) (by unfold iU at e;omega);rw[show k - 1+1=k by omega]at this;simpa using this
theorem JG{b:QK}{a:Nat}(h:iU b a<ij (b.getD a 0) - 1):Kb b a (iU b a+1)=false:=by
 have:=Ab (fun j=> !Kb b a (j+1)) (ij (b.getD a 0) - 1) h;simp only[Bool.not_eq_true']at this;exact this
theorem Em{b:QK}{a k:Nat}(h:Kb b a k=true):a+k<b.length∧128≤b.getD (a+k) 0∧b.getD (a+k) 0≤191:=by
 unfold Kb at h;simp only[decide_eq_true_eq]at h;have e:128≤K8 (b.getD a 0):=by unfold K8;split;omega;split <;> omega
 have f:La (b.getD a 0)≤191:=by unfold La;split;omega;split <;> omega
 split at h <;> omega
theorem FA{b:QK}{a:Nat}(hl:2≤ij (b.getD a 0)):∀k,k≤iU b a→0≤ta b a k∧ta b a k<32*((64 ^ k:Nat):Int)
 | 0,_=>by
  have j:=wm (b.getD a 0);simp only[ta];have q:(2:Nat) ^ (7 - ij (b.getD a 0))≤2 ^ 5:=Nat.pow_le_pow_right (by decide) (by omega);have f:0<(2:Nat) ^ (7 - ij (b.getD a 0)):=Nat.pow_pos (by decide);have u:(2:Nat) ^ 5=32:=by decide
  have:=Int.emod_nonneg (b.getD a 0) (show((2 ^ (7 - ij (b.getD a 0)):Nat):Int)≠0 by omega);have:=Int.emod_lt_of_pos (b.getD a 0) (show 0<((2 ^ (7 - ij (b.getD a 0)):Nat):Int) by omega);simp only[Nat.pow_zero];omega
 | k+1,hk=>by
  have v:=FA hl k (by omega);have z:=Em (Bo (b:=b) (a:=a) (k:=k+1) (by omega) hk);simp only[ta];have e:((64 ^ (k+1):Nat):Int)=((64 ^ k:Nat):Int)*64:=by rw[Nat.pow_succ];omega
  rw[e];omega
theorem IJ(b:QK)(a:Nat):iU b a≤3:=by have:=F8 b a;have:=wm (b.getD a 0);omega
section
variable{b:QK}(hb:Bytes b)(hl:b.length≤1000000)
include hb hl
omit hb in
theorem Lt{a:Nat}(ha:a<b.length)(E:2≤ij (b.getD a 0)):
  iter (jc b (a:Int) (ij (b.getD a 0):Int)) (K8 (b.getD a 0),La (b.getD a 0),(1:Int),ta b a 0,(1:Int)) =
   some (if iU b a=ij (b.getD a 0) - 1 then Sum.inl (((iU b a+1:Nat):Int),ta b a (iU b a))else Sum.inr ((65533:Int),((a:Int),((iU b a+1:Nat):Int)))):=by
 have O:=F8 b a;have I:=IJ b a;have V:=wm (b.getD a 0);have hi:=gL (body:=jc b (a:Int) (ij (b.getD a 0):Int)) (fun j=>(if j=0 then K8 (b.getD a 0)else 128,if j=0 then La (b.getD a 0)else 191,((j+1:Nat):Int),ta b a j,((j+1:Nat):Int))) (iU b a)
  (r:=if iU b a=ij (b.getD a 0) - 1 then Sum.inl (((iU b a+1:Nat):Int),ta b a (iU b a))else Sum.inr ((65533:Int),((a:Int),((iU b a+1:Nat):Int)))) (fun j X=>by
   have z:=Bo (b:=b) (a:=a) (k:=j+1) (by omega) (by omega);have hin:=Em z;have f:=FA E j (by omega);unfold Kb at z;simp only[decide_eq_true_eq,Nat.add_eq_right]at z;have C:((64 ^ j:Nat):Int)≤4096:=by have:(64:Nat) ^ j≤64 ^ 2:=Nat.pow_le_pow_right (by decide) (by omega);omega
   have A:i64.wrap ((a:Int)+((j+1:Nat):Int))=((a+(j+1):Nat):Int):=by rw[wrap_i64 (by omega) (by omega)];omega
   have J:i64.wrap (((j+1:Nat):Int)+1)=((j+1+1:Nat):Int):=by rw[wrap_i64 (by omega) (by omega)];omega
   have L:bitsOf .and .u8 (b.getD (a+(j+1)) 0) 63=b.getD (a+(j+1)) 0 - 128:=by
    have:=Ly (x:=b.getD (a+(j+1)) 0) (by omega) (by omega) (k:=6) (by decide);have B:((2 ^ 6 - 1:Nat):Int)=63:=by decide
    have e:((2 ^ 6:Nat):Int)=64:=by decide
    rw[B,e]at this;omega
   have M:i32.wrap (b.getD (a+(j+1)) 0 - 128)=b.getD (a+(j+1)) 0 - 128:=wrap_i32 (by omega) (by omega);have N:bitsOf .or .i32 (i32.wrap (ta b a j*2 ^ (min (6:Int).toNat i32.bits))) (b.getD (a+(j+1)) 0 - 128)=ta b a (j+1):=by
    have e:((2 ^ 6:Nat):Int)=64:=by decide
    have u:(2:Int) ^ (min (6:Int).toNat i32.bits)=64:=by decide
    have:=Mc (a:=ta b a j) (y:=b.getD (a+(j+1)) 0 - 128) (k:=6) f.1 (by omega) (by omega) (by omega);rw[e]at this;rw[u,wrap_i32 (by omega) (by omega),this];rfl
   simp only[jc,A,J,Int.toNat_natCast,L,M,N];rw[if_pos (by simp only[decide_eq_true_eq];omega),if_neg (by simp only[decide_eq_true_eq];omega),if_pos ⟨by omega,by omega⟩,if_neg (by simp only[decide_eq_true_eq];omega),if_pos ⟨by omega,by omega⟩];simp only[Option.bind_some];rw[if_neg (by simp only[decide_eq_true_eq];omega),if_pos (by decide),if_pos ⟨by omega,by omega⟩];simp only[Nat.add_one_ne_zero,if_false]) (by
   have A:i64.wrap ((a:Int)+((iU b a+1:Nat):Int))=((a+(iU b a+1):Nat):Int):=by rw[wrap_i64 (by omega) (by omega)];omega
   simp only[jc,A,Int.toNat_natCast];by_cases q:iU b a=ij (b.getD a 0) - 1
   ·rw[if_neg (by simp only[decide_eq_true_eq];omega),if_pos q]
   ·have v:=JG (b:=b) (a:=a) (by omega);rw[if_pos (by simp only[decide_eq_true_eq];omega),if_neg q];unfold Kb at v;simp only[decide_eq_false_iff_not,Nat.add_eq_right]at v;by_cases Y:a+(iU b a+1)<b.length
    ·rw[if_neg (by simp only[decide_eq_true_eq];omega),if_pos ⟨by omega,by omega⟩];by_cases D:b.getD (a+(iU b a+1)) 0<(if iU b a=0 then K8 (b.getD a 0)else 128)
     ·rw[if_pos (by simpa using D)];rfl
     ·rw[if_neg (by simpa using D),if_pos ⟨by omega,by omega⟩];have:decide (b.getD (a+(iU b a+1)) 0 > (if iU b a=0 then La (b.getD a 0)else 191))=true:=by simp only[decide_eq_true_eq];omega
      rw[this];rfl
    ·rw[if_pos (by simp only[decide_eq_true_eq];omega)];rfl)
 exact hi
theorem D4{a:Nat}(ha:a<b.length):pv b (a:Int)=some ((uG b a).1,((a:Int),((uG b a).2:Int))):=by
 have j:=hb.get a;have u:=wm (b.getD a 0);unfold pv uG;rw[if_neg (by simp only[decide_eq_true_eq];omega)];simp only[Option.bind_some];rw[if_neg (by simp only[decide_eq_true_eq];omega),if_pos ⟨by omega,by omega⟩,Int.toNat_natCast,J9];simp only[Option.bind_some];by_cases e:ij (b.getD a 0)≤1
 ·rw[if_pos e,if_pos e];simp only;rw[if_pos (by simp only[decide_eq_true_eq];omega)];by_cases f:ij (b.getD a 0)=1
  ·rw[if_pos (by simp only[beq_iff_eq];omega),if_pos ⟨by omega,by omega⟩,if_pos f,wrap_i32 (by omega) (by omega)];rfl
  ·rw[if_neg (by simp only[beq_iff_eq];omega),if_neg f];rfl
 ·rw[if_neg e,if_neg e];simp only;have v:bitsOf .and .i32 (i32.wrap (b.getD a 0)) (Int.fdiv (127:Int) (2 ^ (min (ij (b.getD a 0):Int).toNat i32.bits)))=ta b a 0:=by
   have z:Int.fdiv (127:Int) (2 ^ (min (ij (b.getD a 0):Int).toNat i32.bits))=((2 ^ (7 - ij (b.getD a 0)) - 1:Nat):Int):=by
    generalize ij (b.getD a 0)=n at e u;have:n=2∨n=3∨n=4:=by omega
    rcases this with rfl | rfl | rfl <;> decide
   rw[z,wrap_i32 (by omega) (by omega),FI j.1 (by omega) (by omega)];rfl
  rw[if_neg (by simp only[decide_eq_true_eq];omega),if_pos ⟨by omega,by omega⟩,if_pos (by omega),v,Lt hl ha (by omega)];simp only[Option.bind_some];by_cases q:iU b a=ij (b.getD a 0) - 1
  ·rw[if_pos q,if_pos q]
  ·rw[if_neg q,if_neg q]
end
theorem I8{b:QK}{a:Nat}(ha:a<b.length):1≤(uG b a).2∧(uG b a).2≤4∧a+(uG b a).2≤b.length:=by
 have f:=IJ b a;have key:a+(iU b a+1)≤b.length:=by
  rcases Nat.eq_zero_or_pos (iU b a)with e | e
  ·omega
  ·have:=(Em (Bo (b:=b) (a:=a) e (Nat.le_refl _))).1;omega
 unfold uG;split
 ·exact⟨Nat.le_refl _,by simp,ha⟩
 ·split
  ·exact⟨by simp,by simp only;omega,key⟩
  ·exact⟨by simp,by simp only;omega,key⟩
def Cv:Int→Qx→Int→Prop
 | a,[],n=>a=n
 | a,x::r,n=>x.2.1=a∧1≤x.2.2∧x.2.2≤4∧Cv (a+x.2.2) r n
theorem Cv.snoc{x:Int×Int×Int}:∀ {a m:Int} {s:Qx},Cv a s m→x.2.1=m→1≤x.2.2→x.2.2≤4→Cv a (s++[x]) (m+x.2.2)
 | a,m,[],h,e,f,j=>by
  simp only[Cv]at h;subst h;exact⟨e,f,j,rfl⟩
 | a,m,y::s,h,e,f,j=>⟨h.1,h.2.1,h.2.2.1,h.2.2.2.snoc e f j⟩
theorem IT{b:QK}(hb:Bytes b)(hl:b.length≤4096):∃s,nb b=some s∧Cv 0 s (b.length:Int)∧s.length≤b.length:=by
 obtain⟨r,j,q⟩:=dB (body:=kj b) (fun s=>∃a:Nat,s.2=(a:Int)∧a≤b.length∧Cv 0 s.1 (a:Int)∧s.1.length≤a) (fun s=>b.length - s.2.toNat) (fun r=>Cv 0 r (b.length:Int)∧r.length≤b.length) (by
  rintro⟨out,u⟩ ⟨a,rfl,ha,e,f⟩;simp only at e f;by_cases h:a<b.length
  ·left
   obtain⟨z,A,v⟩:=I8 h;have h':(a:Int)<(b.length:Int):=by omega
   refine⟨(out++[((uG b a).1,((a:Int),((uG b a).2:Int)))],((a+(uG b a).2:Nat):Int)),?_,⟨a+(uG b a).2,rfl,v,?_,by simp;omega⟩,by simp only[Int.toNat_natCast];omega⟩
   ·simp only[kj,h',decide_true,if_true,D4 hb (by omega) h,Option.bind,List.length_singleton];rw[if_pos (by omega),wrap_i64 (by omega) (by omega)];rfl
   ·have:=e.snoc (x:=((uG b a).1,((a:Int),((uG b a).2:Int)))) rfl (by simp only;omega) (by simp only;omega);simpa using this
  ·right
   obtain rfl:a=b.length:=by omega
   exact⟨out,by simp[kj],e,f⟩) (s:=([],0)) ⟨0,rfl,by omega,rfl,by simp⟩
 refine⟨r,?_,q⟩;unfold nb;rw[j];rfl
theorem FX{t:Option ((fG 4352)×List (fG 256))}{f:Int→Int}(ht:pe t f){s:Qx}(A:s.length≤4096):cJ t s=some (s.map fun x=>f x.1):=by
 have q:bh t=fun r=>some (f r):=ht
 have v:iter (dx t s) (List.replicate s.length 0,((0:Nat):Int))=some (s.map fun x=>f x.1):=by
  refine gL (fun k=>((s.take k).map (fun x=>f x.1)++List.replicate (s.length - k) 0,(k:Int))) s.length (fun k hk=>?_) ?_ |> fun h=>by simpa using h
  ·have u:(k:Int)<(s.length:Int):=by omega
   have z:0≤(k:Int):=by omega
   have e:((s.take k).map (fun x:Int×Int×Int=>f x.1)++List.replicate (s.length - k) (0:Int)).length=s.length:=by simp;omega
   have j:((s.take k).map (fun x=>f x.1)++List.replicate (s.length - k) (0:Int)).set k (f (s.getD k (0,(0,0))).1)=(s.take (k+1)).map (fun x=>f x.1)++List.replicate (s.length - (k+1)) 0:=by rw[oa (d:=(0,(0,0))) hk,List.map_append,List.set_append_right _ _ (by simp;omega),List.length_map,List.length_take,Nat.min_eq_left (by omega),Nat.sub_self,show s.length - k=(s.length - (k+1))+1 by omega,List.replicate_succ,List.set_cons_zero];simp
   simp only[dx,u,z,e,hk,and_self,decide_true,if_true,Int.toNat_natCast,q,Option.bind,j];rw[wrap_i64 (by omega) (by omega)];rfl
  ·have u:¬((s.length:Int)<(s.length:Int)):=by omega
   simp[dx]
 unfold cJ;rw[if_pos (by omega),Int.toNat_natCast];exact congrArg (fun x=>Option.bind x fun o=>some o) v
end Go.Proofs.YtbedjpdfkmfplaaGreatDoor.T
