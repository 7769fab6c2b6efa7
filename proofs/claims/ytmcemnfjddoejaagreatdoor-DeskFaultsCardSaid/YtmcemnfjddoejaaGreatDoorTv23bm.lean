import Derived.Test.YtmcemnfjddoejaaGreatDoorTvT23cDeskFaults
import Derived.Test.YtmcemnfjddoejaaGreatDoorTvYm
import Derived.KernelRfl
namespace Go.Proofs.YtmcemnfjddoejaaGreatDoor.T
open Go Go.Tv Go.Proofs
open Go.IntKind (i32 i64)
noncomputable section
def Ey(l:Qx):Nat→Int→QK
 | 0,_=>[]
 | n+1,r=>atR l r::Ey l n (r+1)
theorem Bu(l):∀n r,(Ey l n r).length=n
 | 0,_=>rfl
 | n+1,r=>by simp[Ey,Bu l n]
theorem CS(l):∀n r c,c<n→(Ey l n r).getD c 0=atR l (r+c)
 | n+1,r,0,_=>by simp[Ey]
 | n+1,r,c+1,h=>by
  simp only[Ey,List.getD_cons_succ];rw[CS l n (r+1) c (by omega)];congr 1;omega
def Fh(l:Qx):Nat→Int→List (fb 256)
 | 0,_=>[]
 | n+1,i=>⟨Ey l 256 (256*i),Bu l 256 _⟩::Fh l n (i+1)
theorem CA(l):∀n i,(Fh l n i).length=n
 | 0,_=>rfl
 | n+1,i=>by simp[Fh,CA l n]
theorem Dw(l):∀n i q,q<n→∀c:Nat,c<256→fA ((Fh l n i).getD q (dv 256)) c=atR l (256*(i+q)+c)
 | n+1,i,0,_,c,e=>by
  simp only[Fh,List.getD_cons_zero,fA];rw[CS l 256 _ c e];congr 1;omega
 | n+1,i,q+1,h,c,e=>by
  simp only[Fh,List.getD_cons_succ];rw[Dw l n (i+1) q (by omega) c e];congr 1;omega
def Ei:Nat→Int→QK
 | 0,_=>[]
 | n+1,i=>i::Ei n (i+1)
theorem BR:∀n i,(Ei n i).length=n
 | 0,_=>rfl
 | n+1,i=>by simp[Ei,BR n]
theorem Dl:∀n i j,j<n→(Ei n i).getD j 0=i+j
 | n+1,i,0,_=>by simp[Ei]
 | n+1,i,j+1,h=>by
  simp only[Ei,List.getD_cons_succ];rw[Dl n (i+1) j (by omega)];omega
def KK(l:Qx):(fb 4352)×List (fb 256):=(⟨Ei 4352 0,BR _ _⟩,Fh l 4352 0)
theorem Bd{l:Qx}(f:Rp l):o9 (some (KK l)) (IN l):=by
 refine H3 f fun j e=>⟨j,?_,?_,fun c p=>?_⟩
 ·simp only[fA];rw[Dl _ _ _ e];omega
 ·rw[CA];exact e
 ·rw[Dw l 4352 0 j e c p];congr 1;omega
theorem wU{t c:Option ((fb 4352)×List (fb 256))}(h:bh t=bh c)(l:Qx):cy t l=cy c l:=by
 unfold cy dn;rw[h]
theorem C6{t c:Option ((fb 4352)×List (fb 256))}(h:bh t=bh c)(l:Qx)(e f:QK)(j:List Bool):gC l e f j t=gC l e f j c:=by
 unfold gC lz dz;rw[h]
theorem EN{c e h f j p q u v}(z:bh f=bh q)(A:bh j=bh u)(B:bh p=bh v)(x:QK):
  aT (some (c,e,f,j,p,h)) x=aT (some (c,e,q,u,v,h)) x:=by
 unfold aT;simp only[Option.getD,Option.isNone,Option.isSome,wU z,wU A,C6 B]
/-! ### C example -/
def j3:Qx:=[(10,(10,2)),(32,(32,1))]
def mD:Qx:=[(32,(126,1))]
def Io:QX:=[99,108,97,115,115,32,79,59,32,109,97,121,32,79,32,47,32,79,59]
def Jo:QX:=[99,108,97,115,115,32,79,32,83,32,78,59,32,107,101,101,112,32,83,32,47,32,83,59,32,109,97,121,32,83,32,47,32,46,59,32,109,117,115,116,32,78,32,47,32,46,59,32,107,101,101,112,32,46,32,47,32,46,59]
def Ik:=((iY Io).getD (none,0,0)).1
def Jv:=((iY Jo).getD (none,0,0)).1
def NK:=((m8 [] [] 2 2).getD (none,0,0)).1
theorem JV:iY Io=some (Ik,0,0):=by kernel_rfl
theorem Ke:iY Jo=some (Jv,0,0):=by kernel_rfl
theorem Ml:m8 [] [] 2 2=some (NK,0,0):=by kernel_rfl
theorem NW:cg Ik=some 1:=by kernel_rfl
theorem Ob:cg Jv=some 3:=by kernel_rfl
theorem A6{l:Qx}{most:Int}(h:vK l most=true):∃t,fY l most=some (some t,0)∧o9 (some t) (IN l):=by
 rcases vp l most with⟨_,c⟩ | ⟨t,e,_,f⟩
 ·rw[h]at c;cases c
 ·exact⟨t,e,f⟩
theorem M1:∃c e f,j8 [] j3 mD [] Io Jo [] 2 2=some (some (Ik,Jv,some c,some e,some f,NK),0,0)∧o9 (some c) (IN [])∧o9 (some e) (IN j3)∧o9 (some f) (IN mD):=by
 obtain⟨c,j,p⟩:=A6 (l:=[]) (most:=1) (by decide);obtain⟨e,q,u⟩:=A6 (l:=j3) (most:=3) (by decide);obtain⟨f,v,x⟩:=A6 (l:=mD) (most:=3) (by decide);refine⟨c,e,f,?_,p,u,x⟩;unfold j8;rw[JV,Ke];simp only[Option.bind,NW,Ob,j,q,v,Ml];rfl
theorem A5:Rp []∧Rp j3∧Rp mD:=⟨pP (most:=1) (by decide),pP (most:=3) (by decide),pP (most:=3) (by decide)⟩
def OT:Option Z1:=some (Ik,Jv,some (KK []),some (KK j3),some (KK mD),NK)
theorem L7{c e f}(j:o9 (some c) (IN []))(p:o9 (some e) (IN j3))(q:o9 (some f) (IN mD))(x:QK):
  aT (some (Ik,Jv,some c,some e,some f,NK)) x=aT OT x :=
 EN (j.trans (Bd A5.1).symm) (p.trans (Bd A5.2.1).symm) (q.trans (Bd A5.2.2).symm) x
end
end Go.Proofs.YtmcemnfjddoejaaGreatDoor.T
namespace Go.Proofs.YtmcemnfjddoejaaGreatDoor.T
open Go Go.Tv Go.Proofs
open Go.IntKind (i32 i64)
def Bytes(b:QK):Prop:=∀x∈b,0≤x∧x≤255
theorem Bytes.get{b:QK}(h:Bytes b)(i:Nat):0≤b.getD i 0∧b.getD i 0≤255:=by
 rcases Nat.lt_or_ge i b.length with hi | hi
 ·exact h _ (uk hi)
 ·rw[List.getD_eq_getElem?_getD,List.getElem?_eq_none hi];simp
def gZ(c:Int):Nat:=if c<128 then 1 else if 194≤c∧c≤223 then 2 else if 224≤c∧c≤239 then 3 else if 240≤c∧c≤244 then 4 else 0
def KV(c:Int):Int:=if c=224 then 160 else if c=240 then 144 else 128
def Lh(c:Int):Int:=if c=237 then 159 else if c=244 then 143 else 191
theorem Ka(c:Int):nz c=some (if gZ c≤1 then((gZ c:Int),0,0)else((gZ c:Int),KV c,Lh c)):=by
 unfold nz gZ KV Lh;by_cases j:c<128
 ·rw[if_pos (by simpa using j),if_pos j,if_pos (by omega)];rfl
 rw[if_neg (by simpa using j),if_neg j];by_cases p:c<194
 ·rw[if_pos (by simpa using p),if_neg (c:=194≤c∧c≤223) (by omega),if_neg (c:=224≤c∧c≤239) (by omega),if_neg (c:=240≤c∧c≤244) (by omega)];rfl
 rw[if_neg (by simpa using p)];by_cases q:c > 244
 ·rw[if_neg (c:=194≤c∧c≤223) (by omega),if_neg (c:=224≤c∧c≤239) (by omega),if_neg (c:=240≤c∧c≤244) (by omega)];simp only[Option.bind_some];rw[if_pos (by simpa using q)];rfl
 simp only[Option.bind_some];rw[if_neg (by simpa using q)];by_cases u:c<224
 ·rw[if_pos (by simpa using u),if_pos (c:=194≤c∧c≤223) (by omega),if_neg (by omega),if_neg (c:=c=224) (by omega),if_neg (c:=c=240) (by omega),if_neg (c:=c=237) (by omega),if_neg (c:=c=244) (by omega)];rfl
 rw[if_neg (by simpa using u),if_neg (c:=194≤c∧c≤223) (by omega)];by_cases v:c≤239
 ·rw[if_pos (c:=224≤c∧c≤239) (by omega),if_neg (c:=(3:Nat)≤1) (by omega),if_neg (c:=c=240) (by omega),if_neg (c:=c=244) (by omega)];by_cases e:c=224
  ·subst e;rfl
  rw[if_neg (by simpa using e),if_neg e];by_cases f:c=237
  ·subst f;rfl
  rw[if_neg (by simpa using f),if_neg f,if_pos (by simp only[decide_eq_true_eq];omega)];rfl
 rw[if_neg (c:=224≤c∧c≤239) (by omega),if_pos (c:=240≤c∧c≤244) (by omega),if_neg (c:=(4:Nat)≤1) (by omega),if_neg (c:=c=224) (by omega),if_neg (c:=c=237) (by omega),
  if_neg (by simp only[beq_iff_eq];omega),if_neg (by simp only[beq_iff_eq];omega),if_neg (by simp only[decide_eq_true_eq];omega)]
 by_cases e:c=240
 ·subst e;rfl
 rw[if_neg (by simpa using e),if_neg e];by_cases f:c=244
 ·subst f;rfl
 rw[if_neg (by simpa using f),if_neg f];rfl
theorem wg(c:Int):gZ c≤4:=by unfold gZ;split;omega;split;omega;split;omega;split <;> omega
def KF(b:QK)(a k:Nat):Bool:=decide (a+k<b.length∧(if k=1 then KV (b.getD a 0)else 128)≤b.getD (a+k) 0∧b.getD (a+k) 0≤(if k=1 then Lh (b.getD a 0)else 191))
def iw(b:QK)(a:Nat):Nat:=mX (fun j=> !KF b a (j+1)) (gZ (b.getD a 0) - 1)
def th(b:QK)(a:Nat):Nat→Int
 | 0=>b.getD a 0 % ((2 ^ (7 - gZ (b.getD a 0)):Nat):Int)
 | k+1=>th b a k*64+(b.getD (a+(k+1)) 0 - 128)
def uv(b:QK)(a:Nat):Int×Nat :=
 if gZ (b.getD a 0)≤1 then(if gZ (b.getD a 0)=1 then b.getD a 0 else 65533,1)
 else if iw b a=gZ (b.getD a 0) - 1 then(th b a (iw b a),iw b a+1)else(65533,iw b a+1)
theorem FW(b:QK)(a:Nat):iw b a≤gZ (b.getD a 0) - 1:=z9 _ _
theorem Bt{b:QK}{a k:Nat}(e:1≤k)(c:k≤iw b a):KF b a k=true:=by
 have:=zE (fun j=> !KF b a (j+1)) (gZ (b.getD a 0) - 1) (j:=k - 1) (by unfold iw at c;omega);rw[show k - 1+1=k by omega]at this;simpa using this
theorem Jf{b:QK}{a:Nat}(h:iw b a<gZ (b.getD a 0) - 1):KF b a (iw b a+1)=false:=by
 have:=Ai (fun j=> !KF b a (j+1)) (gZ (b.getD a 0) - 1) h;simp only[Bool.not_eq_true']at this;exact this
theorem E5{b:QK}{a k:Nat}(h:KF b a k=true):a+k<b.length∧128≤b.getD (a+k) 0∧b.getD (a+k) 0≤191:=by
 unfold KF at h;simp only[decide_eq_true_eq]at h;have c:128≤KV (b.getD a 0):=by unfold KV;split;omega;split <;> omega
 have e:Lh (b.getD a 0)≤191:=by unfold Lh;split;omega;split <;> omega
 split at h <;> omega
theorem Fz{b:QK}{a:Nat}(hl:2≤gZ (b.getD a 0)):∀k,k≤iw b a→0≤th b a k∧th b a k<32*((64 ^ k:Nat):Int)
 | 0,_=>by
  have f:=wg (b.getD a 0);simp only[th];have j:(2:Nat) ^ (7 - gZ (b.getD a 0))≤2 ^ 5:=Nat.pow_le_pow_right (by decide) (by omega);have c:0<(2:Nat) ^ (7 - gZ (b.getD a 0)):=Nat.pow_pos (by decide);have p:(2:Nat) ^ 5=32:=by decide
  have:=Int.emod_nonneg (b.getD a 0) (show((2 ^ (7 - gZ (b.getD a 0)):Nat):Int)≠0 by omega);have:=Int.emod_lt_of_pos (b.getD a 0) (show 0<((2 ^ (7 - gZ (b.getD a 0)):Nat):Int) by omega);simp only[Nat.pow_zero];omega
 | k+1,hk=>by
  have q:=Fz hl k (by omega);have u:=E5 (Bt (b:=b) (a:=a) (k:=k+1) (by omega) hk);simp only[th];have e:((64 ^ (k+1):Nat):Int)=((64 ^ k:Nat):Int)*64:=by rw[Nat.pow_succ];omega
  rw[e];omega
theorem Js(b:QK)(a:Nat):iw b a≤3:=by have:=FW b a;have:=wg (b.getD a 0);omega
section
variable{b:QK}(hb:Bytes b)(hl:b.length≤1000000)
include hb hl
omit hb in
theorem L2{a:Nat}(ha:a<b.length)(C:2≤gZ (b.getD a 0)):
  iter (iJ b (a:Int) (gZ (b.getD a 0):Int)) (KV (b.getD a 0),Lh (b.getD a 0),(1:Int),th b a 0,(1:Int)) =
   some (if iw b a=gZ (b.getD a 0) - 1 then Sum.inl (((iw b a+1:Nat):Int),th b a (iw b a))else Sum.inr ((65533:Int),((a:Int),((iw b a+1:Nat):Int)))):=by
 have M:=FW b a;have D:=Js b a;have N:=wg (b.getD a 0);have hi:=iA (body:=iJ b (a:Int) (gZ (b.getD a 0):Int)) (fun j=>(if j=0 then KV (b.getD a 0)else 128,if j=0 then Lh (b.getD a 0)else 191,((j+1:Nat):Int),th b a j,((j+1:Nat):Int))) (iw b a)
  (r:=if iw b a=gZ (b.getD a 0) - 1 then Sum.inl (((iw b a+1:Nat):Int),th b a (iw b a))else Sum.inr ((65533:Int),((a:Int),((iw b a+1:Nat):Int)))) (fun j O=>by
   have u:=Bt (b:=b) (a:=a) (k:=j+1) (by omega) (by omega);have hin:=E5 u;have e:=Fz C j (by omega);unfold KF at u;simp only[decide_eq_true_eq,Nat.add_eq_right]at u;have A:((64 ^ j:Nat):Int)≤4096:=by have:(64:Nat) ^ j≤64 ^ 2:=Nat.pow_le_pow_right (by decide) (by omega);omega
   have v:i64.wrap ((a:Int)+((j+1:Nat):Int))=((a+(j+1):Nat):Int):=by rw[wrap_i64 (by omega) (by omega)];omega
   have E:i64.wrap (((j+1:Nat):Int)+1)=((j+1+1:Nat):Int):=by rw[wrap_i64 (by omega) (by omega)];omega
   have I:bitsOf .and .u8 (b.getD (a+(j+1)) 0) 63=b.getD (a+(j+1)) 0 - 128:=by
    have:=LN (x:=b.getD (a+(j+1)) 0) (by omega) (by omega) (k:=6) (by decide);have z:((2 ^ 6 - 1:Nat):Int)=63:=by decide
    have c:((2 ^ 6:Nat):Int)=64:=by decide
    rw[z,c]at this;omega
   have J:i32.wrap (b.getD (a+(j+1)) 0 - 128)=b.getD (a+(j+1)) 0 - 128:=wrap_i32 (by omega) (by omega);have L:bitsOf .or .i32 (i32.wrap (th b a j*2 ^ (min (6:Int).toNat i32.bits))) (b.getD (a+(j+1)) 0 - 128)=th b a (j+1):=by
    have c:((2 ^ 6:Nat):Int)=64:=by decide
    have f:(2:Int) ^ (min (6:Int).toNat i32.bits)=64:=by decide
    have:=Ll (a:=th b a j) (y:=b.getD (a+(j+1)) 0 - 128) (k:=6) e.1 (by omega) (by omega) (by omega);rw[c]at this;rw[f,wrap_i32 (by omega) (by omega),this];rfl
   simp only[iJ,v,E,Int.toNat_natCast,I,J,L];rw[if_pos (by simp only[decide_eq_true_eq];omega),if_neg (by simp only[decide_eq_true_eq];omega),if_pos ⟨by omega,by omega⟩,if_neg (by simp only[decide_eq_true_eq];omega),if_pos ⟨by omega,by omega⟩];simp only[Option.bind_some];rw[if_neg (by simp only[decide_eq_true_eq];omega),if_pos (by decide),if_pos ⟨by omega,by omega⟩];simp only[Nat.add_one_ne_zero,if_false]) (by
   have v:i64.wrap ((a:Int)+((iw b a+1:Nat):Int))=((a+(iw b a+1):Nat):Int):=by rw[wrap_i64 (by omega) (by omega)];omega
   simp only[iJ,v,Int.toNat_natCast];by_cases q:iw b a=gZ (b.getD a 0) - 1
   ·rw[if_neg (by simp only[decide_eq_true_eq];omega),if_pos q]
   ·have p:=Jf (b:=b) (a:=a) (by omega);rw[if_pos (by simp only[decide_eq_true_eq];omega),if_neg q];unfold KF at p;simp only[decide_eq_false_iff_not,Nat.add_eq_right]at p;by_cases V:a+(iw b a+1)<b.length
    ·rw[if_neg (by simp only[decide_eq_true_eq];omega),if_pos ⟨by omega,by omega⟩];by_cases B:b.getD (a+(iw b a+1)) 0<(if iw b a=0 then KV (b.getD a 0)else 128)
     ·rw[if_pos (by simpa using B)];rfl
     ·rw[if_neg (by simpa using B),if_pos ⟨by omega,by omega⟩];have:decide (b.getD (a+(iw b a+1)) 0 > (if iw b a=0 then Lh (b.getD a 0)else 191))=true:=by simp only[decide_eq_true_eq];omega
      rw[this];rfl
    ·rw[if_pos (by simp only[decide_eq_true_eq];omega)];rfl)
 exact hi
theorem Ee{a:Nat}(ha:a<b.length):pr b (a:Int)=some ((uv b a).1,((a:Int),((uv b a).2:Int))):=by
 have f:=hb.get a;have j:=wg (b.getD a 0);unfold pr uv;rw[if_neg (by simp only[decide_eq_true_eq];omega)];simp only[Option.bind_some];rw[if_neg (by simp only[decide_eq_true_eq];omega),if_pos ⟨by omega,by omega⟩,Int.toNat_natCast,Ka];simp only[Option.bind_some];by_cases c:gZ (b.getD a 0)≤1
 ·rw[if_pos c,if_pos c];simp only;rw[if_pos (by simp only[decide_eq_true_eq];omega)];by_cases e:gZ (b.getD a 0)=1
  ·rw[if_pos (by simp only[beq_iff_eq];omega),if_pos ⟨by omega,by omega⟩,if_pos e,wrap_i32 (by omega) (by omega)];rfl
  ·rw[if_neg (by simp only[beq_iff_eq];omega),if_neg e];rfl
 ·rw[if_neg c,if_neg c];simp only;have p:bitsOf .and .i32 (i32.wrap (b.getD a 0)) (Int.fdiv (127:Int) (2 ^ (min (gZ (b.getD a 0):Int).toNat i32.bits)))=th b a 0:=by
   have u:Int.fdiv (127:Int) (2 ^ (min (gZ (b.getD a 0):Int).toNat i32.bits))=((2 ^ (7 - gZ (b.getD a 0)) - 1:Nat):Int):=by
    generalize gZ (b.getD a 0)=n at c j;have:n=2∨n=3∨n=4:=by omega
    rcases this with rfl | rfl | rfl <;> decide
   rw[u,wrap_i32 (by omega) (by omega),FR f.1 (by omega) (by omega)];rfl
  rw[if_neg (by simp only[decide_eq_true_eq];omega),if_pos ⟨by omega,by omega⟩,if_pos (by omega),p,L2 hl ha (by omega)];simp only[Option.bind_some];by_cases q:iw b a=gZ (b.getD a 0) - 1
  ·rw[if_pos q,if_pos q]
  ·rw[if_neg q,if_neg q]
end
theorem IX{b:QK}{a:Nat}(ha:a<b.length):1≤(uv b a).2∧(uv b a).2≤4∧a+(uv b a).2≤b.length:=by
 have c:=Js b a;have key:a+(iw b a+1)≤b.length:=by
  rcases Nat.eq_zero_or_pos (iw b a)with e | e
  ·omega
  ·have:=(E5 (Bt (b:=b) (a:=a) e (Nat.le_refl _))).1;omega
 unfold uv;split
 ·exact⟨Nat.le_refl _,by simp,ha⟩
 ·split
  ·exact⟨by simp,by simp only;omega,key⟩
  ·exact⟨by simp,by simp only;omega,key⟩
def Cv:Int→Qx→Int→Prop
 | a,[],n=>a=n
 | a,x::r,n=>x.2.1=a∧1≤x.2.2∧x.2.2≤4∧Cv (a+x.2.2) r n
theorem Cv.snoc{x:Int×Int×Int}:∀ {a m:Int} {s:Qx},Cv a s m→x.2.1=m→1≤x.2.2→x.2.2≤4→Cv a (s++[x]) (m+x.2.2)
 | a,m,[],h,c,e,f=>by
  simp only[Cv]at h;subst h;exact⟨c,e,f,rfl⟩
 | a,m,y::s,h,c,e,f=>⟨h.1,h.2.1,h.2.2.1,h.2.2.2.snoc c e f⟩
theorem Jd{b:QK}(hb:Bytes b)(hl:b.length≤4096):∃s,nc b=some s∧Cv 0 s (b.length:Int)∧s.length≤b.length:=by
 obtain⟨r,f,j⟩:=dT (body:=jR b) (fun s=>∃a:Nat,s.2=(a:Int)∧a≤b.length∧Cv 0 s.1 (a:Int)∧s.1.length≤a) (fun s=>b.length - s.2.toNat) (fun r=>Cv 0 r (b.length:Int)∧r.length≤b.length) (by
  rintro⟨out,p⟩ ⟨a,rfl,ha,c,e⟩;simp only at c e;by_cases h:a<b.length
  ·left
   obtain⟨u,v,q⟩:=IX h;have h':(a:Int)<(b.length:Int):=by omega
   refine⟨(out++[((uv b a).1,((a:Int),((uv b a).2:Int)))],((a+(uv b a).2:Nat):Int)),?_,⟨a+(uv b a).2,rfl,q,?_,by simp;omega⟩,by simp only[Int.toNat_natCast];omega⟩
   ·simp only[jR,h',decide_true,if_true,Ee hb (by omega) h,Option.bind,List.length_singleton];rw[if_pos (by omega),wrap_i64 (by omega) (by omega)];rfl
   ·have:=c.snoc (x:=((uv b a).1,((a:Int),((uv b a).2:Int)))) rfl (by simp only;omega) (by simp only;omega);simpa using this
  ·right
   obtain rfl:a=b.length:=by omega
   exact⟨out,by simp[jR],c,e⟩) (s:=([],0)) ⟨0,rfl,by omega,rfl,by simp⟩
 refine⟨r,?_,j⟩;unfold nc;rw[f];rfl
theorem Gh{t:Option ((fb 4352)×List (fb 256))}{f:Int→Int}(ht:o9 t f){s:Qx}(v:s.length≤4096):cy t s=some (s.map fun x=>f x.1):=by
 have j:bh t=fun r=>some (f r):=ht
 have q:iter (dn t s) (List.replicate s.length 0,((0:Nat):Int))=some (s.map fun x=>f x.1):=by
  refine iA (fun k=>((s.take k).map (fun x=>f x.1)++List.replicate (s.length - k) 0,(k:Int))) s.length (fun k hk=>?_) ?_ |> fun h=>by simpa using h
  ·have p:(k:Int)<(s.length:Int):=by omega
   have u:0≤(k:Int):=by omega
   have c:((s.take k).map (fun x:Int×Int×Int=>f x.1)++List.replicate (s.length - k) (0:Int)).length=s.length:=by simp;omega
   have e:((s.take k).map (fun x=>f x.1)++List.replicate (s.length - k) (0:Int)).set k (f (s.getD k (0,(0,0))).1)=(s.take (k+1)).map (fun x=>f x.1)++List.replicate (s.length - (k+1)) 0:=by rw[oo (d:=(0,(0,0))) hk,List.map_append,List.set_append_right _ _ (by simp;omega),List.length_map,List.length_take,Nat.min_eq_left (by omega),Nat.sub_self,show s.length - k=(s.length - (k+1))+1 by omega,List.replicate_succ,List.set_cons_zero];simp
   simp only[dn,p,u,c,hk,and_self,decide_true,if_true,Int.toNat_natCast,j,Option.bind,e];rw[wrap_i64 (by omega) (by omega)];rfl
  ·have p:¬((s.length:Int)<(s.length:Int)):=by omega
   simp[dn]
 unfold cy;rw[if_pos (by omega),Int.toNat_natCast];exact congrArg (fun x=>Option.bind x fun o=>some o) q
end Go.Proofs.YtmcemnfjddoejaaGreatDoor.T
