import Derived.Test.YtflahpmlcfhpcaaGreatDoorTvT20eBookAgain
import Derived.Test.YtflahpmlcfhpcaaGreatDoorTvYm
import Derived.KernelRfl
namespace Go.Proofs.YtflahpmlcfhpcaaGreatDoor.T
open Go Go.Tv Go.Proofs
open Go.IntKind (i32 i64)
noncomputable section
def CX(l:Qx):Nat→Int→QK
 | 0,_=>[]
 | n+1,r=>atR l r::CX l n (r+1)
theorem AZ(l):∀n r,(CX l n r).length=n
 | 0,_=>rfl
 | n+1,r=>by simp[CX,AZ l n]
theorem zX(l):∀n r c,c<n→(CX l n r).getD c 0=atR l (r+c)
 | n+1,r,0,_=>by simp[CX]
 | n+1,r,c+1,h=>by
  simp only[CX,List.getD_cons_succ];rw[zX l n (r+1) c (by omega)];congr 1;omega
def BL(l:Qx):Nat→Int→List (fh 256)
 | 0,_=>[]
 | n+1,i=>⟨CX l 256 (256*i),AZ l 256 _⟩::BL l n (i+1)
theorem A3(l):∀n i,(BL l n i).length=n
 | 0,_=>rfl
 | n+1,i=>by simp[BL,A3 l n]
theorem zM(l):∀n i q,q<n→∀c:Nat,c<256→fC ((BL l n i).getD q (dB 256)) c=atR l (256*(i+q)+c)
 | n+1,i,0,_,c,hc=>by
  simp only[BL,List.getD_cons_zero,fC];rw[zX l 256 _ c hc];congr 1;omega
 | n+1,i,q+1,h,c,hc=>by
  simp only[BL,List.getD_cons_succ];rw[zM l n (i+1) q (by omega) c hc];congr 1;omega
def Ci:Nat→Int→QK
 | 0,_=>[]
 | n+1,i=>i::Ci n (i+1)
theorem AE:∀n i,(Ci n i).length=n
 | 0,_=>rfl
 | n+1,i=>by simp[Ci,AE n]
theorem BD:∀n i j,j<n→(Ci n i).getD j 0=i+j
 | n+1,i,0,_=>by simp[Ci]
 | n+1,i,j+1,h=>by
  simp only[Ci,List.getD_cons_succ];rw[BD n (i+1) j (by omega)];omega
def Hy(l:Qx):(fh 4352)×List (fh 256):=(⟨Ci 4352 0,AE _ _⟩,BL l 4352 0)
theorem zn{l:Qx}(f:Rp l):n6 (some (Hy l)) (G9 l):=by
 refine Gk f fun j e=>⟨j,?_,?_,fun c hc=>?_⟩
 ·simp only[fC];rw[BD _ _ _ e];omega
 ·rw[A3];exact e
 ·rw[zM l 4352 0 j e c hc];congr 1;omega
theorem vW{t c:Option ((fh 4352)×List (fh 256))}(h:bd t=bd c)(l:Qx):cE t l=cE c l:=by
 unfold cE dA;rw[h]
theorem zO{t c:Option ((fh 4352)×List (fh 256))}(h:bd t=bd c)(l:Qx)(e f:QK)(j:List Bool):gz l e f j t=gz l e f j c:=by
 unfold gz lG dC;rw[h]
theorem BV{e f h j p q u v z}(A:bd j=bd u)(B:bd p=bd v)(C:bd q=bd z)(x:QK):
  aZ (some (e,f,j,p,q,h)) x=aZ (some (e,f,u,v,z,h)) x:=by
 unfold aZ;simp only[Option.getD,Option.isNone,Option.isSome,vW A,vW B,zO C]
/-! ### D example -/
def jQ:Qx:=[(10,(10,2)),(32,(32,1))]
def mb:Qx:=[(32,(126,1))]
def Gx:QX:=[99,108,97,115,115,32,79,59,32,109,97,121,32,79,32,47,32,79,59]
def Gj:QX:=[99,108,97,115,115,32,79,32,83,32,78,59,32,107,101,101,112,32,83,32,47,32,83,59,32,109,97,121,32,83,32,47,32,46,59,32,109,117,115,116,32,78,32,47,32,46,59,32,107,101,101,112,32,46,32,47,32,46,59]
def Fw:=((iX Gx).getD (none,0,0)).1
def Hm:=((iX Gj).getD (none,0,0)).1
def Lm:=((mY [] [] 2 2).getD (none,0,0)).1
theorem H5:iX Gx=some (Fw,0,0):=by kernel_rfl
theorem HD:iX Gj=some (Hm,0,0):=by kernel_rfl
theorem Jj:mY [] [] 2 2=some (Lm,0,0):=by kernel_rfl
theorem L2:cq Fw=some 1:=by kernel_rfl
theorem L9:cq Hm=some 3:=by kernel_rfl
theorem yB{l:Qx}{most:Int}(h:sV l most=true):∃t,fU l most=some (some t,0)∧n6 (some t) (G9 l):=by
 rcases tQ l most with⟨_,j⟩ | ⟨t,e,_,f⟩
 ·rw[h]at j;cases j
 ·exact⟨t,e,f⟩
theorem KG:∃e f j,jO [] jQ mb [] Gx Gj [] 2 2=some (some (Fw,Hm,some e,some f,some j,Lm),0,0)∧n6 (some e) (G9 [])∧n6 (some f) (G9 jQ)∧n6 (some j) (G9 mb):=by
 obtain⟨e,p,q⟩:=yB (l:=[]) (most:=1) (by decide);obtain⟨f,u,v⟩:=yB (l:=jQ) (most:=3) (by decide);obtain⟨j,x,z⟩:=yB (l:=mb) (most:=3) (by decide);refine⟨e,f,j,?_,q,v,z⟩;unfold jO;rw[H5,HD];simp only[Option.bind,L2,L9,p,u,x,Jj];rfl
theorem zu:Rp []∧Rp jQ∧Rp mb:=⟨pf (most:=1) (by decide),pf (most:=3) (by decide),pf (most:=3) (by decide)⟩
def Mr:Option Z1:=some (Fw,Hm,some (Hy []),some (Hy jQ),some (Hy mb),Lm)
theorem Jm{e f j}(p:n6 (some e) (G9 []))(q:n6 (some f) (G9 jQ))(u:n6 (some j) (G9 mb))(x:QK):
  aZ (some (Fw,Hm,some e,some f,some j,Lm)) x=aZ Mr x :=
 BV (p.trans (zn zu.1).symm) (q.trans (zn zu.2.1).symm) (u.trans (zn zu.2.2).symm) x
end
end Go.Proofs.YtflahpmlcfhpcaaGreatDoor.T
namespace Go.Proofs.YtflahpmlcfhpcaaGreatDoor.T
open Go Go.Tv Go.Proofs
open Go.IntKind (i32 i64)
def Bytes(b:QK):Prop:=∀x∈b,0≤x∧x≤255
theorem Bytes.get{b:QK}(h:Bytes b)(i:Nat):0≤b.getD i 0∧b.getD i 0≤255:=by
 rcases Nat.lt_or_ge i b.length with hi | hi
 ·exact h _ (xS hi)
 ·rw[List.getD_eq_getElem?_getD,List.getElem?_eq_none hi];simp
def gT(c:Int):Nat:=if c<128 then 1 else if 194≤c∧c≤223 then 2 else if 224≤c∧c≤239 then 3 else if 240≤c∧c≤244 then 4 else 0
def I3(c:Int):Int:=if c=224 then 160 else if c=240 then 144 else 128
def IT(c:Int):Int:=if c=237 then 159 else if c=244 then 143 else 191
theorem HN(c:Int):mH c=some (if gT c≤1 then((gT c:Int),0,0)else((gT c:Int),I3 c,IT c)):=by
 unfold mH gT I3 IT;by_cases j:c<128
 ·rw[if_pos (by simpa using j),if_pos j,if_pos (by omega)];rfl
 rw[if_neg (by simpa using j),if_neg j];by_cases p:c<194
 ·rw[if_pos (by simpa using p),if_neg (c:=194≤c∧c≤223) (by omega),if_neg (c:=224≤c∧c≤239) (by omega),if_neg (c:=240≤c∧c≤244) (by omega)];rfl
 rw[if_neg (by simpa using p)];by_cases q:c > 244
 ·rw[if_neg (c:=194≤c∧c≤223) (by omega),if_neg (c:=224≤c∧c≤239) (by omega),if_neg (c:=240≤c∧c≤244) (by omega)];simp only[Option.bind_some];rw[if_pos (by simpa using q)];rfl
 simp only[Option.bind_some];rw[if_neg (by simpa using q)];by_cases u:c<224
 ·rw[if_pos (by simpa using u),if_pos (c:=194≤c∧c≤223) (by omega),if_neg (by omega),if_neg (c:=c=224) (by omega),if_neg (c:=c=240) (by omega),if_neg (c:=c=237) (by omega),if_neg (c:=c=244) (by omega)];rfl
 rw[if_neg (by simpa using u),if_neg (c:=194≤c∧c≤223) (by omega)];by_cases v:c≤239
 ·rw[if_pos (c:=224≤c∧c≤239) (by omega),if_neg (c:=(3:Nat)≤1) (by omega),if_neg (c:=c=240) (by omega),if_neg (c:=c=244) (by omega)];by_cases e:c=224
  ·subst e;rfl
  rw[if_neg (by simpa using e),if_neg e];by_cases f:c=237
  ·subst f;rfl
  rw[if_neg (by simpa using f),if_neg f,if_pos (by simp only[decide_eq_true_eq];omega)];rfl
 rw[if_neg (c:=224≤c∧c≤239) (by omega),if_pos (c:=240≤c∧c≤244) (by omega),if_neg (c:=(4:Nat)≤1) (by omega),if_neg (c:=c=224) (by omega),if_neg (c:=c=237) (by omega),
  if_neg (by simp only[beq_iff_eq];omega),if_neg (by simp only[beq_iff_eq];omega),if_neg (by simp only[decide_eq_true_eq];omega)]
 by_cases e:c=240
 ·subst e;rfl
 rw[if_neg (by simpa using e),if_neg e];by_cases f:c=244
 ·subst f;rfl
 rw[if_neg (by simpa using f),if_neg f];rfl
theorem uE(c:Int):gT c≤4:=by unfold gT;split;omega;split;omega;split;omega;split <;> omega
def HE(b:QK)(a k:Nat):Bool:=decide (a+k<b.length∧(if k=1 then I3 (b.getD a 0)else 128)≤b.getD (a+k) 0∧b.getD (a+k) 0≤(if k=1 then IT (b.getD a 0)else 191))
def iv(b:QK)(a:Nat):Nat:=mf (fun j=> !HE b a (j+1)) (gT (b.getD a 0) - 1)
def rE(b:QK)(a:Nat):Nat→Int
 | 0=>b.getD a 0 % ((2 ^ (7 - gT (b.getD a 0)):Nat):Int)
 | k+1=>rE b a k*64+(b.getD (a+(k+1)) 0 - 128)
def sP(b:QK)(a:Nat):Int×Nat :=
 if gT (b.getD a 0)≤1 then(if gT (b.getD a 0)=1 then b.getD a 0 else 65533,1)
 else if iv b a=gT (b.getD a 0) - 1 then(rE b a (iv b a),iv b a+1)else(65533,iv b a+1)
theorem D1(b:QK)(a:Nat):iv b a≤gT (b.getD a 0) - 1:=xT _ _
theorem zz{b:QK}{a k:Nat}(f:1≤k)(e:k≤iv b a):HE b a k=true:=by
 have:=yb (fun j=> !HE b a (j+1)) (gT (b.getD a 0) - 1) (j:=k - 1) (by unfold iv at e;omega);rw[show k - 1+1=k by omega]at this;simpa using this
theorem GV{b:QK}{a:Nat}(h:iv b a<gT (b.getD a 0) - 1):HE b a (iv b a+1)=false:=by
 have:=xK (fun j=> !HE b a (j+1)) (gT (b.getD a 0) - 1) h;simp only[Bool.not_eq_true']at this;exact this
theorem CO{b:QK}{a k:Nat}(h:HE b a k=true):a+k<b.length∧128≤b.getD (a+k) 0∧b.getD (a+k) 0≤191:=by
 unfold HE at h;simp only[decide_eq_true_eq]at h;have e:128≤I3 (b.getD a 0):=by unfold I3;split;omega;split <;> omega
 have f:IT (b.getD a 0)≤191:=by unfold IT;split;omega;split <;> omega
 split at h <;> omega
theorem DW{b:QK}{a:Nat}(hl:2≤gT (b.getD a 0)):∀k,k≤iv b a→0≤rE b a k∧rE b a k<32*((64 ^ k:Nat):Int)
 | 0,_=>by
  have j:=uE (b.getD a 0);simp only[rE];have p:(2:Nat) ^ (7 - gT (b.getD a 0))≤2 ^ 5:=Nat.pow_le_pow_right (by decide) (by omega);have f:0<(2:Nat) ^ (7 - gT (b.getD a 0)):=Nat.pow_pos (by decide);have q:(2:Nat) ^ 5=32:=by decide
  have:=Int.emod_nonneg (b.getD a 0) (show((2 ^ (7 - gT (b.getD a 0)):Nat):Int)≠0 by omega);have:=Int.emod_lt_of_pos (b.getD a 0) (show 0<((2 ^ (7 - gT (b.getD a 0)):Nat):Int) by omega);simp only[Nat.pow_zero];omega
 | k+1,hk=>by
  have u:=DW hl k (by omega);have v:=CO (zz (b:=b) (a:=a) (k:=k+1) (by omega) hk);simp only[rE];have e:((64 ^ (k+1):Nat):Int)=((64 ^ k:Nat):Int)*64:=by rw[Nat.pow_succ];omega
  rw[e];omega
theorem Gg(b:QK)(a:Nat):iv b a≤3:=by have:=D1 b a;have:=uE (b.getD a 0);omega
section
variable{b:QK}(hb:Bytes b)(hl:b.length≤1000000)
include hb hl
omit hb in
theorem Jr{a:Nat}(ha:a<b.length)(D:2≤gT (b.getD a 0)):
  iter (iF b (a:Int) (gT (b.getD a 0):Int)) (I3 (b.getD a 0),IT (b.getD a 0),(1:Int),rE b a 0,(1:Int)) =
   some (if iv b a=gT (b.getD a 0) - 1 then Sum.inl (((iv b a+1:Nat):Int),rE b a (iv b a))else Sum.inr ((65533:Int),((a:Int),((iv b a+1:Nat):Int)))):=by
 have hc:=D1 b a;have E:=Gg b a;have N:=uE (b.getD a 0);have hi:=gB (body:=iF b (a:Int) (gT (b.getD a 0):Int)) (fun j=>(if j=0 then I3 (b.getD a 0)else 128,if j=0 then IT (b.getD a 0)else 191,((j+1:Nat):Int),rE b a j,((j+1:Nat):Int))) (iv b a)
  (r:=if iv b a=gT (b.getD a 0) - 1 then Sum.inl (((iv b a+1:Nat):Int),rE b a (iv b a))else Sum.inr ((65533:Int),((a:Int),((iv b a+1:Nat):Int)))) (fun j O=>by
   have v:=zz (b:=b) (a:=a) (k:=j+1) (by omega) (by omega);have hin:=CO v;have f:=DW D j (by omega);unfold HE at v;simp only[decide_eq_true_eq,Nat.add_eq_right]at v;have B:((64 ^ j:Nat):Int)≤4096:=by have:(64:Nat) ^ j≤64 ^ 2:=Nat.pow_le_pow_right (by decide) (by omega);omega
   have z:i64.wrap ((a:Int)+((j+1:Nat):Int))=((a+(j+1):Nat):Int):=by rw[wrap_i64 (by omega) (by omega)];omega
   have I:i64.wrap (((j+1:Nat):Int)+1)=((j+1+1:Nat):Int):=by rw[wrap_i64 (by omega) (by omega)];omega
   have J:bitsOf .and .u8 (b.getD (a+(j+1)) 0) 63=b.getD (a+(j+1)) 0 - 128:=by
    have:=Ka (x:=b.getD (a+(j+1)) 0) (by omega) (by omega) (k:=6) (by decide);have A:((2 ^ 6 - 1:Nat):Int)=63:=by decide
    have e:((2 ^ 6:Nat):Int)=64:=by decide
    rw[A,e]at this;omega
   have L:i32.wrap (b.getD (a+(j+1)) 0 - 128)=b.getD (a+(j+1)) 0 - 128:=wrap_i32 (by omega) (by omega);have M:bitsOf .or .i32 (i32.wrap (rE b a j*2 ^ (min (6:Int).toNat i32.bits))) (b.getD (a+(j+1)) 0 - 128)=rE b a (j+1):=by
    have e:((2 ^ 6:Nat):Int)=64:=by decide
    have p:(2:Int) ^ (min (6:Int).toNat i32.bits)=64:=by decide
    have:=Kb (a:=rE b a j) (y:=b.getD (a+(j+1)) 0 - 128) (k:=6) f.1 (by omega) (by omega) (by omega);rw[e]at this;rw[p,wrap_i32 (by omega) (by omega),this];rfl
   simp only[iF,z,I,Int.toNat_natCast,J,L,M];rw[if_pos (by simp only[decide_eq_true_eq];omega),if_neg (by simp only[decide_eq_true_eq];omega),if_pos ⟨by omega,by omega⟩,if_neg (by simp only[decide_eq_true_eq];omega),if_pos ⟨by omega,by omega⟩];simp only[Option.bind_some];rw[if_neg (by simp only[decide_eq_true_eq];omega),if_pos (by decide),if_pos ⟨by omega,by omega⟩];simp only[Nat.add_one_ne_zero,if_false]) (by
   have z:i64.wrap ((a:Int)+((iv b a+1:Nat):Int))=((a+(iv b a+1):Nat):Int):=by rw[wrap_i64 (by omega) (by omega)];omega
   simp only[iF,z,Int.toNat_natCast];by_cases q:iv b a=gT (b.getD a 0) - 1
   ·rw[if_neg (by simp only[decide_eq_true_eq];omega),if_pos q]
   ·have u:=GV (b:=b) (a:=a) (by omega);rw[if_pos (by simp only[decide_eq_true_eq];omega),if_neg q];unfold HE at u;simp only[decide_eq_false_iff_not,Nat.add_eq_right]at u;by_cases V:a+(iv b a+1)<b.length
    ·rw[if_neg (by simp only[decide_eq_true_eq];omega),if_pos ⟨by omega,by omega⟩];by_cases C:b.getD (a+(iv b a+1)) 0<(if iv b a=0 then I3 (b.getD a 0)else 128)
     ·rw[if_pos (by simpa using C)];rfl
     ·rw[if_neg (by simpa using C),if_pos ⟨by omega,by omega⟩];have:decide (b.getD (a+(iv b a+1)) 0 > (if iv b a=0 then IT (b.getD a 0)else 191))=true:=by simp only[decide_eq_true_eq];omega
      rw[this];rfl
    ·rw[if_pos (by simp only[decide_eq_true_eq];omega)];rfl)
 exact hi
theorem CS{a:Nat}(ha:a<b.length):o9 b (a:Int)=some ((sP b a).1,((a:Int),((sP b a).2:Int))):=by
 have hc:=hb.get a;have j:=uE (b.getD a 0);unfold o9 sP;rw[if_neg (by simp only[decide_eq_true_eq];omega)];simp only[Option.bind_some];rw[if_neg (by simp only[decide_eq_true_eq];omega),if_pos ⟨by omega,by omega⟩,Int.toNat_natCast,HN];simp only[Option.bind_some];by_cases e:gT (b.getD a 0)≤1
 ·rw[if_pos e,if_pos e];simp only;rw[if_pos (by simp only[decide_eq_true_eq];omega)];by_cases f:gT (b.getD a 0)=1
  ·rw[if_pos (by simp only[beq_iff_eq];omega),if_pos ⟨by omega,by omega⟩,if_pos f,wrap_i32 (by omega) (by omega)];rfl
  ·rw[if_neg (by simp only[beq_iff_eq];omega),if_neg f];rfl
 ·rw[if_neg e,if_neg e];simp only;have p:bitsOf .and .i32 (i32.wrap (b.getD a 0)) (Int.fdiv (127:Int) (2 ^ (min (gT (b.getD a 0):Int).toNat i32.bits)))=rE b a 0:=by
   have u:Int.fdiv (127:Int) (2 ^ (min (gT (b.getD a 0):Int).toNat i32.bits))=((2 ^ (7 - gT (b.getD a 0)) - 1:Nat):Int):=by
    generalize gT (b.getD a 0)=n at e j;have:n=2∨n=3∨n=4:=by omega
    rcases this with rfl | rfl | rfl <;> decide
   rw[u,wrap_i32 (by omega) (by omega),DA hc.1 (by omega) (by omega)];rfl
  rw[if_neg (by simp only[decide_eq_true_eq];omega),if_pos ⟨by omega,by omega⟩,if_pos (by omega),p,Jr hl ha (by omega)];simp only[Option.bind_some];by_cases q:iv b a=gT (b.getD a 0) - 1
  ·rw[if_pos q,if_pos q]
  ·rw[if_neg q,if_neg q]
end
theorem FL{b:QK}{a:Nat}(ha:a<b.length):1≤(sP b a).2∧(sP b a).2≤4∧a+(sP b a).2≤b.length:=by
 have f:=Gg b a;have key:a+(iv b a+1)≤b.length:=by
  rcases Nat.eq_zero_or_pos (iv b a)with e | e
  ·omega
  ·have:=(CO (zz (b:=b) (a:=a) e (Nat.le_refl _))).1;omega
 unfold sP;split
 ·exact⟨Nat.le_refl _,by simp,ha⟩
 ·split
  ·exact⟨by simp,by simp only;omega,key⟩
  ·exact⟨by simp,by simp only;omega,key⟩
def Cv:Int→Qx→Int→Prop
 | a,[],n=>a=n
 | a,x::r,n=>x.2.1=a∧1≤x.2.2∧x.2.2≤4∧Cv (a+x.2.2) r n
theorem Cv.snoc{x:Int×Int×Int}:∀ {a m:Int} {s:Qx},Cv a s m→x.2.1=m→1≤x.2.2→x.2.2≤4→Cv a (s++[x]) (m+x.2.2)
 | a,m,[],h,e,f,j=>by
  simp only[Cv]at h;subst h;exact⟨e,f,j,rfl⟩
 | a,m,y::s,h,e,f,j=>⟨h.1,h.2.1,h.2.2.1,h.2.2.2.snoc e f j⟩
theorem Hg{b:QK}(hb:Bytes b)(hl:b.length≤4096):∃s,mP b=some s∧Cv 0 s (b.length:Int)∧s.length≤b.length:=by
 obtain⟨r,f,j⟩:=cW (body:=jN b) (fun s=>∃a:Nat,s.2=(a:Int)∧a≤b.length∧Cv 0 s.1 (a:Int)∧s.1.length≤a) (fun s=>b.length - s.2.toNat) (fun r=>Cv 0 r (b.length:Int)∧r.length≤b.length) (by
  rintro⟨out,p⟩ ⟨a,rfl,ha,hc,e⟩;simp only at hc e;by_cases h:a<b.length
  ·left
   obtain⟨u,v,q⟩:=FL h;have h':(a:Int)<(b.length:Int):=by omega
   refine⟨(out++[((sP b a).1,((a:Int),((sP b a).2:Int)))],((a+(sP b a).2:Nat):Int)),?_,⟨a+(sP b a).2,rfl,q,?_,by simp;omega⟩,by simp only[Int.toNat_natCast];omega⟩
   ·simp only[jN,h',decide_true,if_true,CS hb (by omega) h,Option.bind,List.length_singleton];rw[if_pos (by omega),wrap_i64 (by omega) (by omega)];rfl
   ·have:=hc.snoc (x:=((sP b a).1,((a:Int),((sP b a).2:Int)))) rfl (by simp only;omega) (by simp only;omega);simpa using this
  ·right
   obtain rfl:a=b.length:=by omega
   exact⟨out,by simp[jN],hc,e⟩) (s:=([],0)) ⟨0,rfl,by omega,rfl,by simp⟩
 refine⟨r,?_,j⟩;unfold mP;rw[f];rfl
theorem Dm{t:Option ((fh 4352)×List (fh 256))}{f:Int→Int}(ht:n6 t f){s:Qx}(z:s.length≤4096):cE t s=some (s.map fun x=>f x.1):=by
 have p:bd t=fun r=>some (f r):=ht
 have u:iter (dA t s) (List.replicate s.length 0,((0:Nat):Int))=some (s.map fun x=>f x.1):=by
  refine gB (fun k=>((s.take k).map (fun x=>f x.1)++List.replicate (s.length - k) 0,(k:Int))) s.length (fun k hk=>?_) ?_ |> fun h=>by simpa using h
  ·have q:(k:Int)<(s.length:Int):=by omega
   have v:0≤(k:Int):=by omega
   have e:((s.take k).map (fun x:Int×Int×Int=>f x.1)++List.replicate (s.length - k) (0:Int)).length=s.length:=by simp;omega
   have j:((s.take k).map (fun x=>f x.1)++List.replicate (s.length - k) (0:Int)).set k (f (s.getD k (0,(0,0))).1)=(s.take (k+1)).map (fun x=>f x.1)++List.replicate (s.length - (k+1)) 0:=by rw[p0 (d:=(0,(0,0))) hk,List.map_append,List.set_append_right _ _ (by simp;omega),List.length_map,List.length_take,Nat.min_eq_left (by omega),Nat.sub_self,show s.length - k=(s.length - (k+1))+1 by omega,List.replicate_succ,List.set_cons_zero];simp
   simp only[dA,q,v,e,hk,and_self,decide_true,if_true,Int.toNat_natCast,p,Option.bind,j];rw[wrap_i64 (by omega) (by omega)];rfl
  ·have q:¬((s.length:Int)<(s.length:Int)):=by omega
   simp[dA]
 unfold cE;rw[if_pos (by omega),Int.toNat_natCast];exact congrArg (fun x=>Option.bind x fun o=>some o) u
end Go.Proofs.YtflahpmlcfhpcaaGreatDoor.T
