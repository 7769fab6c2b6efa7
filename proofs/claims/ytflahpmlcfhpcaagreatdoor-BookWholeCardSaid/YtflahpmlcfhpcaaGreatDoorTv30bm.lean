import Derived.Test.YtflahpmlcfhpcaaGreatDoorTvT20da
import Derived.Test.YtflahpmlcfhpcaaGreatDoorTvYm
import Derived.KernelRfl
namespace Go.Proofs.YtflahpmlcfhpcaaGreatDoor.T
open Go Go.Tv Go.Proofs
open Go.IntKind (i32 i64)
noncomputable section
def CB(l:Qx):Nat→Int→QK
 | 0,_=>[]
 | n+1,r=>atR l r::CB l n (r+1)
theorem A4(l):∀n r,(CB l n r).length=n
 | 0,_=>rfl
 | n+1,r=>by simp[CB,A4 l n]
theorem AM(l):∀n r c,c<n→(CB l n r).getD c 0=atR l (r+c)
 | n+1,r,0,_=>by simp[CB]
 | n+1,r,c+1,h=>by
  simp only[CB,List.getD_cons_succ];rw[AM l n (r+1) c (by omega)];congr 1;omega
def CU(l:Qx):Nat→Int→List (fb 256)
 | 0,_=>[]
 | n+1,i=>⟨CB l 256 (256*i),A4 l 256 _⟩::CU l n (i+1)
theorem Bc(l):∀n i,(CU l n i).length=n
 | 0,_=>rfl
 | n+1,i=>by simp[CU,Bc l n]
theorem AS(l):∀n i q,q<n→∀c:Nat,c<256→fy ((CU l n i).getD q (dq 256)) c=atR l (256*(i+q)+c)
 | n+1,i,0,_,c,hc=>by
  simp only[CU,List.getD_cons_zero,fy];rw[AM l 256 _ c hc];congr 1;omega
 | n+1,i,q+1,h,c,hc=>by
  simp only[CU,List.getD_cons_succ];rw[AS l n (i+1) q (by omega) c hc];congr 1;omega
def BT:Nat→Int→QK
 | 0,_=>[]
 | n+1,i=>i::BT n (i+1)
theorem zR:∀n i,(BT n i).length=n
 | 0,_=>rfl
 | n+1,i=>by simp[BT,zR n]
theorem zO:∀n i j,j<n→(BT n i).getD j 0=i+j
 | n+1,i,0,_=>by simp[BT]
 | n+1,i,j+1,h=>by
  simp only[BT,List.getD_cons_succ];rw[zO n (i+1) j (by omega)];omega
def Iw(l:Qx):(fb 4352)×List (fb 256):=(⟨BT 4352 0,zR _ _⟩,CU l 4352 0)
theorem zi{l:Qx}(f:Rp l):nZ (some (Iw l)) (Ga l):=by
 refine FG f fun j e=>⟨j,?_,?_,fun c hc=>?_⟩
 ·simp only[fy];rw[zO _ _ _ e];omega
 ·rw[Bc];exact e
 ·rw[AS l 4352 0 j e c hc];congr 1;omega
theorem uT{t c:Option ((fb 4352)×List (fb 256))}(h:bf t=bf c)(l:Qx):cD t l=cD c l:=by
 unfold cD dh;rw[h]
theorem As{t c:Option ((fb 4352)×List (fb 256))}(h:bf t=bf c)(l:Qx)(e f:QK)(j:List Bool):gr l e f j t=gr l e f j c:=by
 unfold gr kT dr;rw[h]
theorem Cy{e f h j p q u v z}(A:bf j=bf u)(B:bf p=bf v)(C:bf q=bf z)(x:QK):
  bc (some (e,f,j,p,q,h)) x=bc (some (e,f,u,v,z,h)) x:=by
 unfold bc;simp only[Option.getD,Option.isNone,Option.isSome,uT A,uT B,As C]
/-! ### D example -/
def jT:Qx:=[(10,(10,2)),(32,(32,1))]
def lU:Qx:=[(32,(126,1))]
def Fy:QX:=[99,108,97,115,115,32,79,59,32,109,97,121,32,79,32,47,32,79,59]
def FF:QX:=[99,108,97,115,115,32,79,32,83,32,78,59,32,107,101,101,112,32,83,32,47,32,83,59,32,109,97,121,32,83,32,47,32,46,59,32,109,117,115,116,32,78,32,47,32,46,59,32,107,101,101,112,32,46,32,47,32,46,59]
def FB:=((iI Fy).getD (none,0,0)).1
def GL:=((iI FF).getD (none,0,0)).1
def Ly:=((mD [] [] 2 2).getD (none,0,0)).1
theorem IB:iI Fy=some (FB,0,0):=by kernel_rfl
theorem Ic:iI FF=some (GL,0,0):=by kernel_rfl
theorem JU:mD [] [] 2 2=some (Ly,0,0):=by kernel_rfl
theorem Mj:cq FB=some 1:=by kernel_rfl
theorem L4:cq GL=some 3:=by kernel_rfl
theorem yB{l:Qx}{most:Int}(h:tT l most=true):∃t,fU l most=some (some t,0)∧nZ (some t) (Ga l):=by
 rcases td l most with⟨_,j⟩ | ⟨t,e,_,f⟩
 ·rw[h]at j;cases j
 ·exact⟨t,e,f⟩
theorem KH:∃e f j,jS [] jT lU [] Fy FF [] 2 2=some (some (FB,GL,some e,some f,some j,Ly),0,0)∧nZ (some e) (Ga [])∧nZ (some f) (Ga jT)∧nZ (some j) (Ga lU):=by
 obtain⟨e,p,q⟩:=yB (l:=[]) (most:=1) (by decide);obtain⟨f,u,v⟩:=yB (l:=jT) (most:=3) (by decide);obtain⟨j,x,z⟩:=yB (l:=lU) (most:=3) (by decide);refine⟨e,f,j,?_,q,v,z⟩;unfold jS;rw[IB,Ic];simp only[Option.bind,Mj,L4,p,u,x,JU];rfl
theorem yy:Rp []∧Rp jT∧Rp lU:=⟨oe (most:=1) (by decide),oe (most:=3) (by decide),oe (most:=3) (by decide)⟩
def MA:Option Z1:=some (FB,GL,some (Iw []),some (Iw jT),some (Iw lU),Ly)
theorem J5{e f j}(p:nZ (some e) (Ga []))(q:nZ (some f) (Ga jT))(u:nZ (some j) (Ga lU))(x:QK):
  bc (some (FB,GL,some e,some f,some j,Ly)) x=bc MA x :=
 Cy (p.trans (zi yy.1).symm) (q.trans (zi yy.2.1).symm) (u.trans (zi yy.2.2).symm) x
end
end Go.Proofs.YtflahpmlcfhpcaaGreatDoor.T
namespace Go.Proofs.YtflahpmlcfhpcaaGreatDoor.T
open Go Go.Tv Go.Proofs
open Go.IntKind (i32 i64)
def Bytes(b:QK):Prop:=∀x∈b,0≤x∧x≤255
theorem Bytes.get{b:QK}(h:Bytes b)(i:Nat):0≤b.getD i 0∧b.getD i 0≤255:=by
 rcases Nat.lt_or_ge i b.length with hi | hi
 ·exact h _ (sV hi)
 ·rw[List.getD_eq_getElem?_getD,List.getElem?_eq_none hi];simp
def gS(c:Int):Nat:=if c<128 then 1 else if 194≤c∧c≤223 then 2 else if 224≤c∧c≤239 then 3 else if 240≤c∧c≤244 then 4 else 0
def I6(c:Int):Int:=if c=224 then 160 else if c=240 then 144 else 128
def I1(c:Int):Int:=if c=237 then 159 else if c=244 then 143 else 191
theorem HQ(c:Int):mA c=some (if gS c≤1 then((gS c:Int),0,0)else((gS c:Int),I6 c,I1 c)):=by
 unfold mA gS I6 I1;by_cases j:c<128
 ·rw[if_pos (by simpa using j),if_pos j,if_pos (by omega)];rfl
 rw[if_neg (by simpa using j),if_neg j];by_cases p:c<194
 ·rw[if_pos (by simpa using p),if_neg (c:=194≤c∧c≤223) (by omega),if_neg (c:=224≤c∧c≤239) (by omega),if_neg (c:=240≤c∧c≤244) (by omega)];rfl
 rw[if_neg (by simpa using p)];by_cases q:c > 244
 ·rw[if_neg (c:=194≤c∧c≤223) (by omega),if_neg (c:=224≤c∧c≤239) (by omega),if_neg (c:=240≤c∧c≤244) (by omega)];simp only[Option.bind_some];rw[if_pos (by simpa using q)];rfl
 simp only[Option.bind_some];rw[if_neg (by simpa using q)];by_cases u:c<224
 ·rw[if_pos (by simpa using u),if_pos (c:=194≤c∧c≤223) (by omega),if_neg (by omega),if_neg (c:=c=224) (by omega),if_neg (c:=c=240) (by omega),if_neg (c:=c=237) (by omega),if_neg (c:=c=244) (by omega)];rfl
 rw[if_neg (by simpa using u),if_neg (c:=194≤c∧c≤223) (by omega)];by_cases v:c≤239
 ·rw[if_pos (c:=224≤c∧c≤239) (by omega),if_neg (c:=(3:Nat)≤1) (by omega),if_neg (c:=c=240) (by omega),if_neg (c:=c=244) (by omega)];by_cases e:c=224
  ·subst e;rfl
  rw[if_neg (by simpa using e),if_neg e];by_cases f:c=237
  ·subst f;rfl
  rw[if_neg (by simpa using f),if_neg f,if_pos (by simp only[decide_eq_true_eq];omega)];rfl
 rw[if_neg (c:=224≤c∧c≤239) (by omega),if_pos (c:=240≤c∧c≤244) (by omega),if_neg (c:=(4:Nat)≤1) (by omega),if_neg (c:=c=224) (by omega),if_neg (c:=c=237) (by omega),
  if_neg (by simp only[beq_iff_eq];omega),if_neg (by simp only[beq_iff_eq];omega),if_neg (by simp only[decide_eq_true_eq];omega)]
 by_cases e:c=240
 ·subst e;rfl
 rw[if_neg (by simpa using e),if_neg e];by_cases f:c=244
 ·subst f;rfl
 rw[if_neg (by simpa using f),if_neg f];rfl
theorem uA(c:Int):gS c≤4:=by unfold gS;split;omega;split;omega;split;omega;split <;> omega
def HY(b:QK)(a k:Nat):Bool:=decide (a+k<b.length∧(if k=1 then I6 (b.getD a 0)else 128)≤b.getD (a+k) 0∧b.getD (a+k) 0≤(if k=1 then I1 (b.getD a 0)else 191))
def iq(b:QK)(a:Nat):Nat:=ml (fun j=> !HY b a (j+1)) (gS (b.getD a 0) - 1)
def rj(b:QK)(a:Nat):Nat→Int
 | 0=>b.getD a 0 % ((2 ^ (7 - gS (b.getD a 0)):Nat):Int)
 | k+1=>rj b a k*64+(b.getD (a+(k+1)) 0 - 128)
def so(b:QK)(a:Nat):Int×Nat :=
 if gS (b.getD a 0)≤1 then(if gS (b.getD a 0)=1 then b.getD a 0 else 65533,1)
 else if iq b a=gS (b.getD a 0) - 1 then(rj b a (iq b a),iq b a+1)else(65533,iq b a+1)
theorem DC(b:QK)(a:Nat):iq b a≤gS (b.getD a 0) - 1:=xI _ _
theorem yN{b:QK}{a k:Nat}(f:1≤k)(e:k≤iq b a):HY b a k=true:=by
 have:=ym (fun j=> !HY b a (j+1)) (gS (b.getD a 0) - 1) (j:=k - 1) (by unfold iq at e;omega);rw[show k - 1+1=k by omega]at this;simpa using this
theorem Hq{b:QK}{a:Nat}(h:iq b a<gS (b.getD a 0) - 1):HY b a (iq b a+1)=false:=by
 have:=yf (fun j=> !HY b a (j+1)) (gS (b.getD a 0) - 1) h;simp only[Bool.not_eq_true']at this;exact this
theorem CT{b:QK}{a k:Nat}(h:HY b a k=true):a+k<b.length∧128≤b.getD (a+k) 0∧b.getD (a+k) 0≤191:=by
 unfold HY at h;simp only[decide_eq_true_eq]at h;have e:128≤I6 (b.getD a 0):=by unfold I6;split;omega;split <;> omega
 have f:I1 (b.getD a 0)≤191:=by unfold I1;split;omega;split <;> omega
 split at h <;> omega
theorem DD{b:QK}{a:Nat}(hl:2≤gS (b.getD a 0)):∀k,k≤iq b a→0≤rj b a k∧rj b a k<32*((64 ^ k:Nat):Int)
 | 0,_=>by
  have j:=uA (b.getD a 0);simp only[rj];have p:(2:Nat) ^ (7 - gS (b.getD a 0))≤2 ^ 5:=Nat.pow_le_pow_right (by decide) (by omega);have f:0<(2:Nat) ^ (7 - gS (b.getD a 0)):=Nat.pow_pos (by decide);have q:(2:Nat) ^ 5=32:=by decide
  have:=Int.emod_nonneg (b.getD a 0) (show((2 ^ (7 - gS (b.getD a 0)):Nat):Int)≠0 by omega);have:=Int.emod_lt_of_pos (b.getD a 0) (show 0<((2 ^ (7 - gS (b.getD a 0)):Nat):Int) by omega);simp only[Nat.pow_zero];omega
 | k+1,hk=>by
  have u:=DD hl k (by omega);have v:=CT (yN (b:=b) (a:=a) (k:=k+1) (by omega) hk);simp only[rj];have e:((64 ^ (k+1):Nat):Int)=((64 ^ k:Nat):Int)*64:=by rw[Nat.pow_succ];omega
  rw[e];omega
theorem FO(b:QK)(a:Nat):iq b a≤3:=by have:=DC b a;have:=uA (b.getD a 0);omega
section
variable{b:QK}(hb:Bytes b)(hl:b.length≤1000000)
include hb hl
omit hb in
theorem Jm{a:Nat}(ha:a<b.length)(D:2≤gS (b.getD a 0)):
  iter (iv b (a:Int) (gS (b.getD a 0):Int)) (I6 (b.getD a 0),I1 (b.getD a 0),(1:Int),rj b a 0,(1:Int)) =
   some (if iq b a=gS (b.getD a 0) - 1 then Sum.inl (((iq b a+1:Nat):Int),rj b a (iq b a))else Sum.inr ((65533:Int),((a:Int),((iq b a+1:Nat):Int)))):=by
 have hc:=DC b a;have E:=FO b a;have N:=uA (b.getD a 0);have hi:=jk (body:=iv b (a:Int) (gS (b.getD a 0):Int)) (fun j=>(if j=0 then I6 (b.getD a 0)else 128,if j=0 then I1 (b.getD a 0)else 191,((j+1:Nat):Int),rj b a j,((j+1:Nat):Int))) (iq b a)
  (r:=if iq b a=gS (b.getD a 0) - 1 then Sum.inl (((iq b a+1:Nat):Int),rj b a (iq b a))else Sum.inr ((65533:Int),((a:Int),((iq b a+1:Nat):Int)))) (fun j O=>by
   have v:=yN (b:=b) (a:=a) (k:=j+1) (by omega) (by omega);have hin:=CT v;have f:=DD D j (by omega);unfold HY at v;simp only[decide_eq_true_eq,Nat.add_eq_right]at v;have B:((64 ^ j:Nat):Int)≤4096:=by have:(64:Nat) ^ j≤64 ^ 2:=Nat.pow_le_pow_right (by decide) (by omega);omega
   have z:i64.wrap ((a:Int)+((j+1:Nat):Int))=((a+(j+1):Nat):Int):=by rw[wrap_i64 (by omega) (by omega)];omega
   have I:i64.wrap (((j+1:Nat):Int)+1)=((j+1+1:Nat):Int):=by rw[wrap_i64 (by omega) (by omega)];omega
   have J:bitsOf .and .u8 (b.getD (a+(j+1)) 0) 63=b.getD (a+(j+1)) 0 - 128:=by
    have:=Ki (x:=b.getD (a+(j+1)) 0) (by omega) (by omega) (k:=6) (by decide);have A:((2 ^ 6 - 1:Nat):Int)=63:=by decide
    have e:((2 ^ 6:Nat):Int)=64:=by decide
    rw[A,e]at this;omega
   have L:i32.wrap (b.getD (a+(j+1)) 0 - 128)=b.getD (a+(j+1)) 0 - 128:=wrap_i32 (by omega) (by omega);have M:bitsOf .or .i32 (i32.wrap (rj b a j*2 ^ (min (6:Int).toNat i32.bits))) (b.getD (a+(j+1)) 0 - 128)=rj b a (j+1):=by
    have e:((2 ^ 6:Nat):Int)=64:=by decide
    have p:(2:Int) ^ (min (6:Int).toNat i32.bits)=64:=by decide
    have:=Ks (a:=rj b a j) (y:=b.getD (a+(j+1)) 0 - 128) (k:=6) f.1 (by omega) (by omega) (by omega);rw[e]at this;rw[p,wrap_i32 (by omega) (by omega),this];rfl
   simp only[iv,z,I,Int.toNat_natCast,J,L,M];rw[if_pos (by simp only[decide_eq_true_eq];omega),if_neg (by simp only[decide_eq_true_eq];omega),if_pos ⟨by omega,by omega⟩,if_neg (by simp only[decide_eq_true_eq];omega),if_pos ⟨by omega,by omega⟩];simp only[Option.bind_some];rw[if_neg (by simp only[decide_eq_true_eq];omega),if_pos (by decide),if_pos ⟨by omega,by omega⟩];simp only[Nat.add_one_ne_zero,if_false]) (by
   have z:i64.wrap ((a:Int)+((iq b a+1:Nat):Int))=((a+(iq b a+1):Nat):Int):=by rw[wrap_i64 (by omega) (by omega)];omega
   simp only[iv,z,Int.toNat_natCast];by_cases q:iq b a=gS (b.getD a 0) - 1
   ·rw[if_neg (by simp only[decide_eq_true_eq];omega),if_pos q]
   ·have u:=Hq (b:=b) (a:=a) (by omega);rw[if_pos (by simp only[decide_eq_true_eq];omega),if_neg q];unfold HY at u;simp only[decide_eq_false_iff_not,Nat.add_eq_right]at u;by_cases V:a+(iq b a+1)<b.length
    ·rw[if_neg (by simp only[decide_eq_true_eq];omega),if_pos ⟨by omega,by omega⟩];by_cases C:b.getD (a+(iq b a+1)) 0<(if iq b a=0 then I6 (b.getD a 0)else 128)
     ·rw[if_pos (by simpa using C)];rfl
     ·rw[if_neg (by simpa using C),if_pos ⟨by omega,by omega⟩];have:decide (b.getD (a+(iq b a+1)) 0 > (if iq b a=0 then I1 (b.getD a 0)else 191))=true:=by simp only[decide_eq_true_eq];omega
      rw[this];rfl
    ·rw[if_pos (by simp only[decide_eq_true_eq];omega)];rfl)
 exact hi
theorem BZ{a:Nat}(ha:a<b.length):oH b (a:Int)=some ((so b a).1,((a:Int),((so b a).2:Int))):=by
 have hc:=hb.get a;have j:=uA (b.getD a 0);unfold oH so;rw[if_neg (by simp only[decide_eq_true_eq];omega)];simp only[Option.bind_some];rw[if_neg (by simp only[decide_eq_true_eq];omega),if_pos ⟨by omega,by omega⟩,Int.toNat_natCast,HQ];simp only[Option.bind_some];by_cases e:gS (b.getD a 0)≤1
 ·rw[if_pos e,if_pos e];simp only;rw[if_pos (by simp only[decide_eq_true_eq];omega)];by_cases f:gS (b.getD a 0)=1
  ·rw[if_pos (by simp only[beq_iff_eq];omega),if_pos ⟨by omega,by omega⟩,if_pos f,wrap_i32 (by omega) (by omega)];rfl
  ·rw[if_neg (by simp only[beq_iff_eq];omega),if_neg f];rfl
 ·rw[if_neg e,if_neg e];simp only;have p:bitsOf .and .i32 (i32.wrap (b.getD a 0)) (Int.fdiv (127:Int) (2 ^ (min (gS (b.getD a 0):Int).toNat i32.bits)))=rj b a 0:=by
   have u:Int.fdiv (127:Int) (2 ^ (min (gS (b.getD a 0):Int).toNat i32.bits))=((2 ^ (7 - gS (b.getD a 0)) - 1:Nat):Int):=by
    generalize gS (b.getD a 0)=n at e j;have:n=2∨n=3∨n=4:=by omega
    rcases this with rfl | rfl | rfl <;> decide
   rw[u,wrap_i32 (by omega) (by omega),Dv hc.1 (by omega) (by omega)];rfl
  rw[if_neg (by simp only[decide_eq_true_eq];omega),if_pos ⟨by omega,by omega⟩,if_pos (by omega),p,Jm hl ha (by omega)];simp only[Option.bind_some];by_cases q:iq b a=gS (b.getD a 0) - 1
  ·rw[if_pos q,if_pos q]
  ·rw[if_neg q,if_neg q]
end
theorem Hl{b:QK}{a:Nat}(ha:a<b.length):1≤(so b a).2∧(so b a).2≤4∧a+(so b a).2≤b.length:=by
 have f:=FO b a;have key:a+(iq b a+1)≤b.length:=by
  rcases Nat.eq_zero_or_pos (iq b a)with e | e
  ·omega
  ·have:=(CT (yN (b:=b) (a:=a) e (Nat.le_refl _))).1;omega
 unfold so;split
 ·exact⟨Nat.le_refl _,by simp,ha⟩
 ·split
  ·exact⟨by simp,by simp only;omega,key⟩
  ·exact⟨by simp,by simp only;omega,key⟩
def Cv:Int→Qx→Int→Prop
 | a,[],n=>a=n
 | a,x::r,n=>x.2.1=a∧1≤x.2.2∧x.2.2≤4∧Cv (a+x.2.2) r n
theorem Cv.snoc{x:Int×Int×Int}:∀ {a m:Int} {s:Qx},Cv a s m→x.2.1=m→1≤x.2.2→x.2.2≤4→Cv a (s++[x]) (m+x.2.2)
 | a,m,[],h,e,f,j=>by
  simp only[Cv]at h;subst h;exact⟨e,f,j,rfl⟩
 | a,m,y::s,h,e,f,j=>⟨h.1,h.2.1,h.2.2.1,h.2.2.2.snoc e f j⟩
theorem G1{b:QK}(hb:Bytes b)(hl:b.length≤4096):∃s,mJ b=some s∧Cv 0 s (b.length:Int)∧s.length≤b.length:=by
 obtain⟨r,f,j⟩:=dn (body:=jE b) (fun s=>∃a:Nat,s.2=(a:Int)∧a≤b.length∧Cv 0 s.1 (a:Int)∧s.1.length≤a) (fun s=>b.length - s.2.toNat) (fun r=>Cv 0 r (b.length:Int)∧r.length≤b.length) (by
  rintro⟨out,p⟩ ⟨a,rfl,ha,hc,e⟩;simp only at hc e;by_cases h:a<b.length
  ·left
   obtain⟨u,v,q⟩:=Hl h;have h':(a:Int)<(b.length:Int):=by omega
   refine⟨(out++[((so b a).1,((a:Int),((so b a).2:Int)))],((a+(so b a).2:Nat):Int)),?_,⟨a+(so b a).2,rfl,q,?_,by simp;omega⟩,by simp only[Int.toNat_natCast];omega⟩
   ·simp only[jE,h',decide_true,if_true,BZ hb (by omega) h,Option.bind,List.length_singleton];rw[if_pos (by omega),wrap_i64 (by omega) (by omega)];rfl
   ·have:=hc.snoc (x:=((so b a).1,((a:Int),((so b a).2:Int)))) rfl (by simp only;omega) (by simp only;omega);simpa using this
  ·right
   obtain rfl:a=b.length:=by omega
   exact⟨out,by simp[jE],hc,e⟩) (s:=([],0)) ⟨0,rfl,by omega,rfl,by simp⟩
 refine⟨r,?_,j⟩;unfold mJ;rw[f];rfl
theorem Dz{t:Option ((fb 4352)×List (fb 256))}{f:Int→Int}(ht:nZ t f){s:Qx}(z:s.length≤4096):cD t s=some (s.map fun x=>f x.1):=by
 have p:bf t=fun r=>some (f r):=ht
 have u:iter (dh t s) (List.replicate s.length 0,((0:Nat):Int))=some (s.map fun x=>f x.1):=by
  refine jk (fun k=>((s.take k).map (fun x=>f x.1)++List.replicate (s.length - k) 0,(k:Int))) s.length (fun k hk=>?_) ?_ |> fun h=>by simpa using h
  ·have q:(k:Int)<(s.length:Int):=by omega
   have v:0≤(k:Int):=by omega
   have e:((s.take k).map (fun x:Int×Int×Int=>f x.1)++List.replicate (s.length - k) (0:Int)).length=s.length:=by simp;omega
   have j:((s.take k).map (fun x=>f x.1)++List.replicate (s.length - k) (0:Int)).set k (f (s.getD k (0,(0,0))).1)=(s.take (k+1)).map (fun x=>f x.1)++List.replicate (s.length - (k+1)) 0:=by rw[qc (d:=(0,(0,0))) hk,List.map_append,List.set_append_right _ _ (by simp;omega),List.length_map,List.length_take,Nat.min_eq_left (by omega),Nat.sub_self,show s.length - k=(s.length - (k+1))+1 by omega,List.replicate_succ,List.set_cons_zero];simp
   simp only[dh,q,v,e,hk,and_self,decide_true,if_true,Int.toNat_natCast,p,Option.bind,j];rw[wrap_i64 (by omega) (by omega)];rfl
  ·have q:¬((s.length:Int)<(s.length:Int)):=by omega
   simp[dh]
 unfold cD;rw[if_pos (by omega),Int.toNat_natCast];exact congrArg (fun x=>Option.bind x fun o=>some o) u
end Go.Proofs.YtflahpmlcfhpcaaGreatDoor.T
