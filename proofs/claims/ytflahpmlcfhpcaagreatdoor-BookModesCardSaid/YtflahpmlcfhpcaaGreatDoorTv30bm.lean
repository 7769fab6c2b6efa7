import Derived.Test.YtflahpmlcfhpcaaGreatDoorTvT20da
import Derived.Test.YtflahpmlcfhpcaaGreatDoorTvYm
import Derived.KernelRfl
namespace Go.Proofs.YtflahpmlcfhpcaaGreatDoor.T
open Go Go.Tv Go.Proofs
open Go.IntKind (i32 i64)
noncomputable section
def CI(l:Qx):Nat→Int→QK
 | 0,_=>[]
 | n+1,r=>atR l r::CI l n (r+1)
theorem Am(l):∀n r,(CI l n r).length=n
 | 0,_=>rfl
 | n+1,r=>by simp[CI,Am l n]
theorem AQ(l):∀n r c,c<n→(CI l n r).getD c 0=atR l (r+c)
 | n+1,r,0,_=>by simp[CI]
 | n+1,r,c+1,h=>by
  simp only[CI,List.getD_cons_succ];rw[AQ l n (r+1) c (by omega)];congr 1;omega
def CT(l:Qx):Nat→Int→List (eY 256)
 | 0,_=>[]
 | n+1,i=>⟨CI l 256 (256*i),Am l 256 _⟩::CT l n (i+1)
theorem AY(l):∀n i,(CT l n i).length=n
 | 0,_=>rfl
 | n+1,i=>by simp[CT,AY l n]
theorem zG(l):∀n i q,q<n→∀c:Nat,c<256→fq ((CT l n i).getD q (dp 256)) c=atR l (256*(i+q)+c)
 | n+1,i,0,_,c,hc=>by
  simp only[CT,List.getD_cons_zero,fq];rw[AQ l 256 _ c hc];congr 1;omega
 | n+1,i,q+1,h,c,hc=>by
  simp only[CT,List.getD_cons_succ];rw[zG l n (i+1) q (by omega) c hc];congr 1;omega
def CC:Nat→Int→QK
 | 0,_=>[]
 | n+1,i=>i::CC n (i+1)
theorem Al:∀n i,(CC n i).length=n
 | 0,_=>rfl
 | n+1,i=>by simp[CC,Al n]
theorem Ap:∀n i j,j<n→(CC n i).getD j 0=i+j
 | n+1,i,0,_=>by simp[CC]
 | n+1,i,j+1,h=>by
  simp only[CC,List.getD_cons_succ];rw[Ap n (i+1) j (by omega)];omega
def Ih(l:Qx):(eY 4352)×List (eY 256):=(⟨CC 4352 0,Al _ _⟩,CT l 4352 0)
theorem y4{l:Qx}(f:Rp l):nW (some (Ih l)) (GI l):=by
 refine Gf f fun j e=>⟨j,?_,?_,fun c hc=>?_⟩
 ·simp only[fq];rw[Ap _ _ _ e];omega
 ·rw[AY];exact e
 ·rw[zG l 4352 0 j e c hc];congr 1;omega
theorem uM{t c:Option ((eY 4352)×List (eY 256))}(h:bd t=bd c)(l:Qx):cy t l=cy c l:=by
 unfold cy dg;rw[h]
theorem BG{t c:Option ((eY 4352)×List (eY 256))}(h:bd t=bd c)(l:Qx)(e f:QK)(j:List Bool):gw l e f j t=gw l e f j c:=by
 unfold gw lu dw;rw[h]
theorem BS{e f h j p q u v z}(A:bd j=bd u)(B:bd p=bd v)(C:bd q=bd z)(x:QK):
  bc (some (e,f,j,p,q,h)) x=bc (some (e,f,u,v,z,h)) x:=by
 unfold bc;simp only[Option.getD,Option.isNone,Option.isSome,uM A,uM B,BG C]
/-! ### D example -/
def jK:Qx:=[(10,(10,2)),(32,(32,1))]
def lS:Qx:=[(32,(126,1))]
def Fs:QX:=[99,108,97,115,115,32,79,59,32,109,97,121,32,79,32,47,32,79,59]
def Gl:QX:=[99,108,97,115,115,32,79,32,83,32,78,59,32,107,101,101,112,32,83,32,47,32,83,59,32,109,97,121,32,83,32,47,32,46,59,32,109,117,115,116,32,78,32,47,32,46,59,32,107,101,101,112,32,46,32,47,32,46,59]
def Hh:=((iI Fs).getD (none,0,0)).1
def GW:=((iI Gl).getD (none,0,0)).1
def Lb:=((mQ [] [] 2 2).getD (none,0,0)).1
theorem HD:iI Fs=some (Hh,0,0):=by kernel_rfl
theorem HW:iI Gl=some (GW,0,0):=by kernel_rfl
theorem I7:mQ [] [] 2 2=some (Lb,0,0):=by kernel_rfl
theorem LX:cj Hh=some 1:=by kernel_rfl
theorem Lo:cj GW=some 3:=by kernel_rfl
theorem zy{l:Qx}{most:Int}(h:tF l most=true):∃t,fS l most=some (some t,0)∧nW (some t) (GI l):=by
 rcases tW l most with⟨_,j⟩ | ⟨t,e,_,f⟩
 ·rw[h]at j;cases j
 ·exact⟨t,e,f⟩
theorem KD:∃e f j,jX [] jK lS [] Fs Gl [] 2 2=some (some (Hh,GW,some e,some f,some j,Lb),0,0)∧nW (some e) (GI [])∧nW (some f) (GI jK)∧nW (some j) (GI lS):=by
 obtain⟨e,p,q⟩:=zy (l:=[]) (most:=1) (by decide);obtain⟨f,u,v⟩:=zy (l:=jK) (most:=3) (by decide);obtain⟨j,x,z⟩:=zy (l:=lS) (most:=3) (by decide);refine⟨e,f,j,?_,q,v,z⟩;unfold jX;rw[HD,HW];simp only[Option.bind,LX,Lo,p,u,x,I7];rfl
theorem yw:Rp []∧Rp jK∧Rp lS:=⟨oJ (most:=1) (by decide),oJ (most:=3) (by decide),oJ (most:=3) (by decide)⟩
def L7:Option Z1:=some (Hh,GW,some (Ih []),some (Ih jK),some (Ih lS),Lb)
theorem Jx{e f j}(p:nW (some e) (GI []))(q:nW (some f) (GI jK))(u:nW (some j) (GI lS))(x:QK):
  bc (some (Hh,GW,some e,some f,some j,Lb)) x=bc L7 x :=
 BS (p.trans (y4 yw.1).symm) (q.trans (y4 yw.2.1).symm) (u.trans (y4 yw.2.2).symm) x
end
end Go.Proofs.YtflahpmlcfhpcaaGreatDoor.T
namespace Go.Proofs.YtflahpmlcfhpcaaGreatDoor.T
open Go Go.Tv Go.Proofs
open Go.IntKind (i32 i64)
def Bytes(b:QK):Prop:=∀x∈b,0≤x∧x≤255
theorem Bytes.get{b:QK}(h:Bytes b)(i:Nat):0≤b.getD i 0∧b.getD i 0≤255:=by
 rcases Nat.lt_or_ge i b.length with hi | hi
 ·exact h _ (xI hi)
 ·rw[List.getD_eq_getElem?_getD,List.getElem?_eq_none hi];simp
def gP(c:Int):Nat:=if c<128 then 1 else if 194≤c∧c≤223 then 2 else if 224≤c∧c≤239 then 3 else if 240≤c∧c≤244 then 4 else 0
def IV(c:Int):Int:=if c=224 then 160 else if c=240 then 144 else 128
def IK(c:Int):Int:=if c=237 then 159 else if c=244 then 143 else 191
theorem HQ(c:Int):my c=some (if gP c≤1 then((gP c:Int),0,0)else((gP c:Int),IV c,IK c)):=by
 unfold my gP IV IK;by_cases j:c<128
 ·rw[if_pos (by simpa using j),if_pos j,if_pos (by omega)];rfl
 rw[if_neg (by simpa using j),if_neg j];by_cases p:c<194
 ·rw[if_pos (by simpa using p),if_neg (c:=194≤c∧c≤223) (by omega),if_neg (c:=224≤c∧c≤239) (by omega),if_neg (c:=240≤c∧c≤244) (by omega)];rfl
 rw[if_neg (by simpa using p)];by_cases q:c > 244
 ·rw[if_neg (c:=194≤c∧c≤223) (by omega),if_neg (c:=224≤c∧c≤239) (by omega),if_neg (c:=240≤c∧c≤244) (by omega)];simp only[Option.bind_some];rw[if_pos (by simpa using q)];rfl
 simp only[Option.bind_some];rw[if_neg (by simpa using q)];by_cases u:c<224
 ·rw[if_pos (by simpa using u),if_pos (c:=194≤c∧c≤223) (by omega),if_neg (by omega),if_neg (c:=c=224) (by omega),if_neg (c:=c=240) (by omega),if_neg (c:=c=237) (by omega),if_neg (c:=c=244) (by omega)];rfl
 rw[if_neg (by simpa using u),if_neg (c:=194≤c∧c≤223) (by omega)];by_cases v:c≤239
 ·rw[if_pos (c:=224≤c∧c≤239) (by omega),if_neg (c:=(3:Nat)≤1) (by omega),if_neg (c:=c=240) (by omega),if_neg (c:=c=244) (by omega)];by_cases e:c=224
  ·subst e;rfl
  rw[if_neg (by simpa using e),if_neg e];by_cases f:c=237
  ·subst f;rfl
  rw[if_neg (by simpa using f),if_neg f,if_pos (by simp only[decide_eq_true_eq];omega)];rfl
 rw[if_neg (c:=224≤c∧c≤239) (by omega),if_pos (c:=240≤c∧c≤244) (by omega),if_neg (c:=(4:Nat)≤1) (by omega),if_neg (c:=c=224) (by omega),if_neg (c:=c=237) (by omega),
  if_neg (by simp only[beq_iff_eq];omega),if_neg (by simp only[beq_iff_eq];omega),if_neg (by simp only[decide_eq_true_eq];omega)]
 by_cases e:c=240
 ·subst e;rfl
 rw[if_neg (by simpa using e),if_neg e];by_cases f:c=244
 ·subst f;rfl
 rw[if_neg (by simpa using f),if_neg f];rfl
theorem uA(c:Int):gP c≤4:=by unfold gP;split;omega;split;omega;split;omega;split <;> omega
def Iz(b:QK)(a k:Nat):Bool:=decide (a+k<b.length∧(if k=1 then IV (b.getD a 0)else 128)≤b.getD (a+k) 0∧b.getD (a+k) 0≤(if k=1 then IK (b.getD a 0)else 191))
def ir(b:QK)(a:Nat):Nat:=mi (fun j=> !Iz b a (j+1)) (gP (b.getD a 0) - 1)
def qP(b:QK)(a:Nat):Nat→Int
 | 0=>b.getD a 0 % ((2 ^ (7 - gP (b.getD a 0)):Nat):Int)
 | k+1=>qP b a k*64+(b.getD (a+(k+1)) 0 - 128)
def sD(b:QK)(a:Nat):Int×Nat :=
 if gP (b.getD a 0)≤1 then(if gP (b.getD a 0)=1 then b.getD a 0 else 65533,1)
 else if ir b a=gP (b.getD a 0) - 1 then(qP b a (ir b a),ir b a+1)else(65533,ir b a+1)
theorem Di(b:QK)(a:Nat):ir b a≤gP (b.getD a 0) - 1:=xY _ _
theorem y3{b:QK}{a k:Nat}(f:1≤k)(e:k≤ir b a):Iz b a k=true:=by
 have:=xJ (fun j=> !Iz b a (j+1)) (gP (b.getD a 0) - 1) (j:=k - 1) (by unfold ir at e;omega);rw[show k - 1+1=k by omega]at this;simpa using this
theorem Gd{b:QK}{a:Nat}(h:ir b a<gP (b.getD a 0) - 1):Iz b a (ir b a+1)=false:=by
 have:=yi (fun j=> !Iz b a (j+1)) (gP (b.getD a 0) - 1) h;simp only[Bool.not_eq_true']at this;exact this
theorem BV{b:QK}{a k:Nat}(h:Iz b a k=true):a+k<b.length∧128≤b.getD (a+k) 0∧b.getD (a+k) 0≤191:=by
 unfold Iz at h;simp only[decide_eq_true_eq]at h;have e:128≤IV (b.getD a 0):=by unfold IV;split;omega;split <;> omega
 have f:IK (b.getD a 0)≤191:=by unfold IK;split;omega;split <;> omega
 split at h <;> omega
theorem DF{b:QK}{a:Nat}(hl:2≤gP (b.getD a 0)):∀k,k≤ir b a→0≤qP b a k∧qP b a k<32*((64 ^ k:Nat):Int)
 | 0,_=>by
  have j:=uA (b.getD a 0);simp only[qP];have p:(2:Nat) ^ (7 - gP (b.getD a 0))≤2 ^ 5:=Nat.pow_le_pow_right (by decide) (by omega);have f:0<(2:Nat) ^ (7 - gP (b.getD a 0)):=Nat.pow_pos (by decide);have q:(2:Nat) ^ 5=32:=by decide
  have:=Int.emod_nonneg (b.getD a 0) (show((2 ^ (7 - gP (b.getD a 0)):Nat):Int)≠0 by omega);have:=Int.emod_lt_of_pos (b.getD a 0) (show 0<((2 ^ (7 - gP (b.getD a 0)):Nat):Int) by omega);simp only[Nat.pow_zero];omega
 | k+1,hk=>by
  have u:=DF hl k (by omega);have v:=BV (y3 (b:=b) (a:=a) (k:=k+1) (by omega) hk);simp only[qP];have e:((64 ^ (k+1):Nat):Int)=((64 ^ k:Nat):Int)*64:=by rw[Nat.pow_succ];omega
  rw[e];omega
theorem GA(b:QK)(a:Nat):ir b a≤3:=by have:=Di b a;have:=uA (b.getD a 0);omega
section
variable{b:QK}(hb:Bytes b)(hl:b.length≤1000000)
include hb hl
omit hb in
theorem JN{a:Nat}(ha:a<b.length)(D:2≤gP (b.getD a 0)):
  iter (iD b (a:Int) (gP (b.getD a 0):Int)) (IV (b.getD a 0),IK (b.getD a 0),(1:Int),qP b a 0,(1:Int)) =
   some (if ir b a=gP (b.getD a 0) - 1 then Sum.inl (((ir b a+1:Nat):Int),qP b a (ir b a))else Sum.inr ((65533:Int),((a:Int),((ir b a+1:Nat):Int)))):=by
 have hc:=Di b a;have E:=GA b a;have N:=uA (b.getD a 0);have hi:=iq (body:=iD b (a:Int) (gP (b.getD a 0):Int)) (fun j=>(if j=0 then IV (b.getD a 0)else 128,if j=0 then IK (b.getD a 0)else 191,((j+1:Nat):Int),qP b a j,((j+1:Nat):Int))) (ir b a)
  (r:=if ir b a=gP (b.getD a 0) - 1 then Sum.inl (((ir b a+1:Nat):Int),qP b a (ir b a))else Sum.inr ((65533:Int),((a:Int),((ir b a+1:Nat):Int)))) (fun j O=>by
   have v:=y3 (b:=b) (a:=a) (k:=j+1) (by omega) (by omega);have hin:=BV v;have f:=DF D j (by omega);unfold Iz at v;simp only[decide_eq_true_eq,Nat.add_eq_right]at v;have B:((64 ^ j:Nat):Int)≤4096:=by have:(64:Nat) ^ j≤64 ^ 2:=Nat.pow_le_pow_right (by decide) (by omega);omega
   have z:i64.wrap ((a:Int)+((j+1:Nat):Int))=((a+(j+1):Nat):Int):=by rw[wrap_i64 (by omega) (by omega)];omega
   have I:i64.wrap (((j+1:Nat):Int)+1)=((j+1+1:Nat):Int):=by rw[wrap_i64 (by omega) (by omega)];omega
   have J:bitsOf .and .u8 (b.getD (a+(j+1)) 0) 63=b.getD (a+(j+1)) 0 - 128:=by
    have:=J2 (x:=b.getD (a+(j+1)) 0) (by omega) (by omega) (k:=6) (by decide);have A:((2 ^ 6 - 1:Nat):Int)=63:=by decide
    have e:((2 ^ 6:Nat):Int)=64:=by decide
    rw[A,e]at this;omega
   have L:i32.wrap (b.getD (a+(j+1)) 0 - 128)=b.getD (a+(j+1)) 0 - 128:=wrap_i32 (by omega) (by omega);have M:bitsOf .or .i32 (i32.wrap (qP b a j*2 ^ (min (6:Int).toNat i32.bits))) (b.getD (a+(j+1)) 0 - 128)=qP b a (j+1):=by
    have e:((2 ^ 6:Nat):Int)=64:=by decide
    have p:(2:Int) ^ (min (6:Int).toNat i32.bits)=64:=by decide
    have:=Kb (a:=qP b a j) (y:=b.getD (a+(j+1)) 0 - 128) (k:=6) f.1 (by omega) (by omega) (by omega);rw[e]at this;rw[p,wrap_i32 (by omega) (by omega),this];rfl
   simp only[iD,z,I,Int.toNat_natCast,J,L,M];rw[if_pos (by simp only[decide_eq_true_eq];omega),if_neg (by simp only[decide_eq_true_eq];omega),if_pos ⟨by omega,by omega⟩,if_neg (by simp only[decide_eq_true_eq];omega),if_pos ⟨by omega,by omega⟩];simp only[Option.bind_some];rw[if_neg (by simp only[decide_eq_true_eq];omega),if_pos (by decide),if_pos ⟨by omega,by omega⟩];simp only[Nat.add_one_ne_zero,if_false]) (by
   have z:i64.wrap ((a:Int)+((ir b a+1:Nat):Int))=((a+(ir b a+1):Nat):Int):=by rw[wrap_i64 (by omega) (by omega)];omega
   simp only[iD,z,Int.toNat_natCast];by_cases q:ir b a=gP (b.getD a 0) - 1
   ·rw[if_neg (by simp only[decide_eq_true_eq];omega),if_pos q]
   ·have u:=Gd (b:=b) (a:=a) (by omega);rw[if_pos (by simp only[decide_eq_true_eq];omega),if_neg q];unfold Iz at u;simp only[decide_eq_false_iff_not,Nat.add_eq_right]at u;by_cases V:a+(ir b a+1)<b.length
    ·rw[if_neg (by simp only[decide_eq_true_eq];omega),if_pos ⟨by omega,by omega⟩];by_cases C:b.getD (a+(ir b a+1)) 0<(if ir b a=0 then IV (b.getD a 0)else 128)
     ·rw[if_pos (by simpa using C)];rfl
     ·rw[if_neg (by simpa using C),if_pos ⟨by omega,by omega⟩];have:decide (b.getD (a+(ir b a+1)) 0 > (if ir b a=0 then IK (b.getD a 0)else 191))=true:=by simp only[decide_eq_true_eq];omega
      rw[this];rfl
    ·rw[if_pos (by simp only[decide_eq_true_eq];omega)];rfl)
 exact hi
theorem BO{a:Nat}(ha:a<b.length):og b (a:Int)=some ((sD b a).1,((a:Int),((sD b a).2:Int))):=by
 have hc:=hb.get a;have j:=uA (b.getD a 0);unfold og sD;rw[if_neg (by simp only[decide_eq_true_eq];omega)];simp only[Option.bind_some];rw[if_neg (by simp only[decide_eq_true_eq];omega),if_pos ⟨by omega,by omega⟩,Int.toNat_natCast,HQ];simp only[Option.bind_some];by_cases e:gP (b.getD a 0)≤1
 ·rw[if_pos e,if_pos e];simp only;rw[if_pos (by simp only[decide_eq_true_eq];omega)];by_cases f:gP (b.getD a 0)=1
  ·rw[if_pos (by simp only[beq_iff_eq];omega),if_pos ⟨by omega,by omega⟩,if_pos f,wrap_i32 (by omega) (by omega)];rfl
  ·rw[if_neg (by simp only[beq_iff_eq];omega),if_neg f];rfl
 ·rw[if_neg e,if_neg e];simp only;have p:bitsOf .and .i32 (i32.wrap (b.getD a 0)) (Int.fdiv (127:Int) (2 ^ (min (gP (b.getD a 0):Int).toNat i32.bits)))=qP b a 0:=by
   have u:Int.fdiv (127:Int) (2 ^ (min (gP (b.getD a 0):Int).toNat i32.bits))=((2 ^ (7 - gP (b.getD a 0)) - 1:Nat):Int):=by
    generalize gP (b.getD a 0)=n at e j;have:n=2∨n=3∨n=4:=by omega
    rcases this with rfl | rfl | rfl <;> decide
   rw[u,wrap_i32 (by omega) (by omega),C9 hc.1 (by omega) (by omega)];rfl
  rw[if_neg (by simp only[decide_eq_true_eq];omega),if_pos ⟨by omega,by omega⟩,if_pos (by omega),p,JN hl ha (by omega)];simp only[Option.bind_some];by_cases q:ir b a=gP (b.getD a 0) - 1
  ·rw[if_pos q,if_pos q]
  ·rw[if_neg q,if_neg q]
end
theorem F2{b:QK}{a:Nat}(ha:a<b.length):1≤(sD b a).2∧(sD b a).2≤4∧a+(sD b a).2≤b.length:=by
 have f:=GA b a;have key:a+(ir b a+1)≤b.length:=by
  rcases Nat.eq_zero_or_pos (ir b a)with e | e
  ·omega
  ·have:=(BV (y3 (b:=b) (a:=a) e (Nat.le_refl _))).1;omega
 unfold sD;split
 ·exact⟨Nat.le_refl _,by simp,ha⟩
 ·split
  ·exact⟨by simp,by simp only;omega,key⟩
  ·exact⟨by simp,by simp only;omega,key⟩
def Cv:Int→Qx→Int→Prop
 | a,[],n=>a=n
 | a,x::r,n=>x.2.1=a∧1≤x.2.2∧x.2.2≤4∧Cv (a+x.2.2) r n
theorem Cv.snoc{x:Int×Int×Int}:∀ {a m:Int} {s:Qx},Cv a s m→x.2.1=m→1≤x.2.2→x.2.2≤4→Cv a (s++[x]) (m+x.2.2)
 | a,m,[],h,e,f,j=>by
  simp only[Cv]at h;subst h;exact⟨e,f,j,rfl⟩
 | a,m,y::s,h,e,f,j=>⟨h.1,h.2.1,h.2.2.1,h.2.2.2.snoc e f j⟩
theorem GF{b:QK}(hb:Bytes b)(hl:b.length≤4096):∃s,mA b=some s∧Cv 0 s (b.length:Int)∧s.length≤b.length:=by
 obtain⟨r,f,j⟩:=dC (body:=jT b) (fun s=>∃a:Nat,s.2=(a:Int)∧a≤b.length∧Cv 0 s.1 (a:Int)∧s.1.length≤a) (fun s=>b.length - s.2.toNat) (fun r=>Cv 0 r (b.length:Int)∧r.length≤b.length) (by
  rintro⟨out,p⟩ ⟨a,rfl,ha,hc,e⟩;simp only at hc e;by_cases h:a<b.length
  ·left
   obtain⟨u,v,q⟩:=F2 h;have h':(a:Int)<(b.length:Int):=by omega
   refine⟨(out++[((sD b a).1,((a:Int),((sD b a).2:Int)))],((a+(sD b a).2:Nat):Int)),?_,⟨a+(sD b a).2,rfl,q,?_,by simp;omega⟩,by simp only[Int.toNat_natCast];omega⟩
   ·simp only[jT,h',decide_true,if_true,BO hb (by omega) h,Option.bind,List.length_singleton];rw[if_pos (by omega),wrap_i64 (by omega) (by omega)];rfl
   ·have:=hc.snoc (x:=((sD b a).1,((a:Int),((sD b a).2:Int)))) rfl (by simp only;omega) (by simp only;omega);simpa using this
  ·right
   obtain rfl:a=b.length:=by omega
   exact⟨out,by simp[jT],hc,e⟩) (s:=([],0)) ⟨0,rfl,by omega,rfl,by simp⟩
 refine⟨r,?_,j⟩;unfold mA;rw[f];rfl
theorem DM{t:Option ((eY 4352)×List (eY 256))}{f:Int→Int}(ht:nW t f){s:Qx}(z:s.length≤4096):cy t s=some (s.map fun x=>f x.1):=by
 have p:bd t=fun r=>some (f r):=ht
 have u:iter (dg t s) (List.replicate s.length 0,((0:Nat):Int))=some (s.map fun x=>f x.1):=by
  refine iq (fun k=>((s.take k).map (fun x=>f x.1)++List.replicate (s.length - k) 0,(k:Int))) s.length (fun k hk=>?_) ?_ |> fun h=>by simpa using h
  ·have q:(k:Int)<(s.length:Int):=by omega
   have v:0≤(k:Int):=by omega
   have e:((s.take k).map (fun x:Int×Int×Int=>f x.1)++List.replicate (s.length - k) (0:Int)).length=s.length:=by simp;omega
   have j:((s.take k).map (fun x=>f x.1)++List.replicate (s.length - k) (0:Int)).set k (f (s.getD k (0,(0,0))).1)=(s.take (k+1)).map (fun x=>f x.1)++List.replicate (s.length - (k+1)) 0:=by rw[nb (d:=(0,(0,0))) hk,List.map_append,List.set_append_right _ _ (by simp;omega),List.length_map,List.length_take,Nat.min_eq_left (by omega),Nat.sub_self,show s.length - k=(s.length - (k+1))+1 by omega,List.replicate_succ,List.set_cons_zero];simp
   simp only[dg,q,v,e,hk,and_self,decide_true,if_true,Int.toNat_natCast,p,Option.bind,j];rw[wrap_i64 (by omega) (by omega)];rfl
  ·have q:¬((s.length:Int)<(s.length:Int)):=by omega
   simp[dg]
 unfold cy;rw[if_pos (by omega),Int.toNat_natCast];exact congrArg (fun x=>Option.bind x fun o=>some o) u
end Go.Proofs.YtflahpmlcfhpcaaGreatDoor.T
