import Derived.Test.YtobbjfkfmdiklaaGreatDoorTvT50aa
import Derived.Test.YtobbjfkfmdiklaaGreatDoorTvYm
import Derived.KernelRfl
namespace Go.Proofs.YtobbjfkfmdiklaaGreatDoor.T
open Go Go.Tv Go.Proofs
open Go.IntKind (i32 i64)
noncomputable section
def DD(l:Qx):Nat→Int→QK
 | 0,_=>[]
 | n+1,r=>atR l r::DD l n (r+1)
theorem AT(l):∀n r,(DD l n r).length=n
 | 0,_=>rfl
 | n+1,r=>by simp[DD,AT l n]
theorem Cw(l):∀n r c,c<n→(DD l n r).getD c 0=atR l (r+c)
 | n+1,r,0,_=>by simp[DD]
 | n+1,r,c+1,h=>by
  simp only[DD,List.getD_cons_succ];rw[Cw l n (r+1) c (by omega)];congr 1;omega
def CY(l:Qx):Nat→Int→List (ff 256)
 | 0,_=>[]
 | n+1,i=>⟨DD l 256 (256*i),AT l 256 _⟩::CY l n (i+1)
theorem Cg(l):∀n i,(CY l n i).length=n
 | 0,_=>rfl
 | n+1,i=>by simp[CY,Cg l n]
theorem Cn(l):∀n i q,q<n→∀c:Nat,c<256→fE ((CY l n i).getD q (dq 256)) c=atR l (256*(i+q)+c)
 | n+1,i,0,_,c,hc=>by
  simp only[CY,List.getD_cons_zero,fE];rw[Cw l 256 _ c hc];congr 1;omega
 | n+1,i,q+1,h,c,hc=>by
  simp only[CY,List.getD_cons_succ];rw[Cn l n (i+1) q (by omega) c hc];congr 1;omega
def Dq:Nat→Int→QK
 | 0,_=>[]
 | n+1,i=>i::Dq n (i+1)
theorem Ao:∀n i,(Dq n i).length=n
 | 0,_=>rfl
 | n+1,i=>by simp[Dq,Ao n]
theorem Bh:∀n i j,j<n→(Dq n i).getD j 0=i+j
 | n+1,i,0,_=>by simp[Dq]
 | n+1,i,j+1,h=>by
  simp only[Dq,List.getD_cons_succ];rw[Bh n (i+1) j (by omega)];omega
def Is(l:Qx):(ff 4352)×List (ff 256):=(⟨Dq 4352 0,Ao _ _⟩,CY l 4352 0)
theorem zl{l:Qx}(p:Rp l):ot (some (Is l)) (Hv l):=by
 refine Hx p fun j f=>⟨j,?_,?_,fun c hc=>?_⟩
 ·simp only[fE];rw[Bh _ _ _ f];omega
 ·rw[Cg];exact f
 ·rw[Cn l 4352 0 j f c hc];congr 1;omega
theorem vV{t c:Option ((ff 4352)×List (ff 256))}(h:bf t=bf c)(l:Qx):cy t l=cy c l:=by
 unfold cy dn;rw[h]
theorem AB{t c:Option ((ff 4352)×List (ff 256))}(h:bf t=bf c)(l:Qx)(f j:QK)(p:List Bool):gz l f j p t=gz l f j p c:=by
 unfold gz lS dv;rw[h]
theorem CF{f j h p q u v z A}(h1:bf p=bf v)(h2:bf q=bf z)(B:bf u=bf A)(x:QK):
  aZ (some (f,j,p,q,u,h)) x=aZ (some (f,j,v,z,A,h)) x:=by
 unfold aZ;simp only[Option.getD,Option.isNone,Option.isSome,vV h1,vV h2,AB B]
/-! ### C example -/
def ka:Qx:=[(10,(10,2)),(32,(32,1))]
def mg:Qx:=[(32,(126,1))]
def H4:QX:=[99,108,97,115,115,32,79,59,32,109,97,121,32,79,32,47,32,79,59]
def G1:QX:=[99,108,97,115,115,32,79,32,83,32,78,59,32,107,101,101,112,32,83,32,47,32,83,59,32,109,97,121,32,83,32,47,32,46,59,32,109,117,115,116,32,78,32,47,32,46,59,32,107,101,101,112,32,46,32,47,32,46,59]
def Gn:=((ja H4).getD (none,0,0)).1
def H0:=((ja G1).getD (none,0,0)).1
def Mq:=((m5 [] [] 2 2).getD (none,0,0)).1
theorem IP:ja H4=some (Gn,0,0):=by kernel_rfl
theorem IY:ja G1=some (H0,0,0):=by kernel_rfl
theorem Kx:m5 [] [] 2 2=some (Mq,0,0):=by kernel_rfl
theorem Mv:ck Gn=some 1:=by kernel_rfl
theorem MP:ck H0=some 3:=by kernel_rfl
theorem zr{l:Qx}{most:Int}(h:tY l most=true):∃t,fX l most=some (some t,0)∧ot (some t) (Hv l):=by
 rcases ui l most with⟨_,h2⟩ | ⟨t,e,_,f⟩
 ·rw[h]at h2;cases h2
 ·exact⟨t,e,f⟩
theorem L7:∃f j p,jT [] ka mg [] H4 G1 [] 2 2=some (some (Gn,H0,some f,some j,some p,Mq),0,0)∧ot (some f) (Hv [])∧ot (some j) (Hv ka)∧ot (some p) (Hv mg):=by
 obtain⟨f,q,u⟩:=zr (l:=[]) (most:=1) (by decide);obtain⟨j,v,x⟩:=zr (l:=ka) (most:=3) (by decide);obtain⟨p,z,A⟩:=zr (l:=mg) (most:=3) (by decide);refine⟨f,j,p,?_,u,x,A⟩;unfold jT;rw[IP,IY];simp only[Option.bind,Mv,MP,q,v,z,Kx];rfl
theorem y4:Rp []∧Rp ka∧Rp mg:=⟨pg (most:=1) (by decide),pg (most:=3) (by decide),pg (most:=3) (by decide)⟩
def Ng:Option Z1:=some (Gn,H0,some (Is []),some (Is ka),some (Is mg),Mq)
theorem Ko{f j p}(q:ot (some f) (Hv []))(u:ot (some j) (Hv ka))(v:ot (some p) (Hv mg))(x:QK):
  aZ (some (Gn,H0,some f,some j,some p,Mq)) x=aZ Ng x :=
 CF (q.trans (zl y4.1).symm) (u.trans (zl y4.2.1).symm) (v.trans (zl y4.2.2).symm) x
end
end Go.Proofs.YtobbjfkfmdiklaaGreatDoor.T
namespace Go.Proofs.YtobbjfkfmdiklaaGreatDoor.T
open Go Go.Tv Go.Proofs
open Go.IntKind (i32 i64)
def Bytes(b:QK):Prop:=∀x∈b,0≤x∧x≤255
theorem Bytes.get{b:QK}(h:Bytes b)(i:Nat):0≤b.getD i 0∧b.getD i 0≤255:=by
 rcases Nat.lt_or_ge i b.length with hi | hi
 ·exact h _ (ym hi)
 ·rw[List.getD_eq_getElem?_getD,List.getElem?_eq_none hi];simp
def gW(c:Int):Nat:=if c<128 then 1 else if 194≤c∧c≤223 then 2 else if 224≤c∧c≤239 then 3 else if 240≤c∧c≤244 then 4 else 0
def JQ(c:Int):Int:=if c=224 then 160 else if c=240 then 144 else 128
def JZ(c:Int):Int:=if c=237 then 159 else if c=244 then 143 else 191
theorem IL(c:Int):mY c=some (if gW c≤1 then((gW c:Int),0,0)else((gW c:Int),JQ c,JZ c)):=by
 unfold mY gW JQ JZ;by_cases h1:c<128
 ·rw[if_pos (by simpa using h1),if_pos h1,if_pos (by omega)];rfl
 rw[if_neg (by simpa using h1),if_neg h1];by_cases h2:c<194
 ·rw[if_pos (by simpa using h2),if_neg (c:=194≤c∧c≤223) (by omega),if_neg (c:=224≤c∧c≤239) (by omega),if_neg (c:=240≤c∧c≤244) (by omega)];rfl
 rw[if_neg (by simpa using h2)];by_cases p:c > 244
 ·rw[if_neg (c:=194≤c∧c≤223) (by omega),if_neg (c:=224≤c∧c≤239) (by omega),if_neg (c:=240≤c∧c≤244) (by omega)];simp only[Option.bind_some];rw[if_pos (by simpa using p)];rfl
 simp only[Option.bind_some];rw[if_neg (by simpa using p)];by_cases q:c<224
 ·rw[if_pos (by simpa using q),if_pos (c:=194≤c∧c≤223) (by omega),if_neg (by omega),if_neg (c:=c=224) (by omega),if_neg (c:=c=240) (by omega),if_neg (c:=c=237) (by omega),if_neg (c:=c=244) (by omega)];rfl
 rw[if_neg (by simpa using q),if_neg (c:=194≤c∧c≤223) (by omega)];by_cases u:c≤239
 ·rw[if_pos (c:=224≤c∧c≤239) (by omega),if_neg (c:=(3:Nat)≤1) (by omega),if_neg (c:=c=240) (by omega),if_neg (c:=c=244) (by omega)];by_cases f:c=224
  ·subst f;rfl
  rw[if_neg (by simpa using f),if_neg f];by_cases j:c=237
  ·subst j;rfl
  rw[if_neg (by simpa using j),if_neg j,if_pos (by simp only[decide_eq_true_eq];omega)];rfl
 rw[if_neg (c:=224≤c∧c≤239) (by omega),if_pos (c:=240≤c∧c≤244) (by omega),if_neg (c:=(4:Nat)≤1) (by omega),if_neg (c:=c=224) (by omega),if_neg (c:=c=237) (by omega),
  if_neg (by simp only[beq_iff_eq];omega),if_neg (by simp only[beq_iff_eq];omega),if_neg (by simp only[decide_eq_true_eq];omega)]
 by_cases f:c=240
 ·subst f;rfl
 rw[if_neg (by simpa using f),if_neg f];by_cases j:c=244
 ·subst j;rfl
 rw[if_neg (by simpa using j),if_neg j];rfl
theorem uS(c:Int):gW c≤4:=by unfold gW;split;omega;split;omega;split;omega;split <;> omega
def Jf(b:QK)(a k:Nat):Bool:=decide (a+k<b.length∧(if k=1 then JQ (b.getD a 0)else 128)≤b.getD (a+k) 0∧b.getD (a+k) 0≤(if k=1 then JZ (b.getD a 0)else 191))
def iC(b:QK)(a:Nat):Nat:=mI (fun j=> !Jf b a (j+1)) (gW (b.getD a 0) - 1)
def re(b:QK)(a:Nat):Nat→Int
 | 0=>b.getD a 0 % ((2 ^ (7 - gW (b.getD a 0)):Nat):Int)
 | k+1=>re b a k*64+(b.getD (a+(k+1)) 0 - 128)
def tw(b:QK)(a:Nat):Int×Nat :=
 if gW (b.getD a 0)≤1 then(if gW (b.getD a 0)=1 then b.getD a 0 else 65533,1)
 else if iC b a=gW (b.getD a 0) - 1 then(re b a (iC b a),iC b a+1)else(65533,iC b a+1)
theorem Ew(b:QK)(a:Nat):iC b a≤gW (b.getD a 0) - 1:=yj _ _
theorem zH{b:QK}{a k:Nat}(h1:1≤k)(h2:k≤iC b a):Jf b a k=true:=by
 have:=yd (fun j=> !Jf b a (j+1)) (gW (b.getD a 0) - 1) (j:=k - 1) (by unfold iC at h2;omega);rw[show k - 1+1=k by omega]at this;simpa using this
theorem G8{b:QK}{a:Nat}(h:iC b a<gW (b.getD a 0) - 1):Jf b a (iC b a+1)=false:=by
 have:=yv (fun j=> !Jf b a (j+1)) (gW (b.getD a 0) - 1) h;simp only[Bool.not_eq_true']at this;exact this
theorem DC{b:QK}{a k:Nat}(h:Jf b a k=true):a+k<b.length∧128≤b.getD (a+k) 0∧b.getD (a+k) 0≤191:=by
 unfold Jf at h;simp only[decide_eq_true_eq]at h;have h1:128≤JQ (b.getD a 0):=by unfold JQ;split;omega;split <;> omega
 have h2:JZ (b.getD a 0)≤191:=by unfold JZ;split;omega;split <;> omega
 split at h <;> omega
theorem EG{b:QK}{a:Nat}(hl:2≤gW (b.getD a 0)):∀k,k≤iC b a→0≤re b a k∧re b a k<32*((64 ^ k:Nat):Int)
 | 0,_=>by
  have j:=uS (b.getD a 0);simp only[re];have hp:(2:Nat) ^ (7 - gW (b.getD a 0))≤2 ^ 5:=Nat.pow_le_pow_right (by decide) (by omega);have f:0<(2:Nat) ^ (7 - gW (b.getD a 0)):=Nat.pow_pos (by decide);have p:(2:Nat) ^ 5=32:=by decide
  have:=Int.emod_nonneg (b.getD a 0) (show((2 ^ (7 - gW (b.getD a 0)):Nat):Int)≠0 by omega);have:=Int.emod_lt_of_pos (b.getD a 0) (show 0<((2 ^ (7 - gW (b.getD a 0)):Nat):Int) by omega);simp only[Nat.pow_zero];omega
 | k+1,hk=>by
  have q:=EG hl k (by omega);have ho:=DC (zH (b:=b) (a:=a) (k:=k+1) (by omega) hk);simp only[re];have e:((64 ^ (k+1):Nat):Int)=((64 ^ k:Nat):Int)*64:=by rw[Nat.pow_succ];omega
  rw[e];omega
theorem G7(b:QK)(a:Nat):iC b a≤3:=by have:=Ew b a;have:=uS (b.getD a 0);omega
section
variable{b:QK}(hb:Bytes b)(hl:b.length≤1000000)
include hb hl
omit hb in
theorem Kw{a:Nat}(ha:a<b.length)(h2:2≤gW (b.getD a 0)):
  iter (iK b (a:Int) (gW (b.getD a 0):Int)) (JQ (b.getD a 0),JZ (b.getD a 0),(1:Int),re b a 0,(1:Int)) =
   some (if iC b a=gW (b.getD a 0) - 1 then Sum.inl (((iC b a+1:Nat):Int),re b a (iC b a))else Sum.inr ((65533:Int),((a:Int),((iC b a+1:Nat):Int)))):=by
 have hc:=Ew b a;have D:=G7 b a;have M:=uS (b.getD a 0);have hi:=jz (body:=iK b (a:Int) (gW (b.getD a 0):Int)) (fun j=>(if j=0 then JQ (b.getD a 0)else 128,if j=0 then JZ (b.getD a 0)else 191,((j+1:Nat):Int),re b a j,((j+1:Nat):Int))) (iC b a)
  (r:=if iC b a=gW (b.getD a 0) - 1 then Sum.inl (((iC b a+1:Nat):Int),re b a (iC b a))else Sum.inr ((65533:Int),((a:Int),((iC b a+1:Nat):Int)))) (fun j N=>by
   have ho:=zH (b:=b) (a:=a) (k:=j+1) (by omega) (by omega);have hin:=DC ho;have p:=EG h2 j (by omega);unfold Jf at ho;simp only[decide_eq_true_eq,Nat.add_eq_right]at ho;have B:((64 ^ j:Nat):Int)≤4096:=by have:(64:Nat) ^ j≤64 ^ 2:=Nat.pow_le_pow_right (by decide) (by omega);omega
   have z:i64.wrap ((a:Int)+((j+1:Nat):Int))=((a+(j+1):Nat):Int):=by rw[wrap_i64 (by omega) (by omega)];omega
   have E:i64.wrap (((j+1:Nat):Int)+1)=((j+1+1:Nat):Int):=by rw[wrap_i64 (by omega) (by omega)];omega
   have I:bitsOf .and .u8 (b.getD (a+(j+1)) 0) 63=b.getD (a+(j+1)) 0 - 128:=by
    have:=Ka (x:=b.getD (a+(j+1)) 0) (by omega) (by omega) (k:=6) (by decide);have A:((2 ^ 6 - 1:Nat):Int)=63:=by decide
    have f:((2 ^ 6:Nat):Int)=64:=by decide
    rw[A,f]at this;omega
   have J:i32.wrap (b.getD (a+(j+1)) 0 - 128)=b.getD (a+(j+1)) 0 - 128:=wrap_i32 (by omega) (by omega);have L:bitsOf .or .i32 (i32.wrap (re b a j*2 ^ (min (6:Int).toNat i32.bits))) (b.getD (a+(j+1)) 0 - 128)=re b a (j+1):=by
    have f:((2 ^ 6:Nat):Int)=64:=by decide
    have u:(2:Int) ^ (min (6:Int).toNat i32.bits)=64:=by decide
    have:=KA (a:=re b a j) (y:=b.getD (a+(j+1)) 0 - 128) (k:=6) p.1 (by omega) (by omega) (by omega);rw[f]at this;rw[u,wrap_i32 (by omega) (by omega),this];rfl
   simp only[iK,z,E,Int.toNat_natCast,I,J,L];rw[if_pos (by simp only[decide_eq_true_eq];omega),if_neg (by simp only[decide_eq_true_eq];omega),if_pos ⟨by omega,by omega⟩,if_neg (by simp only[decide_eq_true_eq];omega),if_pos ⟨by omega,by omega⟩];simp only[Option.bind_some];rw[if_neg (by simp only[decide_eq_true_eq];omega),if_pos (by decide),if_pos ⟨by omega,by omega⟩];simp only[Nat.add_one_ne_zero,if_false]) (by
   have z:i64.wrap ((a:Int)+((iC b a+1:Nat):Int))=((a+(iC b a+1):Nat):Int):=by rw[wrap_i64 (by omega) (by omega)];omega
   simp only[iK,z,Int.toNat_natCast];by_cases q:iC b a=gW (b.getD a 0) - 1
   ·rw[if_neg (by simp only[decide_eq_true_eq];omega),if_pos q]
   ·have v:=G8 (b:=b) (a:=a) (by omega);rw[if_pos (by simp only[decide_eq_true_eq];omega),if_neg q];unfold Jf at v;simp only[decide_eq_false_iff_not,Nat.add_eq_right]at v;by_cases O:a+(iC b a+1)<b.length
    ·rw[if_neg (by simp only[decide_eq_true_eq];omega),if_pos ⟨by omega,by omega⟩];by_cases C:b.getD (a+(iC b a+1)) 0<(if iC b a=0 then JQ (b.getD a 0)else 128)
     ·rw[if_pos (by simpa using C)];rfl
     ·rw[if_neg (by simpa using C),if_pos ⟨by omega,by omega⟩];have:decide (b.getD (a+(iC b a+1)) 0 > (if iC b a=0 then JZ (b.getD a 0)else 191))=true:=by simp only[decide_eq_true_eq];omega
      rw[this];rfl
    ·rw[if_pos (by simp only[decide_eq_true_eq];omega)];rfl)
 exact hi
theorem DJ{a:Nat}(ha:a<b.length):pr b (a:Int)=some ((tw b a).1,((a:Int),((tw b a).2:Int))):=by
 have hc:=hb.get a;have f:=uS (b.getD a 0);unfold pr tw;rw[if_neg (by simp only[decide_eq_true_eq];omega)];simp only[Option.bind_some];rw[if_neg (by simp only[decide_eq_true_eq];omega),if_pos ⟨by omega,by omega⟩,Int.toNat_natCast,IL];simp only[Option.bind_some];by_cases h1:gW (b.getD a 0)≤1
 ·rw[if_pos h1,if_pos h1];simp only;rw[if_pos (by simp only[decide_eq_true_eq];omega)];by_cases h2:gW (b.getD a 0)=1
  ·rw[if_pos (by simp only[beq_iff_eq];omega),if_pos ⟨by omega,by omega⟩,if_pos h2,wrap_i32 (by omega) (by omega)];rfl
  ·rw[if_neg (by simp only[beq_iff_eq];omega),if_neg h2];rfl
 ·rw[if_neg h1,if_neg h1];simp only;have j:bitsOf .and .i32 (i32.wrap (b.getD a 0)) (Int.fdiv (127:Int) (2 ^ (min (gW (b.getD a 0):Int).toNat i32.bits)))=re b a 0:=by
   have p:Int.fdiv (127:Int) (2 ^ (min (gW (b.getD a 0):Int).toNat i32.bits))=((2 ^ (7 - gW (b.getD a 0)) - 1:Nat):Int):=by
    generalize gW (b.getD a 0)=n at h1 f;have:n=2∨n=3∨n=4:=by omega
    rcases this with rfl | rfl | rfl <;> decide
   rw[p,wrap_i32 (by omega) (by omega),Ep hc.1 (by omega) (by omega)];rfl
  rw[if_neg (by simp only[decide_eq_true_eq];omega),if_pos ⟨by omega,by omega⟩,if_pos (by omega),j,Kw hl ha (by omega)];simp only[Option.bind_some];by_cases q:iC b a=gW (b.getD a 0) - 1
  ·rw[if_pos q,if_pos q]
  ·rw[if_neg q,if_neg q]
end
theorem GI{b:QK}{a:Nat}(ha:a<b.length):1≤(tw b a).2∧(tw b a).2≤4∧a+(tw b a).2≤b.length:=by
 have f:=G7 b a;have key:a+(iC b a+1)≤b.length:=by
  rcases Nat.eq_zero_or_pos (iC b a)with e | e
  ·omega
  ·have:=(DC (zH (b:=b) (a:=a) e (Nat.le_refl _))).1;omega
 unfold tw;split
 ·exact⟨Nat.le_refl _,by simp,ha⟩
 ·split
  ·exact⟨by simp,by simp only;omega,key⟩
  ·exact⟨by simp,by simp only;omega,key⟩
def Cv:Int→Qx→Int→Prop
 | a,[],n=>a=n
 | a,x::r,n=>x.2.1=a∧1≤x.2.2∧x.2.2≤4∧Cv (a+x.2.2) r n
theorem Cv.snoc{x:Int×Int×Int}:∀ {a m:Int} {s:Qx},Cv a s m→x.2.1=m→1≤x.2.2→x.2.2≤4→Cv a (s++[x]) (m+x.2.2)
 | a,m,[],h,h1,h2,f=>by
  simp only[Cv]at h;subst h;exact⟨h1,h2,f,rfl⟩
 | a,m,y::s,h,h1,h2,f=>⟨h.1,h.2.1,h.2.2.1,h.2.2.2.snoc h1 h2 f⟩
theorem HW{b:QK}(hb:Bytes b)(hl:b.length≤4096):∃s,mS b=some s∧Cv 0 s (b.length:Int)∧s.length≤b.length:=by
 obtain⟨r,h1,h2⟩:=dh (body:=j6 b) (fun s=>∃a:Nat,s.2=(a:Int)∧a≤b.length∧Cv 0 s.1 (a:Int)∧s.1.length≤a) (fun s=>b.length - s.2.toNat) (fun r=>Cv 0 r (b.length:Int)∧r.length≤b.length) (by
  rintro⟨out,f⟩ ⟨a,rfl,ha,hc,ho⟩;simp only at hc ho;by_cases h:a<b.length
  ·left
   obtain⟨p,q,j⟩:=GI h;have h':(a:Int)<(b.length:Int):=by omega
   refine⟨(out++[((tw b a).1,((a:Int),((tw b a).2:Int)))],((a+(tw b a).2:Nat):Int)),?_,⟨a+(tw b a).2,rfl,j,?_,by simp;omega⟩,by simp only[Int.toNat_natCast];omega⟩
   ·simp only[j6,h',decide_true,if_true,DJ hb (by omega) h,Option.bind,List.length_singleton];rw[if_pos (by omega),wrap_i64 (by omega) (by omega)];rfl
   ·have:=hc.snoc (x:=((tw b a).1,((a:Int),((tw b a).2:Int)))) rfl (by simp only;omega) (by simp only;omega);simpa using this
  ·right
   obtain rfl:a=b.length:=by omega
   exact⟨out,by simp[j6],hc,ho⟩) (s:=([],0)) ⟨0,rfl,by omega,rfl,by simp⟩
 refine⟨r,?_,h2⟩;unfold mS;rw[h1];rfl
theorem ED{t:Option ((ff 4352)×List (ff 256))}{f:Int→Int}(ht:ot t f){s:Qx}(v:s.length≤4096):cy t s=some (s.map fun x=>f x.1):=by
 have q:bf t=fun r=>some (f r):=ht
 have u:iter (dn t s) (List.replicate s.length 0,((0:Nat):Int))=some (s.map fun x=>f x.1):=by
  refine jz (fun k=>((s.take k).map (fun x=>f x.1)++List.replicate (s.length - k) 0,(k:Int))) s.length (fun k hk=>?_) ?_ |> fun h=>by simpa using h
  ·have h1:(k:Int)<(s.length:Int):=by omega
   have h2:0≤(k:Int):=by omega
   have j:((s.take k).map (fun x:Int×Int×Int=>f x.1)++List.replicate (s.length - k) (0:Int)).length=s.length:=by simp;omega
   have p:((s.take k).map (fun x=>f x.1)++List.replicate (s.length - k) (0:Int)).set k (f (s.getD k (0,(0,0))).1)=(s.take (k+1)).map (fun x=>f x.1)++List.replicate (s.length - (k+1)) 0:=by rw[qR (d:=(0,(0,0))) hk,List.map_append,List.set_append_right _ _ (by simp;omega),List.length_map,List.length_take,Nat.min_eq_left (by omega),Nat.sub_self,show s.length - k=(s.length - (k+1))+1 by omega,List.replicate_succ,List.set_cons_zero];simp
   simp only[dn,h1,h2,j,hk,and_self,decide_true,if_true,Int.toNat_natCast,q,Option.bind,p];rw[wrap_i64 (by omega) (by omega)];rfl
  ·have h1:¬((s.length:Int)<(s.length:Int)):=by omega
   simp[dn]
 unfold cy;rw[if_pos (by omega),Int.toNat_natCast];exact congrArg (fun x=>Option.bind x fun o=>some o) u
end Go.Proofs.YtobbjfkfmdiklaaGreatDoor.T
