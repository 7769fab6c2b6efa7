/- Tables that the kernel can reckon with; what hangs on a table's answers alone; the example's book. -/
import Derived.Test.YtmcemnfjddoejaaGreatDoorTvT23aa
import Derived.Test.YtmcemnfjddoejaaGreatDoorTvYm
import Derived.KernelRfl
namespace Go.Proofs.YtmcemnfjddoejaaGreatDoor.T
open Go Go.Tv Go.Proofs
open Go.IntKind (i32 i64)
noncomputable section
def C7(l:List (Int×Int×Int)):Nat→Int→List Int
 | 0,_=>[]
 | n+1,r=>atR l r::C7 l n (r+1)
theorem AV(l):∀n r,(C7 l n r).length=n
 | 0,_=>rfl
 | n+1,r=>by simp[C7,AV l n]
theorem Cd(l):∀n r c,c<n→(C7 l n r).getD c 0=atR l (r+c)
 | n+1,r,0,_=>by simp[C7]
 | n+1,r,c+1,h=>by
  simp only[C7,List.getD_cons_succ];rw[Cd l n (r+1) c (by omega)];congr 1;omega
def DX(l:List (Int×Int×Int)):Nat→Int→List (ep 256)
 | 0,_=>[]
 | n+1,i=>⟨C7 l 256 (256*i),AV l 256 _⟩::DX l n (i+1)
theorem CI(l):∀n i,(DX l n i).length=n
 | 0,_=>rfl
 | n+1,i=>by simp[DX,CI l n]
theorem AT(l):∀n i q,q<n→∀c:Nat,c<256→eP ((DX l n i).getD q (cW 256)) c=atR l (256*(i+q)+c)
 | n+1,i,0,_,c,e=>by
  simp only[DX,List.getD_cons_zero,eP];rw[Cd l 256 _ c e];congr 1;omega
 | n+1,i,q+1,h,c,e=>by
  simp only[DX,List.getD_cons_succ];rw[AT l n (i+1) q (by omega) c e];congr 1;omega
def DM:Nat→Int→List Int
 | 0,_=>[]
 | n+1,i=>i::DM n (i+1)
theorem AR:∀n i,(DM n i).length=n
 | 0,_=>rfl
 | n+1,i=>by simp[DM,AR n]
theorem CK:∀n i j,j<n→(DM n i).getD j 0=i+j
 | n+1,i,0,_=>by simp[DM]
 | n+1,i,j+1,h=>by
  simp only[DM,List.getD_cons_succ];rw[CK n (i+1) j (by omega)];omega
def Hr(l:List (Int×Int×Int)):(ep 4352)×List (ep 256):=(⟨DM 4352 0,AR _ _⟩,DX l 4352 0)
theorem pX{l:List (Int×Int×Int)}(f:Rp l):tj (some (Hr l)) (F3 l):=by
 refine Gx f fun j e=>⟨j,?_,?_,fun c k=> ?_⟩
 ·simp only[eP];rw[CK _ _ _ e];omega
 ·rw[CI];exact e
 ·rw[AT l 4352 0 j e c k];congr 1;omega
theorem xg{t c:Option ((ep 4352)×List (ep 256))}(h:ba t=ba c)(l:List (Int×Int×Int)):b8 t l=b8 c l:=by
 unfold b8 cT;rw[h]
theorem CE{t c:Option ((ep 4352)×List (ep 256))}(h:ba t=ba c)(l:List (Int×Int×Int))(e f:List Int)(j:List Bool):gu l e f j t=gu l e f j c:=by
 unfold gu kZ da;rw[h]
theorem De{c e h f j k m p q}(u:ba f=ba m)(v:ba j=ba p)(z:ba k=ba q)(x:List Int):
  aM (some (c,e,f,j,k,h)) x=aM (some (c,e,m,p,q,h)) x:=by
 unfold aM;simp only[Option.getD,Option.isNone,Option.isSome,xg u,xg v,CE z]
/-! ### A example -/
def fW:List (Int×Int×Int):=[(10,(10,2)),(32,(32,1))]
def iG:List (Int×Int×Int):=[(32,(126,1))]
def Dc:List UInt8:=[99,108,97,115,115,32,79,59,32,109,97,121,32,79,32,47,32,79,59]
def DR:List UInt8:=[99,108,97,115,115,32,79,32,83,32,78,59,32,107,101,101,112,32,83,32,47,32,83,59,32,109,97,121,32,83,32,47,32,46,59,32,109,117,115,116,32,78,32,47,32,46,59,32,107,101,101,112,32,46,32,47,32,46,59]
def FB:=((jJ Dc).getD (none,0,0)).1
def E9:=((jJ DR).getD (none,0,0)).1
def H0:=((o5 [] [] 2 2).getD (none,0,0)).1
theorem Ih:jJ Dc=some (FB,0,0):=by kernel_rfl
theorem IM:jJ DR=some (E9,0,0):=by kernel_rfl
theorem J4:o5 [] [] 2 2=some (H0,0,0):=by kernel_rfl
theorem LR:cH FB=some 1:=by kernel_rfl
theorem LK:cH E9=some 3:=by kernel_rfl
theorem Ad{l:List (Int×Int×Int)}{most:Int}(h:uE l most=true):∃t,gA l most=some (some t,0)∧tj (some t) (F3 l):=by
 rcases A2 l most with⟨_,c⟩ | ⟨t,e,_,f⟩
 ·rw[h]at c;cases c
 ·exact⟨t,e,f⟩
theorem K3:∃c e f,mJ [] fW iG [] Dc DR [] 2 2=some (some (FB,E9,some c,some e,some f,H0),0,0)∧tj (some c) (F3 [])∧tj (some e) (F3 fW)∧tj (some f) (F3 iG):=by
 obtain⟨c,j,k⟩:=Ad (l:=[]) (most:=1) (by decide);obtain⟨e,m,p⟩:=Ad (l:=fW) (most:=3) (by decide);obtain⟨f,q,u⟩:=Ad (l:=iG) (most:=3) (by decide);refine⟨c,e,f,?_,k,p,u⟩;unfold mJ;rw[Ih,IM];simp only[Option.bind,LR,LK,j,m,q,J4];rfl
theorem pW:Rp []∧Rp fW∧Rp iG:=⟨pg (most:=1) (by decide),pg (most:=3) (by decide),pg (most:=3) (by decide)⟩
def Ki:Option Z1:=some (FB,E9,some (Hr []),some (Hr fW),some (Hr iG),H0)
theorem JX{c e f}(j:tj (some c) (F3 []))(k:tj (some e) (F3 fW))(m:tj (some f) (F3 iG))(x:List Int):
  aM (some (FB,E9,some c,some e,some f,H0)) x=aM Ki x :=
 De (j.trans (pX pW.1).symm) (k.trans (pX pW.2.1).symm) (m.trans (pX pW.2.2).symm) x
end
end Go.Proofs.YtmcemnfjddoejaaGreatDoor.T
namespace Go.Proofs.YtmcemnfjddoejaaGreatDoor.T
open Go Go.Tv Go.Proofs
open Go.IntKind (i32 i64)
def Bytes(b:List Int):Prop:=∀x∈b,0≤x∧x≤255
theorem Bytes.get{b:List Int}(h:Bytes b)(i:Nat):0≤b.getD i 0∧b.getD i 0≤255:=by
 rcases Nat.lt_or_ge i b.length with hi | hi
 ·exact h _ (kK hi)
 ·rw[List.getD_eq_getElem?_getD,List.getElem?_eq_none hi];simp
def gQ(c:Int):Nat:=if c<128 then 1 else if 194≤c∧c≤223 then 2 else if 224≤c∧c≤239 then 3 else if 240≤c∧c≤244 then 4 else 0
def I6(c:Int):Int:=if c=224 then 160 else if c=240 then 144 else 128
def I8(c:Int):Int:=if c=237 then 159 else if c=244 then 143 else 191
theorem Ip(c:Int):mP c=some (if gQ c≤1 then((gQ c:Int),0,0)else((gQ c:Int),I6 c,I8 c)):=by
 unfold mP gQ I6 I8;by_cases j:c<128
 ·rw[if_pos (by simpa using j),if_pos j,if_pos (by omega)];rfl
 rw[if_neg (by simpa using j),if_neg j];by_cases k:c<194
 ·rw[if_pos (by simpa using k),if_neg (c:=194≤c∧c≤223) (by omega),if_neg (c:=224≤c∧c≤239) (by omega),if_neg (c:=240≤c∧c≤244) (by omega)];rfl
 rw[if_neg (by simpa using k)];by_cases m:c > 244
 ·rw[if_neg (c:=194≤c∧c≤223) (by omega),if_neg (c:=224≤c∧c≤239) (by omega),if_neg (c:=240≤c∧c≤244) (by omega)];simp only[Option.bind_some];rw[if_pos (by simpa using m)];rfl
 simp only[Option.bind_some];rw[if_neg (by simpa using m)];by_cases p:c<224
 ·rw[if_pos (by simpa using p),if_pos (c:=194≤c∧c≤223) (by omega),if_neg (by omega),if_neg (c:=c=224) (by omega),if_neg (c:=c=240) (by omega),if_neg (c:=c=237) (by omega),if_neg (c:=c=244) (by omega)];rfl
 rw[if_neg (by simpa using p),if_neg (c:=194≤c∧c≤223) (by omega)];by_cases q:c≤239
 ·rw[if_pos (c:=224≤c∧c≤239) (by omega),if_neg (c:=(3:Nat)≤1) (by omega),if_neg (c:=c=240) (by omega),if_neg (c:=c=244) (by omega)];by_cases e:c=224
  ·subst e;rfl
  rw[if_neg (by simpa using e),if_neg e];by_cases f:c=237
  ·subst f;rfl
  rw[if_neg (by simpa using f),if_neg f,if_pos (by simp only[decide_eq_true_eq];omega)];rfl
 rw[if_neg (c:=224≤c∧c≤239) (by omega),if_pos (c:=240≤c∧c≤244) (by omega),if_neg (c:=(4:Nat)≤1) (by omega),if_neg (c:=c=224) (by omega),if_neg (c:=c=237) (by omega),
  if_neg (by simp only[beq_iff_eq];omega),if_neg (by simp only[beq_iff_eq];omega),if_neg (by simp only[decide_eq_true_eq];omega)]
 by_cases e:c=240
 ·subst e;rfl
 rw[if_neg (by simpa using e),if_neg e];by_cases f:c=244
 ·subst f;rfl
 rw[if_neg (by simpa using f),if_neg f];rfl
theorem vE(c:Int):gQ c≤4:=by unfold gQ;split;omega;split;omega;split;omega;split <;> omega
def II(b:List Int)(a k:Nat):Bool:=decide (a+k<b.length∧(if k=1 then I6 (b.getD a 0)else 128)≤b.getD (a+k) 0∧b.getD (a+k) 0≤(if k=1 then I8 (b.getD a 0)else 191))
def ie(b:List Int)(a:Nat):Nat:=l8 (fun j=> !II b a (j+1)) (gQ (b.getD a 0) - 1)
def sL(b:List Int)(a:Nat):Nat→Int
 | 0=>b.getD a 0 % ((2 ^ (7 - gQ (b.getD a 0)):Nat):Int)
 | k+1=>sL b a k*64+(b.getD (a+(k+1)) 0 - 128)
def tH(b:List Int)(a:Nat):Int×Nat :=
 if gQ (b.getD a 0)≤1 then(if gQ (b.getD a 0)=1 then b.getD a 0 else 65533,1)
 else if ie b a=gQ (b.getD a 0) - 1 then(sL b a (ie b a),ie b a+1)else(65533,ie b a+1)
theorem EA(b:List Int)(a:Nat):ie b a≤gQ (b.getD a 0) - 1:=yQ _ _
theorem zR{b:List Int}{a k:Nat}(e:1≤k)(c:k≤ie b a):II b a k=true:=by
 have:=yS (fun j=> !II b a (j+1)) (gQ (b.getD a 0) - 1) (j:=k - 1) (by unfold ie at c;omega);rw[show k - 1+1=k by omega]at this;simpa using this
theorem Ht{b:List Int}{a:Nat}(h:ie b a<gQ (b.getD a 0) - 1):II b a (ie b a+1)=false:=by
 have:=zd (fun j=> !II b a (j+1)) (gQ (b.getD a 0) - 1) h;simp only[Bool.not_eq_true']at this;exact this
theorem Dx{b:List Int}{a k:Nat}(h:II b a k=true):a+k<b.length∧128≤b.getD (a+k) 0∧b.getD (a+k) 0≤191:=by
 unfold II at h;simp only[decide_eq_true_eq]at h;have c:128≤I6 (b.getD a 0):=by unfold I6;split;omega;split <;> omega
 have e:I8 (b.getD a 0)≤191:=by unfold I8;split;omega;split <;> omega
 split at h <;> omega
theorem EG{b:List Int}{a:Nat}(hl:2≤gQ (b.getD a 0)):∀k,k≤ie b a→0≤sL b a k∧sL b a k<32*((64 ^ k:Nat):Int)
 | 0,_=>by
  have j:=vE (b.getD a 0);simp only[sL];have m:(2:Nat) ^ (7 - gQ (b.getD a 0))≤2 ^ 5:=Nat.pow_le_pow_right (by decide) (by omega);have c:0<(2:Nat) ^ (7 - gQ (b.getD a 0)):=Nat.pow_pos (by decide);have p:(2:Nat) ^ 5=32:=by decide
  have:=Int.emod_nonneg (b.getD a 0) (show((2 ^ (7 - gQ (b.getD a 0)):Nat):Int)≠0 by omega);have:=Int.emod_lt_of_pos (b.getD a 0) (show 0<((2 ^ (7 - gQ (b.getD a 0)):Nat):Int) by omega);simp only[Nat.pow_zero];omega
 | k+1,f=>by
  have q:=EG hl k (by omega);have u:=Dx (zR (b:=b) (a:=a) (k:=k+1) (by omega) f);simp only[sL];have e:((64 ^ (k+1):Nat):Int)=((64 ^ k:Nat):Int)*64:=by rw[Nat.pow_succ];omega
  rw[e];omega
theorem Hu(b:List Int)(a:Nat):ie b a≤3:=by have:=EA b a;have:=vE (b.getD a 0);omega
section
variable{b:List Int}(hb:Bytes b)(hl:b.length≤1000000)
include hb hl
omit hb in
theorem JI{a:Nat}(ha:a<b.length)(B:2≤gQ (b.getD a 0)):
  iter (il b (a:Int) (gQ (b.getD a 0):Int)) (I6 (b.getD a 0),I8 (b.getD a 0),(1:Int),sL b a 0,(1:Int)) =
   some (if ie b a=gQ (b.getD a 0) - 1 then Sum.inl (((ie b a+1:Nat):Int),sL b a (ie b a))else Sum.inr ((65533:Int),((a:Int),((ie b a+1:Nat):Int)))):=by
 have L:=EA b a;have C:=Hu b a;have M:=vE (b.getD a 0);have hi:=eg (body:=il b (a:Int) (gQ (b.getD a 0):Int)) (fun j=>(if j=0 then I6 (b.getD a 0)else 128,if j=0 then I8 (b.getD a 0)else 191,((j+1:Nat):Int),sL b a j,((j+1:Nat):Int))) (ie b a)
  (r:=if ie b a=gQ (b.getD a 0) - 1 then Sum.inl (((ie b a+1:Nat):Int),sL b a (ie b a))else Sum.inr ((65533:Int),((a:Int),((ie b a+1:Nat):Int)))) (fun j N=>by
   have p:=zR (b:=b) (a:=a) (k:=j+1) (by omega) (by omega);have hin:=Dx p;have e:=EG B j (by omega);unfold II at p;simp only[decide_eq_true_eq,Nat.add_eq_right]at p;have z:((64 ^ j:Nat):Int)≤4096:=by have:(64:Nat) ^ j≤64 ^ 2:=Nat.pow_le_pow_right (by decide) (by omega);omega
   have u:i64.wrap ((a:Int)+((j+1:Nat):Int))=((a+(j+1):Nat):Int):=by rw[wrap_i64 (by omega) (by omega)];omega
   have D:i64.wrap (((j+1:Nat):Int)+1)=((j+1+1:Nat):Int):=by rw[wrap_i64 (by omega) (by omega)];omega
   have E:bitsOf .and .u8 (b.getD (a+(j+1)) 0) 63=b.getD (a+(j+1)) 0 - 128:=by
    have:=Kh (x:=b.getD (a+(j+1)) 0) (by omega) (by omega) (k:=6) (by decide);have v:((2 ^ 6 - 1:Nat):Int)=63:=by decide
    have c:((2 ^ 6:Nat):Int)=64:=by decide
    rw[v,c]at this;omega
   have I:i32.wrap (b.getD (a+(j+1)) 0 - 128)=b.getD (a+(j+1)) 0 - 128:=wrap_i32 (by omega) (by omega);have J:bitsOf .or .i32 (i32.wrap (sL b a j*2 ^ (min (6:Int).toNat i32.bits))) (b.getD (a+(j+1)) 0 - 128)=sL b a (j+1):=by
    have c:((2 ^ 6:Nat):Int)=64:=by decide
    have f:(2:Int) ^ (min (6:Int).toNat i32.bits)=64:=by decide
    have:=Kc (a:=sL b a j) (y:=b.getD (a+(j+1)) 0 - 128) (k:=6) e.1 (by omega) (by omega) (by omega);rw[c]at this;rw[f,wrap_i32 (by omega) (by omega),this];rfl
   simp only[il,u,D,Int.toNat_natCast,E,I,J];rw[if_pos (by simp only[decide_eq_true_eq];omega),if_neg (by simp only[decide_eq_true_eq];omega),if_pos ⟨by omega,by omega⟩,if_neg (by simp only[decide_eq_true_eq];omega),if_pos ⟨by omega,by omega⟩];simp only[Option.bind_some];rw[if_neg (by simp only[decide_eq_true_eq];omega),if_pos (by decide),if_pos ⟨by omega,by omega⟩];simp only[Nat.add_one_ne_zero,if_false]) (by
   have u:i64.wrap ((a:Int)+((ie b a+1:Nat):Int))=((a+(ie b a+1):Nat):Int):=by rw[wrap_i64 (by omega) (by omega)];omega
   simp only[il,u,Int.toNat_natCast];by_cases q:ie b a=gQ (b.getD a 0) - 1
   ·rw[if_neg (by simp only[decide_eq_true_eq];omega),if_pos q]
   ·have m:=Ht (b:=b) (a:=a) (by omega);rw[if_pos (by simp only[decide_eq_true_eq];omega),if_neg q];unfold II at m;simp only[decide_eq_false_iff_not,Nat.add_eq_right]at m;by_cases O:a+(ie b a+1)<b.length
    ·rw[if_neg (by simp only[decide_eq_true_eq];omega),if_pos ⟨by omega,by omega⟩];by_cases A:b.getD (a+(ie b a+1)) 0<(if ie b a=0 then I6 (b.getD a 0)else 128)
     ·rw[if_pos (by simpa using A)];rfl
     ·rw[if_neg (by simpa using A),if_pos ⟨by omega,by omega⟩];have:decide (b.getD (a+(ie b a+1)) 0 > (if ie b a=0 then I8 (b.getD a 0)else 191))=true:=by simp only[decide_eq_true_eq];omega
      rw[this];rfl
    ·rw[if_pos (by simp only[decide_eq_true_eq];omega)];rfl)
 exact hi
theorem Dm{a:Nat}(ha:a<b.length):pc b (a:Int)=some ((tH b a).1,((a:Int),((tH b a).2:Int))):=by
 have f:=hb.get a;have j:=vE (b.getD a 0);unfold pc tH;rw[if_neg (by simp only[decide_eq_true_eq];omega)];simp only[Option.bind_some];rw[if_neg (by simp only[decide_eq_true_eq];omega),if_pos ⟨by omega,by omega⟩,Int.toNat_natCast,Ip];simp only[Option.bind_some];by_cases c:gQ (b.getD a 0)≤1
 ·rw[if_pos c,if_pos c];simp only;rw[if_pos (by simp only[decide_eq_true_eq];omega)];by_cases e:gQ (b.getD a 0)=1
  ·rw[if_pos (by simp only[beq_iff_eq];omega),if_pos ⟨by omega,by omega⟩,if_pos e,wrap_i32 (by omega) (by omega)];rfl
  ·rw[if_neg (by simp only[beq_iff_eq];omega),if_neg e];rfl
 ·rw[if_neg c,if_neg c];simp only;have k:bitsOf .and .i32 (i32.wrap (b.getD a 0)) (Int.fdiv (127:Int) (2 ^ (min (gQ (b.getD a 0):Int).toNat i32.bits)))=sL b a 0:=by
   have m:Int.fdiv (127:Int) (2 ^ (min (gQ (b.getD a 0):Int).toNat i32.bits))=((2 ^ (7 - gQ (b.getD a 0)) - 1:Nat):Int):=by
    generalize gQ (b.getD a 0)=n at c j;have:n=2∨n=3∨n=4:=by omega
    rcases this with rfl | rfl | rfl <;> decide
   rw[m,wrap_i32 (by omega) (by omega),Em f.1 (by omega) (by omega)];rfl
  rw[if_neg (by simp only[decide_eq_true_eq];omega),if_pos ⟨by omega,by omega⟩,if_pos (by omega),k,JI hl ha (by omega)];simp only[Option.bind_some];by_cases q:ie b a=gQ (b.getD a 0) - 1
  ·rw[if_pos q,if_pos q]
  ·rw[if_neg q,if_neg q]
end
end Go.Proofs.YtmcemnfjddoejaaGreatDoor.T
namespace Go.Proofs.YtmcemnfjddoejaaGreatDoor.T
open Go Go.Tv Go.Proofs
open Go.IntKind (i32 i64)
theorem Hm{b:List Int}{a:Nat}(ha:a<b.length):1≤(tH b a).2∧(tH b a).2≤4∧a+(tH b a).2≤b.length:=by
 have c:=Hu b a;have key:a+(ie b a+1)≤b.length:=by
  rcases Nat.eq_zero_or_pos (ie b a)with e | e
  ·omega
  ·have:=(Dx (zR (b:=b) (a:=a) e (Nat.le_refl _))).1;omega
 unfold tH;split
 ·exact⟨Nat.le_refl _,by simp,ha⟩
 ·split
  ·exact⟨by simp,by simp only;omega,key⟩
  ·exact⟨by simp,by simp only;omega,key⟩
def Cv:Int→List (Int×Int×Int)→Int→Prop
 | a,[],n=>a=n
 | a,x::r,n=>x.2.1=a∧1≤x.2.2∧x.2.2≤4∧Cv (a+x.2.2) r n
theorem Cv.snoc{x:Int×Int×Int}:∀ {a m:Int} {s:List (Int×Int×Int)},Cv a s m→x.2.1=m→1≤x.2.2→x.2.2≤4→Cv a (s++[x]) (m+x.2.2)
 | a,m,[],h,c,e,f=>by
  simp only[Cv]at h;subst h;exact⟨c,e,f,rfl⟩
 | a,m,y::s,h,c,e,f=>⟨h.1,h.2.1,h.2.2.1,h.2.2.2.snoc c e f⟩
theorem Jr{b:List Int}(hb:Bytes b)(hl:b.length≤4096):∃s,mD b=some s∧Cv 0 s (b.length:Int)∧s.length≤b.length:=by
 obtain⟨r,f,j⟩:=cF (body:=jG b) (fun s=>∃a:Nat,s.2=(a:Int)∧a≤b.length∧Cv 0 s.1 (a:Int)∧s.1.length≤a) (fun s=>b.length - s.2.toNat) (fun r=>Cv 0 r (b.length:Int)∧r.length≤b.length) (by
  rintro⟨out,k⟩ ⟨a,rfl,ha,c,e⟩;simp only at c e;by_cases h:a<b.length
  ·left
   obtain⟨p,q,m⟩:=Hm h;have h':(a:Int)<(b.length:Int):=by omega
   refine⟨(out++[((tH b a).1,((a:Int),((tH b a).2:Int)))],((a+(tH b a).2:Nat):Int)),?_,⟨a+(tH b a).2,rfl,m,?_,by simp;omega⟩,by simp only[Int.toNat_natCast];omega⟩
   ·simp only[jG,h',decide_true,if_true,Dm hb (by omega) h,Option.bind,List.length_singleton];rw[if_pos (by omega),wrap_i64 (by omega) (by omega)];rfl
   ·have:=c.snoc (x:=((tH b a).1,((a:Int),((tH b a).2:Int)))) rfl (by simp only;omega) (by simp only;omega);simpa using this
  ·right
   obtain rfl:a=b.length:=by omega
   exact⟨out,by simp[jG],c,e⟩) (s:=([],0)) ⟨0,rfl,by omega,rfl,by simp⟩
 refine⟨r,?_,j⟩;unfold mD;rw[f];rfl
theorem Ey{t:Option ((ep 4352)×List (ep 256))}{f:Int→Int}(q:tj t f){s:List (Int×Int×Int)}(z:s.length≤4096):b8 t s=some (s.map fun x=>f x.1):=by
 have j:ba t=fun r=>some (f r):=q
 have u:iter (cT t s) (List.replicate s.length 0,((0:Nat):Int))=some (s.map fun x=>f x.1):=by
  refine eg (fun k=>((s.take k).map (fun x=>f x.1)++List.replicate (s.length - k) 0,(k:Int))) s.length (fun k m=> ?_) ?_ |> fun h=>by simpa using h
  ·have p:(k:Int)<(s.length:Int):=by omega
   have v:0≤(k:Int):=by omega
   have c:((s.take k).map (fun x:Int×Int×Int=>f x.1)++List.replicate (s.length - k) (0:Int)).length=s.length:=by simp;omega
   have e:((s.take k).map (fun x=>f x.1)++List.replicate (s.length - k) (0:Int)).set k (f (s.getD k (0,(0,0))).1)=(s.take (k+1)).map (fun x=>f x.1)++List.replicate (s.length - (k+1)) 0:=by rw[nU (d:=(0,(0,0))) m,List.map_append,List.set_append_right _ _ (by simp;omega),List.length_map,List.length_take,Nat.min_eq_left (by omega),Nat.sub_self,show s.length - k=(s.length - (k+1))+1 by omega,List.replicate_succ,List.set_cons_zero];simp
   simp only[cT,p,v,c,m,and_self,decide_true,if_true,Int.toNat_natCast,j,Option.bind,e];rw[wrap_i64 (by omega) (by omega)];rfl
  ·have p:¬((s.length:Int)<(s.length:Int)):=by omega
   simp[cT]
 unfold b8;rw[if_pos (by omega),Int.toNat_natCast];exact congrArg (fun x=>Option.bind x fun o=>some o) u
end Go.Proofs.YtmcemnfjddoejaaGreatDoor.T
