import Derived.Test.YtbedjpdfkmfplaaGreatDoorTvR
import Derived.Test.YtbedjpdfkmfplaaGreatDoorTvT21da
namespace Go.Tv
open Go
open Go.IntKind (i32 i64 u32 u64 u8)
section
variable{S T S' T':Type}
theorem gL{body:S→Option (S⊕T)}(st:Nat→S)(n:Nat){r:T}(h:∀k,k<n→body (st k)=some (.inl (st (k+1))))(e:body (st n)=some (.inr r)):iter body (st 0)=some r:=by
 have key:∀m k,k+m=n→iter body (st k)=some r:=fun m=>by
  induction m with
  | zero =>
   intro k hk;obtain rfl:k=n:=by omega
   rw[iter_eq,e]
  | succ m f =>intro k hk;rw[iter_eq,h k (by omega)];exact f (k+1) (by omega)
 exact key n 0 (by omega)
theorem dB{body:S→Option (S⊕T)}(I:S→Prop)(μ:S→Nat)(Q:T→Prop)(step:∀s,I s→(∃y,body s=some (.inl y)∧I y∧μ y<μ s)∨∃r,body s=some (.inr r)∧Q r){s:S}(h:I s):∃r,iter body s=some r∧Q r:=by
 have key:∀m s,I s→μ s≤m→∃r,iter body s=some r∧Q r:=fun m=>by
  induction m with
  | zero =>
   intro s j q;rcases step s j with⟨y,_,_,u⟩ | ⟨r,e,f⟩
   ·omega
   ·exact⟨r,by rw[iter_eq,e],f⟩
  | succ m z =>
   intro s j q;rcases step s j with⟨y,e,f,u⟩ | ⟨r,e,f⟩
   ·obtain⟨r,A,B⟩:=z y f (by omega);exact⟨r,by rw[iter_eq,e];exact A,B⟩
   ·exact⟨r,by rw[iter_eq,e],f⟩
 exact key (μ s) s h (Nat.le_refl _)
end
theorem wrap_i64{x:Int}(e : -9223372036854775808≤x)(f:x≤9223372036854775807):i64.wrap x=x:=by
 simp only[IntKind.wrap,IntKind.min,IntKind.max]
 first | omega | (simp[IntKind.bits,IntKind.signed];omega)
theorem IB{S T:Type}{body:S→Option (S⊕T)}(I:S→Prop)(Q:T→Prop)(step:∀s y,I s→body s=some (.inl y)→I y)(last:∀s r,I s→body s=some (.inr r)→Q r)
  {s:S} (h:I s) {r:T} (e:iter body s=some r):Q r:=by
 obtain⟨k,hk⟩:=nz e;clear e;induction k generalizing s with
 | zero=>cases hk
 | succ k f =>
  simp only[jv]at hk;cases hb:body s with
  | none=>rw[hb]at hk;cases hk
  | some o =>
   rw[hb]at hk;cases o with
   | inl y=>exact f (step s y h hb) hk
   | inr q=>cases hk;exact last s _ h hb
theorem wrap_i32{x:Int}(e : -2147483648≤x)(f:x≤2147483647):i32.wrap x=x:=by
 simp[IntKind.wrap,IntKind.bits,IntKind.signed];omega
theorem wrap_u8{x:Int}(e:0≤x)(f:x≤255):u8.wrap x=x:=by
 simp[IntKind.wrap,IntKind.bits,IntKind.signed];omega
theorem wrap_u32{x:Int}(e:0≤x)(f:x≤4294967295):u32.wrap x=x:=by
 simp[IntKind.wrap,IntKind.bits,IntKind.signed];omega
theorem wrap_u64{x:Int}(e:0≤x)(f:x≤18446744073709551615):u64.wrap x=x:=by
 simp[IntKind.wrap,IntKind.bits,IntKind.signed];omega
theorem Aa(x:Int):u64.wrap x=x % 18446744073709551616:=by
 simp[IntKind.wrap,IntKind.bits,IntKind.signed]
theorem eV{n:Nat}{x:Int}(f:0≤x)(j:x<2 ^ n):(BitVec.ofInt n x).toNat=x.toNat:=by
 rw[BitVec.toNat_ofInt];have e:x % ((2 ^ n:Nat):Int)=x:=Int.emod_eq_of_lt f (by exact_mod_cast j);rw[e]
theorem FI{x:Int}(e:0≤x)(z:x≤2147483647){k:Nat}(hk:k≤31):bitsOf .and .i32 x ((2 ^ k - 1:Nat):Int)=x % ((2 ^ k:Nat):Int):=by
 have f:(2:Nat) ^ k≤2 ^ 31:=Nat.pow_le_pow_right (by decide) hk;have j:0<(2:Nat) ^ k:=Nat.pow_pos (by decide);have q:(2:Nat) ^ 31=2147483648:=by decide
 have u:(2:Int) ^ 32=4294967296:=by decide
 show i32.wrap ((BitVec.ofInt i32.bits x &&& BitVec.ofInt i32.bits ((2 ^ k - 1:Nat):Int)).toNat:Int)=_;rw[BitVec.toNat_and,eV e (by show x<(2:Int) ^ 32;omega),eV (by omega) (by show((2 ^ k - 1:Nat):Int)<(2:Int) ^ 32;omega),Int.toNat_natCast,Nat.and_two_pow_sub_one_eq_mod];have A:=Nat.mod_lt x.toNat j;have v:=Nat.mod_le x.toNat (2 ^ k);rw[wrap_i32 (by omega) (by omega)];have:((x.toNat:Nat):Int)=x:=by omega
 rw[Int.natCast_emod,this]
theorem Ly{x:Int}(e:0≤x)(v:x≤255){k:Nat}(hk:k≤8):bitsOf .and .u8 x ((2 ^ k - 1:Nat):Int)=x % ((2 ^ k:Nat):Int):=by
 have f:(2:Nat) ^ k≤2 ^ 8:=Nat.pow_le_pow_right (by decide) hk;have j:0<(2:Nat) ^ k:=Nat.pow_pos (by decide);have z:(2:Nat) ^ 8=256:=by decide
 have q:(2:Int) ^ 8=256:=by decide
 show u8.wrap ((BitVec.ofInt u8.bits x &&& BitVec.ofInt u8.bits ((2 ^ k - 1:Nat):Int)).toNat:Int)=_;rw[BitVec.toNat_and,eV e (by show x<(2:Int) ^ 8;omega),eV (by omega) (by show((2 ^ k - 1:Nat):Int)<(2:Int) ^ 8;omega),Int.toNat_natCast,Nat.and_two_pow_sub_one_eq_mod];have A:=Nat.mod_lt x.toNat j;have u:=Nat.mod_le x.toNat (2 ^ k);rw[wrap_u8 (by omega) (by omega)];have:((x.toNat:Nat):Int)=x:=by omega
 rw[Int.natCast_emod,this]
theorem Mc{a y:Int}{k:Nat}(ha:0≤a)(j:0≤y)(q:y<((2 ^ k:Nat):Int))(v:a*((2 ^ k:Nat):Int)+y≤2147483647):bitsOf .or .i32 (a*((2 ^ k:Nat):Int)) y=a*((2 ^ k:Nat):Int)+y:=by
 have u:(2:Int) ^ 32=4294967296:=by decide
 have e:0≤a*((2 ^ k:Nat):Int):=Int.mul_nonneg ha (by omega);show i32.wrap ((BitVec.ofInt i32.bits (a*((2 ^ k:Nat):Int)) ||| BitVec.ofInt i32.bits y).toNat:Int)=_;rw[BitVec.toNat_or,eV e (by show a*((2 ^ k:Nat):Int)<(2:Int) ^ 32;omega),eV j (by show y<(2:Int) ^ 32;omega)];have f:(a*((2 ^ k:Nat):Int)).toNat=a.toNat <<< k:=by rw[Nat.shiftLeft_eq,Int.toNat_mul ha (by omega),Int.toNat_natCast]
 rw[f,←Nat.shiftLeft_add_eq_or_of_lt (show y.toNat<2 ^ k by omega),←f];rw[wrap_i32 (by omega) (by omega)];omega
def mX(P:Nat→Bool):Nat→Nat
 | 0=>0
 | n+1=>if P 0 then 0 else mX (fun x=>P (x+1)) n+1
theorem zH:∀(P:Nat→Bool) (n:Nat),mX P n≤n
 | _,0=>Nat.le_refl _
 | P,n+1=>by
  have:=zH (fun x=>P (x+1)) n;simp only[mX];split <;> omega
theorem zP:∀(P:Nat→Bool) (n:Nat) {j:Nat},j<mX P n→P j=false
 | _,0,j,h=>absurd h (by simp[mX])
 | P,n+1,j,h=>by
  simp only[mX]at h;split at h
  ·omega
  ·rename_i e;cases j with
   | zero=>simpa using e
   | succ j=>exact zP (fun x=>P (x+1)) n (j:=j) (by omega)
theorem Ab:∀(P:Nat→Bool) (n:Nat),mX P n<n→P (mX P n)=true
 | _,0,h=>absurd h (by simp)
 | P,n+1,h=>by
  simp only[mX]at h ⊢;split
  ·assumption
  ·rename_i e;rw[if_neg e]at h;exact Ab (fun x=>P (x+1)) n (by omega)
theorem jY{α:Type}{l:List α}{i:Nat}{d:α}(h:i<l.length):l.getD i d=l[i]:=by
 rw[List.getD_eq_getElem?_getD,List.getElem?_eq_getElem h];rfl
theorem qt{α:Type}{l:List α}{i:Nat}{d:α}(h:i<l.length):l.getD i d∈l:=by
 rw[jY h];exact List.getElem_mem h
theorem oa{α:Type}{l:List α}{i:Nat}{d:α}(h:i<l.length):l.take (i+1)=l.take i++[l.getD i d]:=by
 rw[List.take_add_one,List.getElem?_eq_getElem h,jY h];rfl
theorem xE{α:Type}{l:List α}{i:Nat}{d:α}(h:i<l.length):l.drop i=l.getD i d::l.drop (i+1):=by
 rw[jY h];exact List.drop_eq_getElem_cons h
end Go.Tv
namespace Go.Proofs.YtbedjpdfkmfplaaGreatDoor.T
open Go Go.Tv Go.Proofs
open Go.IntKind (i32 i64 u32 u64 u8)
theorem gA{S T:Type}{e:S→Option (S⊕T)}{s y:S}(h:e s=some (.inl y)):iter e s=iter e y:=by rw[iter_eq,h]
theorem dP{S T:Type}{e:S→Option (S⊕T)}{s:S}{r:T}(h:e s=some (.inr r)):iter e s=some r:=by rw[iter_eq,h]
def Rs(most:Int):Int→Qx→Prop
 | _,[]=>True
 | last,x::r=>last<x.1∧x.1≤x.2.1∧x.2.1≤1114111∧0≤x.2.2∧x.2.2<most∧x.2.2≤255∧Rs most x.2.1 r
instance (e:Int):∀(last:Int) (l:Qx),Decidable (Rs e last l)
 | _,[]=>isTrue trivial
 | _,x::r =>
  have:Decidable (Rs e x.2.1 r):=instDecidableRs e x.2.1 r
  inferInstanceAs (Decidable (_∧_))
def u6(l:Qx)(e:Int):Bool:=decide (l.length≤256∧Rs e (-1) l)
def atR(l:Qx)(r:Int):Int :=
 match l with
 | []=>0
 | x::m=>if x.1≤r∧r≤x.2.1 then x.2.2 else atR m r
theorem sK{most:Int}(l:Qx)(hl:l.length≤256):∀(r pre:Qx),l=pre++r→∀last,
  iter (ez l most) (last,(pre.length:Int))=some (if Rs most last r then .inl ()else .inr false)
 | [],pre,h,last=>by
  have hn:¬((pre.length:Int)<(l.length:Int)):=by rw[h];simp
  refine dP ?_;rw[if_pos (show Rs most last []from trivial)];simp only[ez,hn,decide_false,Bool.false_eq_true,if_false]
 | x::r,pre,h,last=>by
  have z:l.length=pre.length+(r.length+1):=by rw[h];simp
  have hi:(pre.length:Int)<(l.length:Int):=by omega
  have A:0≤(pre.length:Int):=by omega
  have B:l.getD pre.length (0,(0,0))=x:=by rw[h];simp
  have C:i64.wrap ((pre.length:Int)+1)=((pre++[x]).length:Int):=by rw[wrap_i64 (by omega) (by omega)];simp
  have E:=sK (most:=most) l hl r (pre++[x]) (by rw[h];simp) x.2.1;by_cases e:last<x.1∧x.1≤x.2.1∧x.2.1≤1114111∧0≤x.2.2∧x.2.2<most∧x.2.2≤255
  ·have hb:ez l most (last,(pre.length:Int))=some (.inl (x.2.1,((pre++[x]).length:Int))):=by obtain⟨f,j,q,u,v,D⟩:=e;simp only[ez,hi,A,and_self,decide_true,if_true,Int.toNat_natCast,B,C];simp[show ¬x.1≤last by omega,show ¬x.2.1<x.1 by omega,show ¬1114111<x.2.1 by omega,show ¬x.2.2<0 by omega,show ¬most≤x.2.2 by omega,show ¬255<x.2.2 by omega]
   rw[gA hb,E];have:Rs most last (x::r)↔Rs most x.2.1 r:=⟨fun h=>h.2.2.2.2.2.2,fun h=>⟨e.1,e.2.1,e.2.2.1,e.2.2.2.1,e.2.2.2.2.1,e.2.2.2.2.2,h⟩⟩;simp only[this]
  ·have hb:ez l most (last,(pre.length:Int))=some (.inr (.inr false)):=by
    simp only[ez,hi,A,and_self,decide_true,if_true,Int.toNat_natCast,B,C];by_cases f:x.1≤last
    ·simp[f]
    by_cases j:x.2.1<x.1
    ·simp[f,j]
    by_cases q:1114111<x.2.1
    ·simp[f,j,q]
    by_cases u:x.2.2<0
    ·simp[f,j,q,u]
    by_cases v:most≤x.2.2
    ·simp[f,j,q,u,v]
    by_cases D:255<x.2.2
    ·simp[f,j,q,u,v,D]
    exact absurd ⟨by omega,by omega,by omega,by omega,by omega,by omega⟩ e
   rw[dP hb,if_neg (fun h=>e ⟨h.1,h.2.1,h.2.2.1,h.2.2.2.1,h.2.2.2.2.1,h.2.2.2.2.2.1⟩)]
theorem A7(l:Qx)(e:Int):mh l e=some (u6 l e):=by
 unfold mh u6;by_cases hl:l.length≤256
 ·rw[if_neg (by simp;omega),show((-1:Int),(0:Int))=(-1,(([]:Qx).length:Int))from rfl,sK l hl l [] rfl (-1)];by_cases h:Rs e (-1) l
  ·simp[h,hl]
  ·simp[h]
 ·rw[if_pos (by simp;omega)];simp[hl]
/-! ### f q j -/
theorem Ll{n c:Nat}:fR (dC n) c=0:=by
 unfold fR dC;simp only[List.getD_eq_getElem?_getD];rw[List.getElem?_replicate];split <;> rfl
theorem sY{n:Nat}(b:fG n){c:Nat}(e:c<n)(v:Int)(d:Nat):fR (uh b c v) d=if c=d then v else fR b d:=by
 unfold fR uh;simp only[List.getD_eq_getElem?_getD,List.getElem?_set];by_cases h:c=d
 ·subst h;simp[b.2,e]
 ·simp[h]
theorem fG.ext{n:Nat}{a b:fG n}(h:∀c,c<n→fR a c=fR b c):a=b:=by
 obtain⟨a,ha⟩:=a;obtain⟨b,hb⟩:=b;congr 1;refine List.ext_getElem (by rw[ha,hb]) fun c e f=>?_
 have:=h c (by rw[←ha];exact e);simpa [fR,List.getD_eq_getElem?_getD,e,f]using this
theorem KE{n:Nat}{a b:fG n}:JN a b=true↔a=b:=by
 unfold JN;rw[beq_iff_eq];exact⟨fun h=>Subtype.ext h,fun h=>by rw[h]⟩
theorem nr{i:Nat}(hi:i<4352):(i32.wrap ((i32.wrap (i:Int))*2 ^ (min (8:Int).toNat i32.bits)))=256*(i:Int):=by
 rw[show(min (8:Int).toNat i32.bits)=8 from rfl,wrap_i32 (x:=(i:Int)) (by omega) (by omega),wrap_i32 (by omega) (by omega)];omega
theorem vY{i:Nat}(hi:i<4352):i32.wrap (256*(i:Int)+255)=256*(i:Int)+255:=wrap_i32 (by omega) (by omega)
theorem HY{r:Int}(e:0≤r)(f:r≤2147483647):bitsOf .and .i32 r 255=r % 256:=by
 have:=FI e f (k:=8) (by omega);simpa using this
section
variable{l:Qx}{i:Nat}
abbrev z3:Int×Int×Int:=(0,(0,0))
def Rp(l:Qx):Prop:=l.length≤256∧(∀n,n<l.length→0≤(l.getD n z3).1∧(l.getD n z3).1≤(l.getD n z3).2.1∧(l.getD n z3).2.1≤1114111∧0≤(l.getD n z3).2.2∧(l.getD n z3).2.2≤255) ∧
 ∀m n,m<n→n<l.length→(l.getD m z3).2.1<(l.getD n z3).1
theorem By(hi:i<4352)(B:Rp l){n:Nat}(hn:n<l.length)(M:256*(i:Int)≤(l.getD n z3).2.1)(N:(l.getD n z3).1≤256*(i:Int)+255)(b:fG 256):
  ∃v,iter (jj l (i:Int) (n:Int)) (b,max (l.getD n z3).1 (256*(i:Int)))=some v ∧
   ∀c:Nat,c<256→fR v c=if(l.getD n z3).1≤256*(i:Int)+c∧256*(i:Int)+c≤(l.getD n z3).2.1 then(l.getD n z3).2.2 else fR b c:=by
 obtain⟨hl,C,-⟩:=B;obtain⟨O,V,X,D,E⟩:=C n hn;refine dB (fun s:fG 256×Int=>max (l.getD n z3).1 (256*(i:Int))≤s.2∧s.2≤min (l.getD n z3).2.1 (256*(i:Int)+255)+1 ∧
   ∀c:Nat,c<256→fR s.1 c=if(l.getD n z3).1≤256*(i:Int)+c∧256*(i:Int)+c<s.2 then(l.getD n z3).2.2 else fR b c) (fun s=>(256*(i:Int)+300 - s.2).toNat) _ ?_ ?_
 ·rintro⟨z,r⟩ ⟨I,J,u⟩;simp only at I J u;by_cases A:r≤min (l.getD n z3).2.1 (256*(i:Int)+255)
  ·left
   have L:bitsOf .and .i32 r 255=r - 256*(i:Int):=by rw[HY (by omega) (by omega)];omega
   refine⟨(uh z (r - 256*(i:Int)).toNat (l.getD n z3).2.2,r+1),?_,⟨by simp only;omega,by simp only;omega,fun c q=>?_⟩,by simp only;omega⟩
   ·simp only[jj,Int.toNat_natCast,nr hi,vY hi,L,A,decide_true,if_true];rw[if_pos ⟨by omega,by omega⟩,if_pos ⟨by omega,by omega⟩,if_pos ⟨by omega,by omega⟩,wrap_u8 D E,wrap_i32 (by omega) (by omega)]
   ·simp only;rw[sY _ (by omega),u c q];by_cases f:(r - 256*(i:Int)).toNat=c
    ·rw[if_pos f,if_pos ⟨by omega,by omega⟩]
    ·rw[if_neg f];by_cases e:(l.getD n z3).1≤256*(i:Int)+c∧256*(i:Int)+c<r
     ·rw[if_pos e,if_pos ⟨e.1,by omega⟩]
     ·rw[if_neg e,if_neg (fun j=>e ⟨j.1,by omega⟩)]
  ·right
   refine⟨z,?_,fun c q=>?_⟩
   ·simp only[jj,Int.toNat_natCast,nr hi,vY hi,A,decide_false,Bool.false_eq_true,if_false];rw[if_pos ⟨by omega,by omega⟩]
   ·rw[u c q];by_cases e:(l.getD n z3).1≤256*(i:Int)+c∧256*(i:Int)+c<r
    ·rw[if_pos e,if_pos ⟨e.1,by omega⟩]
    ·rw[if_neg e,if_neg (fun j=>e ⟨j.1,by omega⟩)]
 ·refine⟨by simp only;omega,by simp only;omega,fun c q=>?_⟩;rw[if_neg (fun j=>by simp only at j;omega)]
theorem Dh(hi:i<4352)(hl:l.length≤256){k:Nat}(hk:k≤l.length)(_:∀n,n<l.length→0≤(l.getD n z3).2.1):
  ∃r,iter (hU l (i:Int)) (k:Int)=some r∧∃f:Nat,r=(f:Int)∧k≤f∧f≤l.length∧(∀m,k≤m→m<f→(l.getD m z3).2.1<256*(i:Int))∧(f<l.length→256*(i:Int)≤(l.getD f z3).2.1):=by
 refine dB (fun s:Int=>∃f:Nat,s=(f:Int)∧k≤f∧f≤l.length∧(∀m,k≤m→m<f→(l.getD m z3).2.1<256*(i:Int))) (fun s=>(l.length - s.toNat)) _ ?_ ⟨k,rfl,Nat.le_refl _,hk,fun m q u=>by omega⟩;rintro s ⟨f,rfl,q,u,v⟩;by_cases z:f<l.length
 ·have j:(f:Int)<(l.length:Int):=by omega
  have B:0≤(f:Int):=by omega
  by_cases A:(l.getD f z3).2.1<256*(i:Int)
  ·left
   refine⟨((f+1:Nat):Int),?_,⟨f+1,rfl,by omega,by omega,fun m C D=>?_⟩,by simp only[Int.toNat_natCast];omega⟩
   ·simp only[hU,j,B,and_self,decide_true,if_true,Int.toNat_natCast,nr hi,A,Option.bind];rw[wrap_i64 (by omega) (by omega)];rfl
   ·by_cases e:m=f
    ·subst e;exact A
    ·exact v m C (by omega)
  ·right
   refine⟨(f:Int),?_,f,rfl,q,u,v,fun _=>by omega⟩;simp only[hU,j,B,and_self,decide_true,if_true,Int.toNat_natCast,nr hi,A,decide_false,Option.bind,Bool.false_eq_true,if_false]
 ·right
  refine⟨(f:Int),?_,f,rfl,q,u,v,fun h=>absurd h z⟩;have hn:¬((f:Int)<(l.length:Int)):=by omega
  simp only[hU,hn,decide_false,Option.bind,Bool.false_eq_true,if_false]
abbrev Has(l:Qx)(n:Nat)(r:Int):Prop:=(l.getD n z3).1≤r∧r≤(l.getD n z3).2.1
theorem Rp.tail{x:Int×Int×Int}(h:Rp (x::l)):Rp l :=
 ⟨by have:=h.1;simp at this;omega,fun n hn=>by have:=h.2.1 (n+1) (by simpa using hn);simpa using this,fun m n e hn=>by have:=h.2.2 (m+1) (n+1) (by omega) (by simpa using hn);simpa using this⟩
theorem EK{r:Int}:∀ {l:Qx} {n:Nat},Rp l→n<l.length→Has l n r→atR l r=(l.getD n z3).2.2
 | [],_,_,h,_=>by simp at h
 | x::l,0,_,_,h=>by
  simp only[Has,List.getD_cons_zero]at h;simp only[atR,List.getD_cons_zero];rw[if_pos h]
 | x::l,n+1,f,hn,h=>by
  have e:=f.2.2 0 (n+1) (by omega) hn;simp only[Has,List.getD_cons_succ,List.getD_cons_zero]at h e ⊢;simp only[atR];rw[if_neg (by omega)];exact EK f.tail (by simpa using hn) h
theorem Ap{r:Int}:∀ {l:Qx},(∀n,n<l.length→¬Has l n r)→atR l r=0
 | [],_=>rfl
 | x::l,h=>by
  have e:=h 0 (by simp);simp only[Has,List.getD_cons_zero]at e;simp only[atR];rw[if_neg e];exact Ap fun n hn=>by have:=h (n+1) (by simpa using hn);simpa [Has]using this
theorem CH(hi:i<4352)(hR:Rp l){k:Nat}(hk:k≤l.length)(E:∀m,m<k→(l.getD m z3).2.1<256*(i:Int))(I:k<l.length→256*(i:Int)≤(l.getD k z3).2.1):
  ∃b,iter (hX l (i:Int)) (dC 256,(k:Int))=some b∧∀c:Nat,c<256→fR b c=atR l (256*(i:Int)+c):=by
 obtain⟨hl,M,J⟩:=hR;refine dB (fun s:fG 256×Int=>∃n:Nat,s.2=(n:Int)∧k≤n∧n≤l.length∧∀c:Nat,c<256→(∀m,k≤m→m<n→Has l m (256*(i:Int)+c)→fR s.1 c=(l.getD m z3).2.2) ∧
  ((∀m,k≤m→m<n→¬Has l m (256*(i:Int)+c))→fR s.1 c=0)) (fun s=>l.length - s.2.toNat) _ ?_ ⟨k,rfl,Nat.le_refl _,hk,fun c u=>⟨fun m Z h2=>by omega,fun _=>Ll⟩⟩
 rintro⟨b,s2⟩ ⟨n,rfl,Z,h2,N⟩;simp only at N;have done:(∀m,n≤m→m<l.length→256*(i:Int)+255<(l.getD m z3).1)→∀c:Nat,c<256→fR b c=atR l (256*(i:Int)+c):=fun V c u=>by
  obtain⟨A,C⟩:=N c u;by_cases X:∃m,k≤m∧m<n∧Has l m (256*(i:Int)+c)
  ·obtain⟨m,L,D,O⟩:=X;rw[A m L D O,EK ⟨hl,M,J⟩ (by omega) O]
  ·rw[C (fun m L D O=>X ⟨m,L,D,O⟩),Ap];intro m hm v;rcases Nat.lt_or_ge m k with B | B
   ·have:=E m B;have:=v.2;omega
   ·rcases Nat.lt_or_ge m n with f | f
    ·exact X ⟨m,B,f,v⟩
    ·have:=V m f hm;have:=v.1;omega
 by_cases j:n<l.length
 ·have z:(n:Int)<(l.length:Int):=by omega
  have hp:0≤(n:Int):=by omega
  by_cases u:(l.getD n z3).1≤256*(i:Int)+255
  ·left
   have hF:256*(i:Int)≤(l.getD n z3).2.1:=by
    rcases Nat.lt_or_ge k n with e | e
    ·have:=J k n e j;have:=I (by omega);have:=(M n j).2.1;omega
    ·obtain rfl:k=n:=by omega
     exact I j
   obtain⟨b',L,D⟩:=By hi ⟨hl,M,J⟩ j hF u b;refine⟨(b',((n+1:Nat):Int)),?_,⟨n+1,rfl,by omega,by omega,fun c u=>⟨fun m A C Y=>?_,fun q=>?_⟩⟩,by simp only[Int.toNat_natCast];omega⟩
   ·simp only[hX,z,hp,and_self,decide_true,if_true,Int.toNat_natCast,nr hi,vY hi,u,Option.bind,L];rw[wrap_i64 (by omega) (by omega)];rfl
   ·simp only;rw[D c u];by_cases em:m=n
    ·subst em;rw[if_pos Y]
    ·have f:m<n:=by omega
     have:=J m n f j;rw[if_neg (fun h=>by have:=Y.2;omega)];exact(N c u).1 m A f Y
   ·simp only;rw[D c u,if_neg (fun h=>q n Z (by omega) h)];exact(N c u).2 fun m A C=>q m A (by omega)
  ·right
   refine⟨b,?_,done fun m A C=>?_⟩
   ·simp only[hX,z,hp,and_self,decide_true,if_true,Int.toNat_natCast,nr hi,vY hi,u,decide_false,Option.bind,Bool.false_eq_true,if_false]
   ·by_cases em:m=n
    ·subst em;omega
    ·have:=J n m (by omega) C;have:=(M n j).2.1;omega
 ·right
  refine⟨b,?_,done fun m A C=>by omega⟩;have hn:¬((n:Int)<(l.length:Int)):=by omega
  simp only[hX,hn,decide_false,Option.bind,Bool.false_eq_true,if_false]
theorem BZ{α:Type}{K:Ty}{k:K.den}{x:α}{p:K.den×α}:∀ {e:List (K.den×α)},p∈cq K e k x→p=(k,x)∨p∈e
 | [],h=>by simp only[cq,List.mem_singleton]at h;exact .inl h
 | q::r,h=>by
  simp only[cq]at h;split at h
  ·rcases List.mem_cons.1 h with h | h
   ·exact .inl h
   ·exact .inr (by simp[h])
  ·rcases List.mem_cons.1 h with h | h
   ·exact .inr (by simp[h])
   ·rcases BZ h with h | h
    ·exact .inl h
    ·exact .inr (by simp[h])
theorem zZ{α:Type}{K:Ty}(f:K.isKey=true){k:K.den}{x:α}:∀ {j:List (K.den×α)},aT K j k=some x→(k,x)∈j
 | [],h=>by simp[aT]at h
 | q::r,h=>by
  simp only[aT]at h;split at h
  ·rename_i e;rw[fQ f]at e;cases h;rw[←e];simp
  ·exact List.mem_cons_of_mem _ (zZ f h)
structure Bl(l:Qx)(i:Nat)(idx:fG 4352)(bs:List (fG 256))(seen:List (fG 256×Int)):Prop where
 pos:1≤bs.length
 len:bs.length≤i+1
 zero:bs.getD 0 (dC 256)=dC 256
 seen:∀p∈seen,∃q:Nat,p.2=(q:Int)∧q<bs.length∧bs.getD q (dC 256)=p.1
 has:∀j,j<i→∃q:Nat,fR idx j=(q:Int)∧q<bs.length∧∀c:Nat,c<256→fR (bs.getD q (dC 256)) c=atR l (256*(j:Int)+c)
 rest:∀j,i≤j→fR idx j=0
theorem Du(hR:Rp l):∃r,iter (gn l) (dC 4352,(List.replicate (1:Int).toNat (dC 256)),([]:List (fG 256×Int)),(0:Int),(0:Int))=some r∧∃seen,Bl l 4352 r.1 r.2 seen:=by
 obtain⟨hl,hx,hs⟩:=hR;refine dB (fun s:fG 4352×List (fG 256)×List (fG 256×Int)×Int×Int=>∃i k:Nat,s.2.2.2.2=(i:Int)∧s.2.2.2.1=(k:Int)∧i≤4352∧k≤l.length∧(∀m,m<k→(l.getD m z3).2.1<256*(i:Int))∧Bl l i s.1 s.2.1 s.2.2.1)
  (fun s=>4352 - s.2.2.2.2.toNat) _ ?_ ⟨0,0,rfl,rfl,by omega,by omega,fun m hm=>by omega,⟨by simp,by simp,by simp,fun p X=>by simp at X,fun j Y=>by omega,fun j _=>Ll⟩⟩
 rintro⟨B,f,seen,s3,s4⟩ ⟨i,k,rfl,rfl,hi,hk,M,hB⟩;simp only at M hB;by_cases C:i<4352
 ·left
  have D:(i:Int)<4352:=by omega
  have h8:(0:Int)≤8:=by decide
  obtain⟨r,e1,N,rfl,k1,k2,k3,k4⟩:=Dh C hl hk (fun n hn=>by have:=hx n hn;omega);have E:∀m,m<N→(l.getD m z3).2.1<256*(i:Int):=fun m hm=>by
   rcases Nat.lt_or_ge m k with h | h
   ·exact M m h
   ·exact k3 m h hm
  obtain⟨b,e2,hb⟩:=CH C ⟨hl,hx,hs⟩ k2 E k4;have u:i64.wrap ((i:Int)+1)=((i+1:Nat):Int):=by rw[wrap_i64 (by omega) (by omega)];rfl
  have z:∀m,m<N→(l.getD m z3).2.1<256*((i+1:Nat):Int):=fun m hm=>by have:=E m hm;omega
  by_cases hz:JN b (dC 256)=true
  ·have a2:=KE.1 hz;refine⟨(B,f,seen,(N:Int),((i+1:Nat):Int)),?_,⟨i+1,N,rfl,rfl,by omega,k2,z,⟨hB.pos,by have:=hB.len;simp only;omega,hB.zero,hB.seen,fun j Y=>?_,fun j Y=>hB.rest j (by omega)⟩⟩,by simp only[Int.toNat_natCast];omega⟩
   ·simp only[gn,D,h8,decide_true,if_true,Option.bind,e1,e2,hz,u]
   ·by_cases ej:j=i
    ·subst ej;refine⟨0,by rw[hB.rest j (Nat.le_refl _)];rfl,hB.pos,fun c hc=>?_⟩;simp only;rw[hB.zero,←hb c hc,a2]
    ·exact hB.has j (by omega)
  ·have O:∀(A:List (fG 256)) (q:Nat),f.length≤A.length→(∀j,j<f.length→A.getD j (dC 256)=f.getD j (dC 256))→q<A.length→A.getD q (dC 256)=b →
     ∀j,j<i+1→∃Z:Nat,fR (uh B i (q:Int)) j=(Z:Int)∧Z<A.length∧∀c:Nat,c<256→fR (A.getD Z (dC 256)) c=atR l (256*(j:Int)+c):=fun A q g1 g2 g3 g4 j Y=>by
    by_cases ej:j=i
    ·subst ej;exact⟨q,by rw[sY _ C,if_pos rfl],g3,fun c hc=>by rw[g4];exact hb c hc⟩
    ·obtain⟨Z,f1,f2,f3⟩:=hB.has j (by omega);exact⟨Z,by rw[sY _ C,if_neg (fun e=>ej e.symm)];exact f1,by omega,fun c hc=>by rw[g2 Z f2];exact f3 c hc⟩
   have I:∀(q:Int) j,i+1≤j→fR (uh B i q) j=0:=fun q j Y=>by rw[sY _ C,if_neg (by omega)];exact hB.rest j (by omega)
   cases hf:aT (.arr .u8 256) seen b with
   | none =>
    have J:∀j,j<f.length→(f++[b]).getD j (dC 256)=f.getD j (dC 256):=fun j Y=>by simp only[List.getD_eq_getElem?_getD];rw[List.getElem?_append_left Y]
    have L:(f++[b]).getD f.length (dC 256)=b:=by simp
    have a1:=hB.len;refine⟨(uh B i (f.length:Int),f++[b],cq (.arr .u8 256) seen b (f.length:Int),(N:Int),((i+1:Nat):Int)),?_,⟨i+1,N,rfl,rfl,by omega,k2,z,⟨by simp,by simp;omega,by
      simp only;rw[J 0 hB.pos];exact hB.zero,fun p X=>?_,O (f++[b]) f.length (by simp) J (by simp) L,I _⟩⟩,by simp only[Int.toNat_natCast];omega⟩
    ·simp only[gn,D,h8,decide_true,if_true,Option.bind,e1,e2,hz,u,hf,Bool.false_eq_true,if_false,Option.isSome,Bool.not_false];have a3:(f.length+([b]:List (fG 256)).length)*256≤140737488355328∧f.length+([b]:List (fG 256)).length≤9223372036854775807:=by simp only[List.length_singleton];omega
     have V:0≤(i:Int)∧(i:Int)<((4352:Nat):Int):=by omega
     rw[if_pos a3];simp only;rw[if_pos V,Int.toNat_natCast]
    ·simp only at X ⊢;rcases BZ X with rfl | X
     ·exact⟨f.length,rfl,by simp,L⟩
     ·obtain⟨q,f1,f2,f3⟩:=hB.seen p X;exact⟨q,f1,by simp;omega,by rw[J q f2];exact f3⟩
   | some v =>
    obtain⟨q,f1,f2,f3⟩:=hB.seen _ (zZ (K:= .arr .u8 256) rfl hf);simp only at f1 f3;subst f1;have a1:=hB.len;refine⟨(uh B i (q:Int),f,seen,(N:Int),((i+1:Nat):Int)),?_,⟨i+1,N,rfl,rfl,by omega,k2,z,⟨hB.pos,by simp only;omega,hB.zero,hB.seen,O f q (Nat.le_refl _) (fun _ _=>rfl) f2 f3,I _⟩⟩,by simp only[Int.toNat_natCast];omega⟩;simp only[gn,D,h8,decide_true,if_true,Option.bind,e1,e2,hz,u,hf,Bool.false_eq_true,if_false,Option.isSome,Bool.not_true,Option.getD];have V:0≤(i:Int)∧(i:Int)<((4352:Nat):Int):=by omega
    rw[if_pos V,Int.toNat_natCast]
 ·right
  obtain rfl:i=4352:=by omega
  exact⟨(B,f),by simp[gn],seen,hB⟩
def pe(t:Option ((fG 4352)×List (fG 256)))(f:Int→Int):Prop:=bh t=fun r=>some (f r)
def IP(l:Qx)(r:Int):Int:=if 0≤r∧r≤1114111 then atR l r else 0
theorem Rs.rp{most:Int}:∀ {last:Int} {l:Qx},0≤last+1→Rs most last l →
  (∀n,n<l.length→last<(l.getD n z3).1∧(l.getD n z3).1≤(l.getD n z3).2.1∧(l.getD n z3).2.1≤1114111∧0≤(l.getD n z3).2.2∧(l.getD n z3).2.2≤255∧(l.getD n z3).2.2<most) ∧
  ∀m n,m<n→n<l.length→(l.getD m z3).2.1<(l.getD n z3).1
 | _,[],_,_=>⟨fun n h=>by simp at h,fun m n _ h=>by simp at h⟩
 | last,x::l,C,⟨f,j,q,u,v,z,A⟩=>by
  obtain⟨e,B⟩:=Rs.rp (by omega) A;refine⟨fun n hn=>?_,fun m n D hn=>?_⟩
  ·cases n with
   | zero=>exact⟨f,j,q,u,z,v⟩
   | succ n =>
    have:=e n (by simpa using hn);simp only[List.getD_cons_succ];exact⟨by omega,this.2⟩
  ·cases n with
   | zero=>omega
   | succ n =>
    cases m with
    | zero=>simp only[List.getD_cons_succ,List.getD_cons_zero];exact(e n (by simpa using hn)).1
    | succ m=>simp only[List.getD_cons_succ];exact B m n (by omega) (by simpa using hn)
theorem pV{most:Int}(h:u6 l most=true):Rp l:=by
 unfold u6 at h;simp only[decide_eq_true_eq]at h;obtain⟨e,f⟩:=Rs.rp (by omega) h.2;exact⟨h.1,fun n hn=>by have:=e n hn;omega,f⟩
theorem H8{e:fG 4352}{u:List (fG 256)}(A:Rp l)(has:∀j,j<4352→∃q:Nat,fR e j=(q:Int)∧q<u.length∧∀c:Nat,c<256→fR (u.getD q (dC 256)) c=atR l (256*(j:Int)+c)):pe (some (e,u)) (IP l):=by
 funext r;unfold bh IP;by_cases v:r<0
 ·rw[show(if 0≤r∧r≤1114111 then atR l r else 0)=0 from if_neg (by omega)];simp[v]
 by_cases B:r > 1114111
 ·rw[show(if 0≤r∧r≤1114111 then atR l r else 0)=0 from if_neg (by omega)];simp[v,B]
 rw[show(if 0≤r∧r≤1114111 then atR l r else 0)=atR l r from if_pos (by omega)];have hd:Int.fdiv r (2 ^ (min (8:Int).toNat i32.bits))=r / 256:=by rw[show(min (8:Int).toNat i32.bits)=8 from rfl,Int.fdiv_eq_ediv_of_nonneg _ (by decide)];rfl
 obtain⟨q,E,M,I⟩:=has (r / 256).toNat (by omega);have C:=I (r % 256).toNat (by omega);have J:256*((r / 256).toNat:Int)+((r % 256).toNat:Int)=r:=by omega
 rw[J]at C;have L:bitsOf .and .i32 r 255=r % 256:=HY (by omega) (by omega);have N:0≤atR l r∧atR l r≤255:=by
  by_cases D:∃n,n<l.length∧Has l n r
  ·obtain⟨n,f,z⟩:=D;rw[EK A f z];have:=A.2.1 n f;omega
  ·rw[Ap fun n f z=>D ⟨n,f,z⟩];omega
 simp only[Option.isNone,Option.isSome,Option.getD,Bool.false_eq_true,if_false,v,B,decide_false,if_true,Option.bind,hd,L,E,Int.toNat_natCast];rw[if_pos (by decide),if_pos (by omega),if_pos (by omega),if_pos (by omega),C,wrap_i64 (by omega) (by omega)]
theorem vA(l:Qx)(e:Int):gw l e=some (none,10)∧u6 l e=false∨∃t,gw l e=some (some t,0)∧u6 l e=true∧pe (some t) (IP l):=by
 unfold gw;rw[A7];cases h:u6 l e with
 | false=>exact .inl ⟨rfl,rfl⟩
 | true =>
  obtain⟨r,f,seen,j⟩:=Du (pV h);refine .inr ⟨r,?_,rfl,H8 (pV h) j.has⟩;simp only[Option.bind,f,Bool.not_true,Bool.false_eq_true,if_false];rw[if_pos (by decide)]
end
end Go.Proofs.YtbedjpdfkmfplaaGreatDoor.T
