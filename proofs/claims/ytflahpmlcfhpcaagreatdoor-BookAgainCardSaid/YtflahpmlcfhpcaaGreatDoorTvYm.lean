import Derived.Test.YtflahpmlcfhpcaaGreatDoorTvR
import Derived.Test.YtflahpmlcfhpcaaGreatDoorTvT20eBookAgain
namespace Go.Tv
open Go
open Go.IntKind (i32 i64 u32 u64 u8)
section
variable{S T S' T':Type}
theorem gB{body:S→Option (S⊕T)}(st:Nat→S)(n:Nat){r:T}(h:∀k,k<n→body (st k)=some (.inl (st (k+1))))(e:body (st n)=some (.inr r)):iter body (st 0)=some r:=by
 have key:∀m k,k+m=n→iter body (st k)=some r:=fun m=>by
  induction m with
  | zero =>
   intro k hk;obtain rfl:k=n:=by omega
   rw[iter_eq,e]
  | succ m f =>intro k hk;rw[iter_eq,h k (by omega)];exact f (k+1) (by omega)
 exact key n 0 (by omega)
theorem cW{body:S→Option (S⊕T)}(I:S→Prop)(μ:S→Nat)(Q:T→Prop)(step:∀s,I s→(∃y,body s=some (.inl y)∧I y∧μ y<μ s)∨∃r,body s=some (.inr r)∧Q r){s:S}(h:I s):∃r,iter body s=some r∧Q r:=by
 have key:∀m s,I s→μ s≤m→∃r,iter body s=some r∧Q r:=fun m=>by
  induction m with
  | zero =>
   intro s j p;rcases step s j with⟨y,_,_,q⟩ | ⟨r,e,f⟩
   ·omega
   ·exact⟨r,by rw[iter_eq,e],f⟩
  | succ m u =>
   intro s j p;rcases step s j with⟨y,e,f,q⟩ | ⟨r,e,f⟩
   ·obtain⟨r,z,A⟩:=u y f (by omega);exact⟨r,by rw[iter_eq,e];exact z,A⟩
   ·exact⟨r,by rw[iter_eq,e],f⟩
 exact key (μ s) s h (Nat.le_refl _)
end
theorem wrap_i64{x:Int}(e : -9223372036854775808≤x)(f:x≤9223372036854775807):i64.wrap x=x:=by
 simp only[IntKind.wrap,IntKind.min,IntKind.max]
 first | omega | (simp[IntKind.bits,IntKind.signed];omega)
theorem wrap_i32{x:Int}(e : -2147483648≤x)(f:x≤2147483647):i32.wrap x=x:=by
 simp[IntKind.wrap,IntKind.bits,IntKind.signed];omega
theorem wrap_u8{x:Int}(e:0≤x)(f:x≤255):u8.wrap x=x:=by
 simp[IntKind.wrap,IntKind.bits,IntKind.signed];omega
theorem wrap_u32{x:Int}(e:0≤x)(f:x≤4294967295):u32.wrap x=x:=by
 simp[IntKind.wrap,IntKind.bits,IntKind.signed];omega
theorem wrap_u64{x:Int}(e:0≤x)(f:x≤18446744073709551615):u64.wrap x=x:=by
 simp[IntKind.wrap,IntKind.bits,IntKind.signed];omega
theorem Eo(x:Int):u64.wrap x=x % 18446744073709551616:=by
 simp[IntKind.wrap,IntKind.bits,IntKind.signed]
theorem eK{n:Nat}{x:Int}(f:0≤x)(j:x<2 ^ n):(BitVec.ofInt n x).toNat=x.toNat:=by
 rw[BitVec.toNat_ofInt];have e:x % ((2 ^ n:Nat):Int)=x:=Int.emod_eq_of_lt f (by exact_mod_cast j);rw[e]
theorem DA{x:Int}(e:0≤x)(v:x≤2147483647){k:Nat}(hk:k≤31):bitsOf .and .i32 x ((2 ^ k - 1:Nat):Int)=x % ((2 ^ k:Nat):Int):=by
 have f:(2:Nat) ^ k≤2 ^ 31:=Nat.pow_le_pow_right (by decide) hk;have j:0<(2:Nat) ^ k:=Nat.pow_pos (by decide);have p:(2:Nat) ^ 31=2147483648:=by decide
 have q:(2:Int) ^ 32=4294967296:=by decide
 show i32.wrap ((BitVec.ofInt i32.bits x &&& BitVec.ofInt i32.bits ((2 ^ k - 1:Nat):Int)).toNat:Int)=_;rw[BitVec.toNat_and,eK e (by show x<(2:Int) ^ 32;omega),eK (by omega) (by show((2 ^ k - 1:Nat):Int)<(2:Int) ^ 32;omega),Int.toNat_natCast,Nat.and_two_pow_sub_one_eq_mod];have z:=Nat.mod_lt x.toNat j;have u:=Nat.mod_le x.toNat (2 ^ k);rw[wrap_i32 (by omega) (by omega)];have:((x.toNat:Nat):Int)=x:=by omega
 rw[Int.natCast_emod,this]
theorem Ka{x:Int}(e:0≤x)(u:x≤255){k:Nat}(hk:k≤8):bitsOf .and .u8 x ((2 ^ k - 1:Nat):Int)=x % ((2 ^ k:Nat):Int):=by
 have f:(2:Nat) ^ k≤2 ^ 8:=Nat.pow_le_pow_right (by decide) hk;have j:0<(2:Nat) ^ k:=Nat.pow_pos (by decide);have v:(2:Nat) ^ 8=256:=by decide
 have p:(2:Int) ^ 8=256:=by decide
 show u8.wrap ((BitVec.ofInt u8.bits x &&& BitVec.ofInt u8.bits ((2 ^ k - 1:Nat):Int)).toNat:Int)=_;rw[BitVec.toNat_and,eK e (by show x<(2:Int) ^ 8;omega),eK (by omega) (by show((2 ^ k - 1:Nat):Int)<(2:Int) ^ 8;omega),Int.toNat_natCast,Nat.and_two_pow_sub_one_eq_mod];have z:=Nat.mod_lt x.toNat j;have q:=Nat.mod_le x.toNat (2 ^ k);rw[wrap_u8 (by omega) (by omega)];have:((x.toNat:Nat):Int)=x:=by omega
 rw[Int.natCast_emod,this]
theorem Kb{a y:Int}{k:Nat}(ha:0≤a)(j:0≤y)(p:y<((2 ^ k:Nat):Int))(u:a*((2 ^ k:Nat):Int)+y≤2147483647):bitsOf .or .i32 (a*((2 ^ k:Nat):Int)) y=a*((2 ^ k:Nat):Int)+y:=by
 have q:(2:Int) ^ 32=4294967296:=by decide
 have e:0≤a*((2 ^ k:Nat):Int):=Int.mul_nonneg ha (by omega);show i32.wrap ((BitVec.ofInt i32.bits (a*((2 ^ k:Nat):Int)) ||| BitVec.ofInt i32.bits y).toNat:Int)=_;rw[BitVec.toNat_or,eK e (by show a*((2 ^ k:Nat):Int)<(2:Int) ^ 32;omega),eK j (by show y<(2:Int) ^ 32;omega)];have f:(a*((2 ^ k:Nat):Int)).toNat=a.toNat <<< k:=by rw[Nat.shiftLeft_eq,Int.toNat_mul ha (by omega),Int.toNat_natCast]
 rw[f,←Nat.shiftLeft_add_eq_or_of_lt (show y.toNat<2 ^ k by omega),←f];rw[wrap_i32 (by omega) (by omega)];omega
def mf(P:Nat→Bool):Nat→Nat
 | 0=>0
 | n+1=>if P 0 then 0 else mf (fun x=>P (x+1)) n+1
theorem xT:∀(P:Nat→Bool) (n:Nat),mf P n≤n
 | _,0=>Nat.le_refl _
 | P,n+1=>by
  have:=xT (fun x=>P (x+1)) n;simp only[mf];split <;> omega
theorem yb:∀(P:Nat→Bool) (n:Nat) {j:Nat},j<mf P n→P j=false
 | _,0,j,h=>absurd h (by simp[mf])
 | P,n+1,j,h=>by
  simp only[mf]at h;split at h
  ·omega
  ·rename_i e;cases j with
   | zero=>simpa using e
   | succ j=>exact yb (fun x=>P (x+1)) n (j:=j) (by omega)
theorem xK:∀(P:Nat→Bool) (n:Nat),mf P n<n→P (mf P n)=true
 | _,0,h=>absurd h (by simp)
 | P,n+1,h=>by
  simp only[mf]at h ⊢;split
  ·assumption
  ·rename_i e;rw[if_neg e]at h;exact xK (fun x=>P (x+1)) n (by omega)
theorem kC{α:Type}{l:List α}{i:Nat}{d:α}(h:i<l.length):l.getD i d=l[i]:=by
 rw[List.getD_eq_getElem?_getD,List.getElem?_eq_getElem h];rfl
theorem xS{α:Type}{l:List α}{i:Nat}{d:α}(h:i<l.length):l.getD i d∈l:=by
 rw[kC h];exact List.getElem_mem h
theorem p0{α:Type}{l:List α}{i:Nat}{d:α}(h:i<l.length):l.take (i+1)=l.take i++[l.getD i d]:=by
 rw[List.take_add_one,List.getElem?_eq_getElem h,kC h];rfl
end Go.Tv
namespace Go.Proofs.YtflahpmlcfhpcaaGreatDoor.T
open Go Go.Tv Go.Proofs
open Go.IntKind (i32 i64 u32 u64 u8)
theorem fR{S T:Type}{e:S→Option (S⊕T)}{s y:S}(h:e s=some (.inl y)):iter e s=iter e y:=by rw[iter_eq,h]
theorem dN{S T:Type}{e:S→Option (S⊕T)}{s:S}{r:T}(h:e s=some (.inr r)):iter e s=some r:=by rw[iter_eq,h]
def Rs(most:Int):Int→Qx→Prop
 | _,[]=>True
 | last,x::r=>last<x.1∧x.1≤x.2.1∧x.2.1≤1114111∧0≤x.2.2∧x.2.2<most∧x.2.2≤255∧Rs most x.2.1 r
instance (e:Int):∀(last:Int) (l:Qx),Decidable (Rs e last l)
 | _,[]=>isTrue trivial
 | _,x::r =>
  have:Decidable (Rs e x.2.1 r):=instDecidableRs e x.2.1 r
  inferInstanceAs (Decidable (_∧_))
def sV(l:Qx)(e:Int):Bool:=decide (l.length≤256∧Rs e (-1) l)
def atR(l:Qx)(r:Int):Int :=
 match l with
 | []=>0
 | x::m=>if x.1≤r∧r≤x.2.1 then x.2.2 else atR m r
theorem rZ{most:Int}(l:Qx)(hl:l.length≤256):∀(r pre:Qx),l=pre++r→∀last,
  iter (dW l most) (last,(pre.length:Int))=some (if Rs most last r then .inl ()else .inr false)
 | [],pre,h,last=>by
  have hn:¬((pre.length:Int)<(l.length:Int)):=by rw[h];simp
  refine dN ?_;rw[if_pos (show Rs most last []from trivial)];simp only[dW,hn,decide_false,Bool.false_eq_true,if_false]
 | x::r,pre,h,last=>by
  have u:l.length=pre.length+(r.length+1):=by rw[h];simp
  have hi:(pre.length:Int)<(l.length:Int):=by omega
  have v:0≤(pre.length:Int):=by omega
  have z:l.getD pre.length (0,(0,0))=x:=by rw[h];simp
  have A:i64.wrap ((pre.length:Int)+1)=((pre++[x]).length:Int):=by rw[wrap_i64 (by omega) (by omega)];simp
  have C:=rZ (most:=most) l hl r (pre++[x]) (by rw[h];simp) x.2.1;by_cases hc:last<x.1∧x.1≤x.2.1∧x.2.1≤1114111∧0≤x.2.2∧x.2.2<most∧x.2.2≤255
  ·have hb:dW l most (last,(pre.length:Int))=some (.inl (x.2.1,((pre++[x]).length:Int))):=by obtain⟨e,f,j,p,q,B⟩:=hc;simp only[dW,hi,v,and_self,decide_true,if_true,Int.toNat_natCast,z,A];simp[show ¬x.1≤last by omega,show ¬x.2.1<x.1 by omega,show ¬1114111<x.2.1 by omega,show ¬x.2.2<0 by omega,show ¬most≤x.2.2 by omega,show ¬255<x.2.2 by omega]
   rw[fR hb,C];have:Rs most last (x::r)↔Rs most x.2.1 r:=⟨fun h=>h.2.2.2.2.2.2,fun h=>⟨hc.1,hc.2.1,hc.2.2.1,hc.2.2.2.1,hc.2.2.2.2.1,hc.2.2.2.2.2,h⟩⟩;simp only[this]
  ·have hb:dW l most (last,(pre.length:Int))=some (.inr (.inr false)):=by
    simp only[dW,hi,v,and_self,decide_true,if_true,Int.toNat_natCast,z,A];by_cases e:x.1≤last
    ·simp[e]
    by_cases f:x.2.1<x.1
    ·simp[e,f]
    by_cases j:1114111<x.2.1
    ·simp[e,f,j]
    by_cases p:x.2.2<0
    ·simp[e,f,j,p]
    by_cases q:most≤x.2.2
    ·simp[e,f,j,p,q]
    by_cases B:255<x.2.2
    ·simp[e,f,j,p,q,B]
    exact absurd ⟨by omega,by omega,by omega,by omega,by omega,by omega⟩ hc
   rw[dN hb,if_neg (fun h=>hc ⟨h.1,h.2.1,h.2.2.1,h.2.2.2.1,h.2.2.2.2.1,h.2.2.2.2.2.1⟩)]
theorem zv(l:Qx)(e:Int):kX l e=some (sV l e):=by
 unfold kX sV;by_cases hl:l.length≤256
 ·rw[if_neg (by simp;omega),show((-1:Int),(0:Int))=(-1,(([]:Qx).length:Int))from rfl,rZ l hl l [] rfl (-1)];by_cases h:Rs e (-1) l
  ·simp[h,hl]
  ·simp[h]
 ·rw[if_pos (by simp;omega)];simp[hl]
/-! ### f p j -/
theorem I1{n c:Nat}:fC (dB n) c=0:=by
 unfold fC dB;simp only[List.getD_eq_getElem?_getD];rw[List.getElem?_replicate];split <;> rfl
theorem rf{n:Nat}(b:fh n){c:Nat}(hc:c<n)(v:Int)(d:Nat):fC (qM b c v) d=if c=d then v else fC b d:=by
 unfold fC qM;simp only[List.getD_eq_getElem?_getD,List.getElem?_set];by_cases h:c=d
 ·subst h;simp[b.2,hc]
 ·simp[h]
theorem fh.ext{n:Nat}{a b:fh n}(h:∀c,c<n→fC a c=fC b c):a=b:=by
 obtain⟨a,ha⟩:=a;obtain⟨b,hb⟩:=b;congr 1;refine List.ext_getElem (by rw[ha,hb]) fun c e f=>?_
 have:=h c (by rw[←ha];exact e);simpa [fC,List.getD_eq_getElem?_getD,e,f]using this
theorem HL{n:Nat}{a b:fh n}:Hr a b=true↔a=b:=by
 unfold Hr;rw[beq_iff_eq];exact⟨fun h=>Subtype.ext h,fun h=>by rw[h]⟩
theorem mS{i:Nat}(hi:i<4352):(i32.wrap ((i32.wrap (i:Int))*2 ^ (min (8:Int).toNat i32.bits)))=256*(i:Int):=by
 rw[show(min (8:Int).toNat i32.bits)=8 from rfl,wrap_i32 (x:=(i:Int)) (by omega) (by omega),wrap_i32 (by omega) (by omega)];omega
theorem ur{i:Nat}(hi:i<4352):i32.wrap (256*(i:Int)+255)=256*(i:Int)+255:=wrap_i32 (by omega) (by omega)
theorem FW{r:Int}(e:0≤r)(f:r≤2147483647):bitsOf .and .i32 r 255=r % 256:=by
 have:=DA e f (k:=8) (by omega);simpa using this
section
variable{l:Qx}{i:Nat}
abbrev z3:Int×Int×Int:=(0,(0,0))
def Rp(l:Qx):Prop:=l.length≤256∧(∀n,n<l.length→0≤(l.getD n z3).1∧(l.getD n z3).1≤(l.getD n z3).2.1∧(l.getD n z3).2.1≤1114111∧0≤(l.getD n z3).2.2∧(l.getD n z3).2.2≤255) ∧
 ∀m n,m<n→n<l.length→(l.getD m z3).2.1<(l.getD n z3).1
theorem Ba(hi:i<4352)(x:Rp l){n:Nat}(hn:n<l.length)(I:256*(i:Int)≤(l.getD n z3).2.1)(J:(l.getD n z3).1≤256*(i:Int)+255)(b:fh 256):
  ∃q,iter (jc l (i:Int) (n:Int)) (b,max (l.getD n z3).1 (256*(i:Int)))=some q ∧
   ∀c:Nat,c<256→fC q c=if(l.getD n z3).1≤256*(i:Int)+c∧256*(i:Int)+c≤(l.getD n z3).2.1 then(l.getD n z3).2.2 else fC b c:=by
 obtain⟨hl,z,-⟩:=x;obtain⟨L,M,N,A,B⟩:=z n hn;refine cW (fun s:fh 256×Int=>max (l.getD n z3).1 (256*(i:Int))≤s.2∧s.2≤min (l.getD n z3).2.1 (256*(i:Int)+255)+1 ∧
   ∀c:Nat,c<256→fC s.1 c=if(l.getD n z3).1≤256*(i:Int)+c∧256*(i:Int)+c<s.2 then(l.getD n z3).2.2 else fC b c) (fun s=>(256*(i:Int)+300 - s.2).toNat) _ ?_ ?_
 ·rintro⟨u,r⟩ ⟨C,D,p⟩;simp only at C D p;by_cases v:r≤min (l.getD n z3).2.1 (256*(i:Int)+255)
  ·left
   have E:bitsOf .and .i32 r 255=r - 256*(i:Int):=by rw[FW (by omega) (by omega)];omega
   refine⟨(qM u (r - 256*(i:Int)).toNat (l.getD n z3).2.2,r+1),?_,⟨by simp only;omega,by simp only;omega,fun c hc=>?_⟩,by simp only;omega⟩
   ·simp only[jc,Int.toNat_natCast,mS hi,ur hi,E,v,decide_true,if_true];rw[if_pos ⟨by omega,by omega⟩,if_pos ⟨by omega,by omega⟩,if_pos ⟨by omega,by omega⟩,wrap_u8 A B,wrap_i32 (by omega) (by omega)]
   ·simp only;rw[rf _ (by omega),p c hc];by_cases f:(r - 256*(i:Int)).toNat=c
    ·rw[if_pos f,if_pos ⟨by omega,by omega⟩]
    ·rw[if_neg f];by_cases e:(l.getD n z3).1≤256*(i:Int)+c∧256*(i:Int)+c<r
     ·rw[if_pos e,if_pos ⟨e.1,by omega⟩]
     ·rw[if_neg e,if_neg (fun j=>e ⟨j.1,by omega⟩)]
  ·right
   refine⟨u,?_,fun c hc=>?_⟩
   ·simp only[jc,Int.toNat_natCast,mS hi,ur hi,v,decide_false,Bool.false_eq_true,if_false];rw[if_pos ⟨by omega,by omega⟩]
   ·rw[p c hc];by_cases e:(l.getD n z3).1≤256*(i:Int)+c∧256*(i:Int)+c<r
    ·rw[if_pos e,if_pos ⟨e.1,by omega⟩]
    ·rw[if_neg e,if_neg (fun j=>e ⟨j.1,by omega⟩)]
 ·refine⟨by simp only;omega,by simp only;omega,fun c hc=>?_⟩;rw[if_neg (fun j=>by simp only at j;omega)]
theorem Ac(hi:i<4352)(hl:l.length≤256){k:Nat}(hk:k≤l.length)(_:∀n,n<l.length→0≤(l.getD n z3).2.1):
  ∃r,iter (gL l (i:Int)) (k:Int)=some r∧∃f:Nat,r=(f:Int)∧k≤f∧f≤l.length∧(∀m,k≤m→m<f→(l.getD m z3).2.1<256*(i:Int))∧(f<l.length→256*(i:Int)≤(l.getD f z3).2.1):=by
 refine cW (fun s:Int=>∃f:Nat,s=(f:Int)∧k≤f∧f≤l.length∧(∀m,k≤m→m<f→(l.getD m z3).2.1<256*(i:Int))) (fun s=>(l.length - s.toNat)) _ ?_ ⟨k,rfl,Nat.le_refl _,hk,fun m p q=>by omega⟩;rintro s ⟨f,rfl,p,q,u⟩;by_cases v:f<l.length
 ·have j:(f:Int)<(l.length:Int):=by omega
  have x:0≤(f:Int):=by omega
  by_cases hc:(l.getD f z3).2.1<256*(i:Int)
  ·left
   refine⟨((f+1:Nat):Int),?_,⟨f+1,rfl,by omega,by omega,fun m z A=>?_⟩,by simp only[Int.toNat_natCast];omega⟩
   ·simp only[gL,j,x,and_self,decide_true,if_true,Int.toNat_natCast,mS hi,hc,Option.bind];rw[wrap_i64 (by omega) (by omega)];rfl
   ·by_cases e:m=f
    ·subst e;exact hc
    ·exact u m z (by omega)
  ·right
   refine⟨(f:Int),?_,f,rfl,p,q,u,fun _=>by omega⟩;simp only[gL,j,x,and_self,decide_true,if_true,Int.toNat_natCast,mS hi,hc,decide_false,Option.bind,Bool.false_eq_true,if_false]
 ·right
  refine⟨(f:Int),?_,f,rfl,p,q,u,fun h=>absurd h v⟩;have hn:¬((f:Int)<(l.length:Int)):=by omega
  simp only[gL,hn,decide_false,Option.bind,Bool.false_eq_true,if_false]
abbrev Has(l:Qx)(n:Nat)(r:Int):Prop:=(l.getD n z3).1≤r∧r≤(l.getD n z3).2.1
theorem Rp.tail{x:Int×Int×Int}(h:Rp (x::l)):Rp l :=
 ⟨by have:=h.1;simp at this;omega,fun n hn=>by have:=h.2.1 (n+1) (by simpa using hn);simpa using this,fun m n e hn=>by have:=h.2.2 (m+1) (n+1) (by omega) (by simpa using hn);simpa using this⟩
theorem C0{r:Int}:∀ {l:Qx} {n:Nat},Rp l→n<l.length→Has l n r→atR l r=(l.getD n z3).2.2
 | [],_,_,h,_=>by simp at h
 | x::l,0,_,_,h=>by
  simp only[Has,List.getD_cons_zero]at h;simp only[atR,List.getD_cons_zero];rw[if_pos h]
 | x::l,n+1,f,hn,h=>by
  have e:=f.2.2 0 (n+1) (by omega) hn;simp only[Has,List.getD_cons_succ,List.getD_cons_zero]at h e ⊢;simp only[atR];rw[if_neg (by omega)];exact C0 f.tail (by simpa using hn) h
theorem zl{r:Int}:∀ {l:Qx},(∀n,n<l.length→¬Has l n r)→atR l r=0
 | [],_=>rfl
 | x::l,h=>by
  have e:=h 0 (by simp);simp only[Has,List.getD_cons_zero]at e;simp only[atR];rw[if_neg e];exact zl fun n hn=>by have:=h (n+1) (by simpa using hn);simpa [Has]using this
theorem zW(hi:i<4352)(Y:Rp l){k:Nat}(hk:k≤l.length)(B:∀m,m<k→(l.getD m z3).2.1<256*(i:Int))(C:k<l.length→256*(i:Int)≤(l.getD k z3).2.1):
  ∃b,iter (gF l (i:Int)) (dB 256,(k:Int))=some b∧∀c:Nat,c<256→fC b c=atR l (256*(i:Int)+c):=by
 obtain⟨hl,I,D⟩:=Y;refine cW (fun s:fh 256×Int=>∃n:Nat,s.2=(n:Int)∧k≤n∧n≤l.length∧∀c:Nat,c<256→(∀m,k≤m→m<n→Has l m (256*(i:Int)+c)→fC s.1 c=(l.getD m z3).2.2) ∧
  ((∀m,k≤m→m<n→¬Has l m (256*(i:Int)+c))→fC s.1 c=0)) (fun s=>l.length - s.2.toNat) _ ?_ ⟨k,rfl,Nat.le_refl _,hk,fun c hc=>⟨fun m V Z=>by omega,fun _=>I1⟩⟩
 rintro⟨b,s2⟩ ⟨n,rfl,V,Z,J⟩;simp only at J;have done:(∀m,n≤m→m<l.length→256*(i:Int)+255<(l.getD m z3).1)→∀c:Nat,c<256→fC b c=atR l (256*(i:Int)+c):=fun M c hc=>by
  obtain⟨v,z⟩:=J c hc;by_cases N:∃m,k≤m∧m<n∧Has l m (256*(i:Int)+c)
  ·obtain⟨m,E,A,L⟩:=N;rw[v m E A L,C0 ⟨hl,I,D⟩ (by omega) L]
  ·rw[z (fun m E A L=>N ⟨m,E,A,L⟩),zl];intro m hm p;rcases Nat.lt_or_ge m k with x | x
   ·have:=B m x;have:=p.2;omega
   ·rcases Nat.lt_or_ge m n with f | f
    ·exact N ⟨m,x,f,p⟩
    ·have:=M m f hm;have:=p.1;omega
 by_cases j:n<l.length
 ·have u:(n:Int)<(l.length:Int):=by omega
  have X:0≤(n:Int):=by omega
  by_cases hc:(l.getD n z3).1≤256*(i:Int)+255
  ·left
   have hF:256*(i:Int)≤(l.getD n z3).2.1:=by
    rcases Nat.lt_or_ge k n with e | e
    ·have:=D k n e j;have:=C (by omega);have:=(I n j).2.1;omega
    ·obtain rfl:k=n:=by omega
     exact C j
   obtain⟨b',E,A⟩:=Ba hi ⟨hl,I,D⟩ j hF hc b;refine⟨(b',((n+1:Nat):Int)),?_,⟨n+1,rfl,by omega,by omega,fun c hc=>⟨fun m v z O=>?_,fun q=>?_⟩⟩,by simp only[Int.toNat_natCast];omega⟩
   ·simp only[gF,u,X,and_self,decide_true,if_true,Int.toNat_natCast,mS hi,ur hi,hc,Option.bind,E];rw[wrap_i64 (by omega) (by omega)];rfl
   ·simp only;rw[A c hc];by_cases em:m=n
    ·subst em;rw[if_pos O]
    ·have f:m<n:=by omega
     have:=D m n f j;rw[if_neg (fun h=>by have:=O.2;omega)];exact(J c hc).1 m v f O
   ·simp only;rw[A c hc,if_neg (fun h=>q n V (by omega) h)];exact(J c hc).2 fun m v z=>q m v (by omega)
  ·right
   refine⟨b,?_,done fun m v z=>?_⟩
   ·simp only[gF,u,X,and_self,decide_true,if_true,Int.toNat_natCast,mS hi,ur hi,hc,decide_false,Option.bind,Bool.false_eq_true,if_false]
   ·by_cases em:m=n
    ·subst em;omega
    ·have:=D n m (by omega) z;have:=(I n j).2.1;omega
 ·right
  refine⟨b,?_,done fun m v z=>by omega⟩;have hn:¬((n:Int)<(l.length:Int)):=by omega
  simp only[gF,hn,decide_false,Option.bind,Bool.false_eq_true,if_false]
theorem A2{α:Type}{K:Ty}{k:K.den}{x:α}{p:K.den×α}:∀ {e:List (K.den×α)},p∈cO K e k x→p=(k,x)∨p∈e
 | [],h=>by simp only[cO,List.mem_singleton]at h;exact .inl h
 | q::r,h=>by
  simp only[cO]at h;split at h
  ·rcases List.mem_cons.1 h with h | h
   ·exact .inl h
   ·exact .inr (by simp[h])
  ·rcases List.mem_cons.1 h with h | h
   ·exact .inr (by simp[h])
   ·rcases A2 h with h | h
    ·exact .inl h
    ·exact .inr (by simp[h])
theorem ye{α:Type}{K:Ty}(f:K.isKey=true){k:K.den}{x:α}:∀ {j:List (K.den×α)},bg K j k=some x→(k,x)∈j
 | [],h=>by simp[bg]at h
 | q::r,h=>by
  simp only[bg]at h;split at h
  ·rename_i e;rw[fu f]at e;cases h;rw[←e];simp
  ·exact List.mem_cons_of_mem _ (ye f h)
structure Bl(l:Qx)(i:Nat)(idx:fh 4352)(bs:List (fh 256))(seen:List (fh 256×Int)):Prop where
 pos:1≤bs.length
 len:bs.length≤i+1
 zero:bs.getD 0 (dB 256)=dB 256
 seen:∀p∈seen,∃q:Nat,p.2=(q:Int)∧q<bs.length∧bs.getD q (dB 256)=p.1
 has:∀j,j<i→∃q:Nat,fC idx j=(q:Int)∧q<bs.length∧∀c:Nat,c<256→fC (bs.getD q (dB 256)) c=atR l (256*(j:Int)+c)
 rest:∀j,i≤j→fC idx j=0
theorem A0(hR:Rp l):∃r,iter (fN l) (dB 4352,(List.replicate (1:Int).toNat (dB 256)),([]:List (fh 256×Int)),(0:Int),(0:Int))=some r∧∃seen,Bl l 4352 r.1 r.2 seen:=by
 obtain⟨hl,hx,hs⟩:=hR;refine cW (fun s:fh 4352×List (fh 256)×List (fh 256×Int)×Int×Int=>∃i k:Nat,s.2.2.2.2=(i:Int)∧s.2.2.2.1=(k:Int)∧i≤4352∧k≤l.length∧(∀m,m<k→(l.getD m z3).2.1<256*(i:Int))∧Bl l i s.1 s.2.1 s.2.2.1)
  (fun s=>4352 - s.2.2.2.2.toNat) _ ?_ ⟨0,0,rfl,rfl,by omega,by omega,fun m hm=>by omega,⟨by simp,by simp,by simp,fun p V=>by simp at V,fun j X=>by omega,fun j _=>I1⟩⟩
 rintro⟨A,f,seen,s3,s4⟩ ⟨i,k,rfl,rfl,hi,hk,L,hB⟩;simp only at L hB;by_cases B:i<4352
 ·left
  have C:(i:Int)<4352:=by omega
  have h8:(0:Int)≤8:=by decide
  obtain⟨r,e1,M,rfl,k1,k2,k3,k4⟩:=Ac B hl hk (fun n hn=>by have:=hx n hn;omega);have D:∀m,m<M→(l.getD m z3).2.1<256*(i:Int):=fun m hm=>by
   rcases Nat.lt_or_ge m k with h | h
   ·exact L m h
   ·exact k3 m h hm
  obtain⟨b,e2,hb⟩:=zW B ⟨hl,hx,hs⟩ k2 D k4;have u:i64.wrap ((i:Int)+1)=((i+1:Nat):Int):=by rw[wrap_i64 (by omega) (by omega)];rfl
  have x:∀m,m<M→(l.getD m z3).2.1<256*((i+1:Nat):Int):=fun m hm=>by have:=D m hm;omega
  by_cases hz:Hr b (dB 256)=true
  ·have a2:=HL.1 hz;refine⟨(A,f,seen,(M:Int),((i+1:Nat):Int)),?_,⟨i+1,M,rfl,rfl,by omega,k2,x,⟨hB.pos,by have:=hB.len;simp only;omega,hB.zero,hB.seen,fun j X=>?_,fun j X=>hB.rest j (by omega)⟩⟩,by simp only[Int.toNat_natCast];omega⟩
   ·simp only[fN,C,h8,decide_true,if_true,Option.bind,e1,e2,hz,u]
   ·by_cases ej:j=i
    ·subst ej;refine⟨0,by rw[hB.rest j (Nat.le_refl _)];rfl,hB.pos,fun c hc=>?_⟩;simp only;rw[hB.zero,←hb c hc,a2]
    ·exact hB.has j (by omega)
  ·have N:∀(z:List (fh 256)) (q:Nat),f.length≤z.length→(∀j,j<f.length→z.getD j (dB 256)=f.getD j (dB 256))→q<z.length→z.getD q (dB 256)=b →
     ∀j,j<i+1→∃Y:Nat,fC (qM A i (q:Int)) j=(Y:Int)∧Y<z.length∧∀c:Nat,c<256→fC (z.getD Y (dB 256)) c=atR l (256*(j:Int)+c):=fun z q g1 g2 g3 g4 j X=>by
    by_cases ej:j=i
    ·subst ej;exact⟨q,by rw[rf _ B,if_pos rfl],g3,fun c hc=>by rw[g4];exact hb c hc⟩
    ·obtain⟨Y,Z,f2,f3⟩:=hB.has j (by omega);exact⟨Y,by rw[rf _ B,if_neg (fun e=>ej e.symm)];exact Z,by omega,fun c hc=>by rw[g2 Y f2];exact f3 c hc⟩
   have E:∀(q:Int) j,i+1≤j→fC (qM A i q) j=0:=fun q j X=>by rw[rf _ B,if_neg (by omega)];exact hB.rest j (by omega)
   cases hf:bg (.arr .u8 256) seen b with
   | none =>
    have I:∀j,j<f.length→(f++[b]).getD j (dB 256)=f.getD j (dB 256):=fun j X=>by simp only[List.getD_eq_getElem?_getD];rw[List.getElem?_append_left X]
    have J:(f++[b]).getD f.length (dB 256)=b:=by simp
    have a1:=hB.len;refine⟨(qM A i (f.length:Int),f++[b],cO (.arr .u8 256) seen b (f.length:Int),(M:Int),((i+1:Nat):Int)),?_,⟨i+1,M,rfl,rfl,by omega,k2,x,⟨by simp,by simp;omega,by
      simp only;rw[I 0 hB.pos];exact hB.zero,fun p V=>?_,N (f++[b]) f.length (by simp) I (by simp) J,E _⟩⟩,by simp only[Int.toNat_natCast];omega⟩
    ·simp only[fN,C,h8,decide_true,if_true,Option.bind,e1,e2,hz,u,hf,Bool.false_eq_true,if_false,Option.isSome,Bool.not_false];have a3:(f.length+([b]:List (fh 256)).length)*256≤140737488355328∧f.length+([b]:List (fh 256)).length≤9223372036854775807:=by simp only[List.length_singleton];omega
     have O:0≤(i:Int)∧(i:Int)<((4352:Nat):Int):=by omega
     rw[if_pos a3];simp only;rw[if_pos O,Int.toNat_natCast]
    ·simp only at V ⊢;rcases A2 V with rfl | V
     ·exact⟨f.length,rfl,by simp,J⟩
     ·obtain⟨q,Z,f2,f3⟩:=hB.seen p V;exact⟨q,Z,by simp;omega,by rw[I q f2];exact f3⟩
   | some v =>
    obtain⟨q,Z,f2,f3⟩:=hB.seen _ (ye (K:= .arr .u8 256) rfl hf);simp only at Z f3;subst Z;have a1:=hB.len;refine⟨(qM A i (q:Int),f,seen,(M:Int),((i+1:Nat):Int)),?_,⟨i+1,M,rfl,rfl,by omega,k2,x,⟨hB.pos,by simp only;omega,hB.zero,hB.seen,N f q (Nat.le_refl _) (fun _ _=>rfl) f2 f3,E _⟩⟩,by simp only[Int.toNat_natCast];omega⟩;simp only[fN,C,h8,decide_true,if_true,Option.bind,e1,e2,hz,u,hf,Bool.false_eq_true,if_false,Option.isSome,Bool.not_true,Option.getD];have O:0≤(i:Int)∧(i:Int)<((4352:Nat):Int):=by omega
    rw[if_pos O,Int.toNat_natCast]
 ·right
  obtain rfl:i=4352:=by omega
  exact⟨(A,f),by simp[fN],seen,hB⟩
def n6(t:Option ((fh 4352)×List (fh 256)))(f:Int→Int):Prop:=bd t=fun r=>some (f r)
def G9(l:Qx)(r:Int):Int:=if 0≤r∧r≤1114111 then atR l r else 0
theorem Rs.rp{most:Int}:∀ {last:Int} {l:Qx},0≤last+1→Rs most last l →
  (∀n,n<l.length→last<(l.getD n z3).1∧(l.getD n z3).1≤(l.getD n z3).2.1∧(l.getD n z3).2.1≤1114111∧0≤(l.getD n z3).2.2∧(l.getD n z3).2.2≤255∧(l.getD n z3).2.2<most) ∧
  ∀m n,m<n→n<l.length→(l.getD m z3).2.1<(l.getD n z3).1
 | _,[],_,_=>⟨fun n h=>by simp at h,fun m n _ h=>by simp at h⟩
 | last,x::l,B,⟨f,j,p,q,u,v,z⟩=>by
  obtain⟨e,A⟩:=Rs.rp (by omega) z;refine⟨fun n hn=>?_,fun m n C hn=>?_⟩
  ·cases n with
   | zero=>exact⟨f,j,p,q,v,u⟩
   | succ n =>
    have:=e n (by simpa using hn);simp only[List.getD_cons_succ];exact⟨by omega,this.2⟩
  ·cases n with
   | zero=>omega
   | succ n =>
    cases m with
    | zero=>simp only[List.getD_cons_succ,List.getD_cons_zero];exact(e n (by simpa using hn)).1
    | succ m=>simp only[List.getD_cons_succ];exact A m n (by omega) (by simpa using hn)
theorem pf{most:Int}(h:sV l most=true):Rp l:=by
 unfold sV at h;simp only[decide_eq_true_eq]at h;obtain⟨e,f⟩:=Rs.rp (by omega) h.2;exact⟨h.1,fun n hn=>by have:=e n hn;omega,f⟩
theorem Gk{e:fh 4352}{p:List (fh 256)}(x:Rp l)(has:∀j,j<4352→∃q:Nat,fC e j=(q:Int)∧q<p.length∧∀c:Nat,c<256→fC (p.getD q (dB 256)) c=atR l (256*(j:Int)+c)):n6 (some (e,p)) (G9 l):=by
 funext r;unfold bd G9;by_cases u:r<0
 ·rw[show(if 0≤r∧r≤1114111 then atR l r else 0)=0 from if_neg (by omega)];simp[u]
 by_cases z:r > 1114111
 ·rw[show(if 0≤r∧r≤1114111 then atR l r else 0)=0 from if_neg (by omega)];simp[u,z]
 rw[show(if 0≤r∧r≤1114111 then atR l r else 0)=atR l r from if_pos (by omega)];have hd:Int.fdiv r (2 ^ (min (8:Int).toNat i32.bits))=r / 256:=by rw[show(min (8:Int).toNat i32.bits)=8 from rfl,Int.fdiv_eq_ediv_of_nonneg _ (by decide)];rfl
 obtain⟨q,C,J,D⟩:=has (r / 256).toNat (by omega);have A:=D (r % 256).toNat (by omega);have E:256*((r / 256).toNat:Int)+((r % 256).toNat:Int)=r:=by omega
 rw[E]at A;have I:bitsOf .and .i32 r 255=r % 256:=FW (by omega) (by omega);have L:0≤atR l r∧atR l r≤255:=by
  by_cases B:∃n,n<l.length∧Has l n r
  ·obtain⟨n,f,v⟩:=B;rw[C0 x f v];have:=x.2.1 n f;omega
  ·rw[zl fun n f v=>B ⟨n,f,v⟩];omega
 simp only[Option.isNone,Option.isSome,Option.getD,Bool.false_eq_true,if_false,u,z,decide_false,if_true,Option.bind,hd,I,C,Int.toNat_natCast];rw[if_pos (by decide),if_pos (by omega),if_pos (by omega),if_pos (by omega),A,wrap_i64 (by omega) (by omega)]
theorem tQ(l:Qx)(e:Int):fU l e=some (none,10)∧sV l e=false∨∃t,fU l e=some (some t,0)∧sV l e=true∧n6 (some t) (G9 l):=by
 unfold fU;rw[zv];cases h:sV l e with
 | false=>exact .inl ⟨rfl,rfl⟩
 | true =>
  obtain⟨r,f,seen,j⟩:=A0 (pf h);refine .inr ⟨r,?_,rfl,Gk (pf h) j.has⟩;simp only[Option.bind,f,Bool.not_true,Bool.false_eq_true,if_false];rw[if_pos (by decide)]
end
end Go.Proofs.YtflahpmlcfhpcaaGreatDoor.T
