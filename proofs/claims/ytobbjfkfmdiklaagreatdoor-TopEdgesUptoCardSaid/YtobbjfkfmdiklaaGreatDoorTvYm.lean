import Derived.Test.YtobbjfkfmdiklaaGreatDoorTvR
import Derived.Test.YtobbjfkfmdiklaaGreatDoorTvT50eTopEdges
namespace Go.Tv
open Go
open Go.IntKind (i32 i64 u32 u64 u8)
section
variable{S T S' T':Type}
theorem iz{body:S→Option (S⊕T)}(st:Nat→S)(n:Nat){r:T}(h:∀k,k<n→body (st k)=some (.inl (st (k+1))))(j:body (st n)=some (.inr r)):iter body (st 0)=some r:=by
 have key:∀m k,k+m=n→iter body (st k)=some r:=fun m=>by
  induction m with
  | zero =>
   intro k hk;obtain rfl:k=n:=by omega
   rw[iter_eq,j]
  | succ m p =>intro k hk;rw[iter_eq,h k (by omega)];exact p (k+1) (by omega)
 exact key n 0 (by omega)
theorem dG{body:S→Option (S⊕T)}(I:S→Prop)(μ:S→Nat)(Q:T→Prop)(step:∀s,I s→(∃y,body s=some (.inl y)∧I y∧μ y<μ s)∨∃r,body s=some (.inr r)∧Q r){s:S}(h:I s):∃r,iter body s=some r∧Q r:=by
 have key:∀m s,I s→μ s≤m→∃r,iter body s=some r∧Q r:=fun m=>by
  induction m with
  | zero =>
   intro s j hm;rcases step s j with⟨y,_,_,p⟩ | ⟨r,h1,h2⟩
   ·omega
   ·exact⟨r,by rw[iter_eq,h1],h2⟩
  | succ m q =>
   intro s j hm;rcases step s j with⟨y,h1,h2,p⟩ | ⟨r,h1,h2⟩
   ·obtain⟨r,u,z⟩:=q y h2 (by omega);exact⟨r,by rw[iter_eq,h1];exact u,z⟩
   ·exact⟨r,by rw[iter_eq,h1],h2⟩
 exact key (μ s) s h (Nat.le_refl _)
end
theorem wrap_i64{x:Int}(h1 : -9223372036854775808≤x)(h2:x≤9223372036854775807):i64.wrap x=x:=by
 simp only[IntKind.wrap,IntKind.min,IntKind.max]
 first | omega | (simp[IntKind.bits,IntKind.signed];omega)
theorem wrap_i32{x:Int}(h1 : -2147483648≤x)(h2:x≤2147483647):i32.wrap x=x:=by
 simp[IntKind.wrap,IntKind.bits,IntKind.signed];omega
theorem wrap_u8{x:Int}(h1:0≤x)(h2:x≤255):u8.wrap x=x:=by
 simp[IntKind.wrap,IntKind.bits,IntKind.signed];omega
theorem wrap_u32{x:Int}(h1:0≤x)(h2:x≤4294967295):u32.wrap x=x:=by
 simp[IntKind.wrap,IntKind.bits,IntKind.signed];omega
theorem wrap_u64{x:Int}(h1:0≤x)(h2:x≤18446744073709551615):u64.wrap x=x:=by
 simp[IntKind.wrap,IntKind.bits,IntKind.signed];omega
theorem Fo(x:Int):u64.wrap x=x % 18446744073709551616:=by
 simp[IntKind.wrap,IntKind.bits,IntKind.signed]
theorem eK{n:Nat}{x:Int}(h1:0≤x)(h2:x<2 ^ n):(BitVec.ofInt n x).toNat=x.toNat:=by
 rw[BitVec.toNat_ofInt];have e:x % ((2 ^ n:Nat):Int)=x:=Int.emod_eq_of_lt h1 (by exact_mod_cast h2);rw[e]
theorem EY{x:Int}(h1:0≤x)(h2:x≤2147483647){k:Nat}(hk:k≤31):bitsOf .and .i32 x ((2 ^ k - 1:Nat):Int)=x % ((2 ^ k:Nat):Int):=by
 have j:(2:Nat) ^ k≤2 ^ 31:=Nat.pow_le_pow_right (by decide) hk;have hp:0<(2:Nat) ^ k:=Nat.pow_pos (by decide);have p:(2:Nat) ^ 31=2147483648:=by decide
 have q:(2:Int) ^ 32=4294967296:=by decide
 show i32.wrap ((BitVec.ofInt i32.bits x &&& BitVec.ofInt i32.bits ((2 ^ k - 1:Nat):Int)).toNat:Int)=_;rw[BitVec.toNat_and,eK h1 (by show x<(2:Int) ^ 32;omega),eK (by omega) (by show((2 ^ k - 1:Nat):Int)<(2:Int) ^ 32;omega),Int.toNat_natCast,Nat.and_two_pow_sub_one_eq_mod];have hm:=Nat.mod_lt x.toNat hp;have u:=Nat.mod_le x.toNat (2 ^ k);rw[wrap_i32 (by omega) (by omega)];have:((x.toNat:Nat):Int)=x:=by omega
 rw[Int.natCast_emod,this]
theorem LI{x:Int}(h1:0≤x)(h2:x≤255){k:Nat}(hk:k≤8):bitsOf .and .u8 x ((2 ^ k - 1:Nat):Int)=x % ((2 ^ k:Nat):Int):=by
 have j:(2:Nat) ^ k≤2 ^ 8:=Nat.pow_le_pow_right (by decide) hk;have hp:0<(2:Nat) ^ k:=Nat.pow_pos (by decide);have u:(2:Nat) ^ 8=256:=by decide
 have p:(2:Int) ^ 8=256:=by decide
 show u8.wrap ((BitVec.ofInt u8.bits x &&& BitVec.ofInt u8.bits ((2 ^ k - 1:Nat):Int)).toNat:Int)=_;rw[BitVec.toNat_and,eK h1 (by show x<(2:Int) ^ 8;omega),eK (by omega) (by show((2 ^ k - 1:Nat):Int)<(2:Int) ^ 8;omega),Int.toNat_natCast,Nat.and_two_pow_sub_one_eq_mod];have hm:=Nat.mod_lt x.toNat hp;have q:=Nat.mod_le x.toNat (2 ^ k);rw[wrap_u8 (by omega) (by omega)];have:((x.toNat:Nat):Int)=x:=by omega
 rw[Int.natCast_emod,this]
theorem Lm{a y:Int}{k:Nat}(ha:0≤a)(q:0≤y)(u:y<((2 ^ k:Nat):Int))(z:a*((2 ^ k:Nat):Int)+y≤2147483647):bitsOf .or .i32 (a*((2 ^ k:Nat):Int)) y=a*((2 ^ k:Nat):Int)+y:=by
 have v:(2:Int) ^ 32=4294967296:=by decide
 have j:0≤a*((2 ^ k:Nat):Int):=Int.mul_nonneg ha (by omega);show i32.wrap ((BitVec.ofInt i32.bits (a*((2 ^ k:Nat):Int)) ||| BitVec.ofInt i32.bits y).toNat:Int)=_;rw[BitVec.toNat_or,eK j (by show a*((2 ^ k:Nat):Int)<(2:Int) ^ 32;omega),eK q (by show y<(2:Int) ^ 32;omega)];have p:(a*((2 ^ k:Nat):Int)).toNat=a.toNat <<< k:=by rw[Nat.shiftLeft_eq,Int.toNat_mul ha (by omega),Int.toNat_natCast]
 rw[p,←Nat.shiftLeft_add_eq_or_of_lt (show y.toNat<2 ^ k by omega),←p];rw[wrap_i32 (by omega) (by omega)];omega
def my(P:Nat→Bool):Nat→Nat
 | 0=>0
 | n+1=>if P 0 then 0 else my (fun x=>P (x+1)) n+1
theorem yG:∀(P:Nat→Bool) (n:Nat),my P n≤n
 | _,0=>Nat.le_refl _
 | P,n+1=>by
  have:=yG (fun x=>P (x+1)) n;simp only[my];split <;> omega
theorem yZ:∀(P:Nat→Bool) (n:Nat) {j:Nat},j<my P n→P j=false
 | _,0,j,h=>absurd h (by simp[my])
 | P,n+1,j,h=>by
  simp only[my]at h;split at h
  ·omega
  ·rename_i p;cases j with
   | zero=>simpa using p
   | succ j=>exact yZ (fun x=>P (x+1)) n (j:=j) (by omega)
theorem yH:∀(P:Nat→Bool) (n:Nat),my P n<n→P (my P n)=true
 | _,0,h=>absurd h (by simp)
 | P,n+1,h=>by
  simp only[my]at h ⊢;split
  ·assumption
  ·rename_i j;rw[if_neg j]at h;exact yH (fun x=>P (x+1)) n (by omega)
theorem kF{α:Type}{l:List α}{i:Nat}{d:α}(h:i<l.length):l.getD i d=l[i]:=by
 rw[List.getD_eq_getElem?_getD,List.getElem?_eq_getElem h];rfl
theorem sN{α:Type}{l:List α}{i:Nat}{d:α}(h:i<l.length):l.getD i d∈l:=by
 rw[kF h];exact List.getElem_mem h
theorem qw{α:Type}{l:List α}{i:Nat}{d:α}(h:i<l.length):l.take (i+1)=l.take i++[l.getD i d]:=by
 rw[List.take_add_one,List.getElem?_eq_getElem h,kF h];rfl
end Go.Tv
namespace Go.Proofs.YtobbjfkfmdiklaaGreatDoor.T
open Go Go.Tv Go.Proofs
open Go.IntKind (i32 i64 u32 u64 u8)
theorem fX{S T:Type}{body:S→Option (S⊕T)}{s y:S}(h:body s=some (.inl y)):iter body s=iter body y:=by rw[iter_eq,h]
theorem dH{S T:Type}{body:S→Option (S⊕T)}{s:S}{r:T}(h:body s=some (.inr r)):iter body s=some r:=by rw[iter_eq,h]
def Rs(most:Int):Int→Qx→Prop
 | _,[]=>True
 | last,x::r=>last<x.1∧x.1≤x.2.1∧x.2.1≤1114111∧0≤x.2.2∧x.2.2<most∧x.2.2≤255∧Rs most x.2.1 r
instance (j:Int):∀(last:Int) (l:Qx),Decidable (Rs j last l)
 | _,[]=>isTrue trivial
 | _,x::r =>
  have:Decidable (Rs j x.2.1 r):=instDecidableRs j x.2.1 r
  inferInstanceAs (Decidable (_∧_))
def uw(l:Qx)(j:Int):Bool:=decide (l.length≤256∧Rs j (-1) l)
def atR(l:Qx)(r:Int):Int :=
 match l with
 | []=>0
 | x::m=>if x.1≤r∧r≤x.2.1 then x.2.2 else atR m r
theorem rH{most:Int}(l:Qx)(hl:l.length≤256):∀(r pre:Qx),l=pre++r→∀last,
  iter (dU l most) (last,(pre.length:Int))=some (if Rs most last r then .inl ()else .inr false)
 | [],pre,h,last=>by
  have hn:¬((pre.length:Int)<(l.length:Int)):=by rw[h];simp
  refine dH ?_;rw[if_pos (show Rs most last []from trivial)];simp only[dU,hn,decide_false,Bool.false_eq_true,if_false]
 | x::r,pre,h,last=>by
  have u:l.length=pre.length+(r.length+1):=by rw[h];simp
  have hi:(pre.length:Int)<(l.length:Int):=by omega
  have hp:0≤(pre.length:Int):=by omega
  have v:l.getD pre.length (0,(0,0))=x:=by rw[h];simp
  have z:i64.wrap ((pre.length:Int)+1)=((pre++[x]).length:Int):=by rw[wrap_i64 (by omega) (by omega)];simp
  have B:=rH (most:=most) l hl r (pre++[x]) (by rw[h];simp) x.2.1;by_cases hc:last<x.1∧x.1≤x.2.1∧x.2.1≤1114111∧0≤x.2.2∧x.2.2<most∧x.2.2≤255
  ·have hb:dU l most (last,(pre.length:Int))=some (.inl (x.2.1,((pre++[x]).length:Int))):=by obtain⟨h1,h2,j,p,q,A⟩:=hc;simp only[dU,hi,hp,and_self,decide_true,if_true,Int.toNat_natCast,v,z];simp[show ¬x.1≤last by omega,show ¬x.2.1<x.1 by omega,show ¬1114111<x.2.1 by omega,show ¬x.2.2<0 by omega,show ¬most≤x.2.2 by omega,show ¬255<x.2.2 by omega]
   rw[fX hb,B];have:Rs most last (x::r)↔Rs most x.2.1 r:=⟨fun h=>h.2.2.2.2.2.2,fun h=>⟨hc.1,hc.2.1,hc.2.2.1,hc.2.2.2.1,hc.2.2.2.2.1,hc.2.2.2.2.2,h⟩⟩;simp only[this]
  ·have hb:dU l most (last,(pre.length:Int))=some (.inr (.inr false)):=by
    simp only[dU,hi,hp,and_self,decide_true,if_true,Int.toNat_natCast,v,z];by_cases h1:x.1≤last
    ·simp[h1]
    by_cases h2:x.2.1<x.1
    ·simp[h1,h2]
    by_cases j:1114111<x.2.1
    ·simp[h1,h2,j]
    by_cases p:x.2.2<0
    ·simp[h1,h2,j,p]
    by_cases q:most≤x.2.2
    ·simp[h1,h2,j,p,q]
    by_cases A:255<x.2.2
    ·simp[h1,h2,j,p,q,A]
    exact absurd ⟨by omega,by omega,by omega,by omega,by omega,by omega⟩ hc
   rw[dH hb,if_neg (fun h=>hc ⟨h.1,h.2.1,h.2.2.1,h.2.2.2.1,h.2.2.2.2.1,h.2.2.2.2.2.1⟩)]
theorem y7(l:Qx)(j:Int):lG l j=some (uw l j):=by
 unfold lG uw;by_cases hl:l.length≤256
 ·rw[if_neg (by simp;omega),show((-1:Int),(0:Int))=(-1,(([]:Qx).length:Int))from rfl,rH l hl l [] rfl (-1)];by_cases h:Rs j (-1) l
  ·simp[h,hl]
  ·simp[h]
 ·rw[if_pos (by simp;omega)];simp[hl]
/-! ### p u q -/
theorem Ks{n c:Nat}:fF (dx n) c=0:=by
 unfold fF dx;simp only[List.getD_eq_getElem?_getD];rw[List.getElem?_replicate];split <;> rfl
theorem rX{n:Nat}(b:fh n){c:Nat}(hc:c<n)(v:Int)(d:Nat):fF (rW b c v) d=if c=d then v else fF b d:=by
 unfold fF rW;simp only[List.getD_eq_getElem?_getD,List.getElem?_set];by_cases h:c=d
 ·subst h;simp[b.2,hc]
 ·simp[h]
theorem fh.ext{n:Nat}{a b:fh n}(h:∀c,c<n→fF a c=fF b c):a=b:=by
 obtain⟨a,ha⟩:=a;obtain⟨b,hb⟩:=b;congr 1;refine List.ext_getElem (by rw[ha,hb]) fun c h1 h2=>?_
 have:=h c (by rw[←ha];exact h1);simpa [fF,List.getD_eq_getElem?_getD,h1,h2]using this
theorem Jt{n:Nat}{a b:fh n}:IJ a b=true↔a=b:=by
 unfold IJ;rw[beq_iff_eq];exact⟨fun h=>Subtype.ext h,fun h=>by rw[h]⟩
theorem mM{i:Nat}(hi:i<4352):(i32.wrap ((i32.wrap (i:Int))*2 ^ (min (8:Int).toNat i32.bits)))=256*(i:Int):=by
 rw[show(min (8:Int).toNat i32.bits)=8 from rfl,wrap_i32 (x:=(i:Int)) (by omega) (by omega),wrap_i32 (by omega) (by omega)];omega
theorem uY{i:Nat}(hi:i<4352):i32.wrap (256*(i:Int)+255)=256*(i:Int)+255:=wrap_i32 (by omega) (by omega)
theorem Gu{r:Int}(h1:0≤r)(h2:r≤2147483647):bitsOf .and .i32 r 255=r % 256:=by
 have:=EY h1 h2 (k:=8) (by omega);simpa using this
section
variable{l:Qx}{i:Nat}
abbrev z3:Int×Int×Int:=(0,(0,0))
def Rp(l:Qx):Prop:=l.length≤256∧(∀n,n<l.length→0≤(l.getD n z3).1∧(l.getD n z3).1≤(l.getD n z3).2.1∧(l.getD n z3).2.1≤1114111∧0≤(l.getD n z3).2.2∧(l.getD n z3).2.2≤255) ∧
 ∀m n,m<n→n<l.length→(l.getD m z3).2.1<(l.getD n z3).1
theorem AA(hi:i<4352)(A:Rp l){n:Nat}(hn:n<l.length)(h1:256*(i:Int)≤(l.getD n z3).2.1)(h2:(l.getD n z3).1≤256*(i:Int)+255)(b:fh 256):
  ∃v,iter (iZ l (i:Int) (n:Int)) (b,max (l.getD n z3).1 (256*(i:Int)))=some v ∧
   ∀c:Nat,c<256→fF v c=if(l.getD n z3).1≤256*(i:Int)+c∧256*(i:Int)+c≤(l.getD n z3).2.1 then(l.getD n z3).2.2 else fF b c:=by
 obtain⟨hl,B,-⟩:=A;obtain⟨J,L,M,C,D⟩:=B n hn;refine dG (fun s:fh 256×Int=>max (l.getD n z3).1 (256*(i:Int))≤s.2∧s.2≤min (l.getD n z3).2.1 (256*(i:Int)+255)+1 ∧
   ∀c:Nat,c<256→fF s.1 c=if(l.getD n z3).1≤256*(i:Int)+c∧256*(i:Int)+c<s.2 then(l.getD n z3).2.2 else fF b c) (fun s=>(256*(i:Int)+300 - s.2).toNat) _ ?_ ?_
 ·rintro⟨x,r⟩ ⟨E,I,u⟩;simp only at E I u;by_cases z:r≤min (l.getD n z3).2.1 (256*(i:Int)+255)
  ·left
   have hm:bitsOf .and .i32 r 255=r - 256*(i:Int):=by rw[Gu (by omega) (by omega)];omega
   refine⟨(rW x (r - 256*(i:Int)).toNat (l.getD n z3).2.2,r+1),?_,⟨by simp only;omega,by simp only;omega,fun c hc=>?_⟩,by simp only;omega⟩
   ·simp only[iZ,Int.toNat_natCast,mM hi,uY hi,hm,z,decide_true,if_true];rw[if_pos ⟨by omega,by omega⟩,if_pos ⟨by omega,by omega⟩,if_pos ⟨by omega,by omega⟩,wrap_u8 C D,wrap_i32 (by omega) (by omega)]
   ·simp only;rw[rX _ (by omega),u c hc];by_cases p:(r - 256*(i:Int)).toNat=c
    ·rw[if_pos p,if_pos ⟨by omega,by omega⟩]
    ·rw[if_neg p];by_cases j:(l.getD n z3).1≤256*(i:Int)+c∧256*(i:Int)+c<r
     ·rw[if_pos j,if_pos ⟨j.1,by omega⟩]
     ·rw[if_neg j,if_neg (fun q=>j ⟨q.1,by omega⟩)]
  ·right
   refine⟨x,?_,fun c hc=>?_⟩
   ·simp only[iZ,Int.toNat_natCast,mM hi,uY hi,z,decide_false,Bool.false_eq_true,if_false];rw[if_pos ⟨by omega,by omega⟩]
   ·rw[u c hc];by_cases j:(l.getD n z3).1≤256*(i:Int)+c∧256*(i:Int)+c<r
    ·rw[if_pos j,if_pos ⟨j.1,by omega⟩]
    ·rw[if_neg j,if_neg (fun q=>j ⟨q.1,by omega⟩)]
 ·refine⟨by simp only;omega,by simp only;omega,fun c hc=>?_⟩;rw[if_neg (fun q=>by simp only at q;omega)]
theorem BJ(hi:i<4352)(hl:l.length≤256){k:Nat}(hk:k≤l.length)(_:∀n,n<l.length→0≤(l.getD n z3).2.1):
  ∃r,iter (gK l (i:Int)) (k:Int)=some r∧∃j:Nat,r=(j:Int)∧k≤j∧j≤l.length∧(∀m,k≤m→m<j→(l.getD m z3).2.1<256*(i:Int))∧(j<l.length→256*(i:Int)≤(l.getD j z3).2.1):=by
 refine dG (fun s:Int=>∃j:Nat,s=(j:Int)∧k≤j∧j≤l.length∧(∀m,k≤m→m<j→(l.getD m z3).2.1<256*(i:Int))) (fun s=>(l.length - s.toNat)) _ ?_ ⟨k,rfl,Nat.le_refl _,hk,fun m h1 h2=>by omega⟩;rintro s ⟨j,rfl,h1,h2,q⟩;by_cases u:j<l.length
 ·have p:(j:Int)<(l.length:Int):=by omega
  have hp:0≤(j:Int):=by omega
  by_cases hc:(l.getD j z3).2.1<256*(i:Int)
  ·left
   refine⟨((j+1:Nat):Int),?_,⟨j+1,rfl,by omega,by omega,fun m v x=>?_⟩,by simp only[Int.toNat_natCast];omega⟩
   ·simp only[gK,p,hp,and_self,decide_true,if_true,Int.toNat_natCast,mM hi,hc,Option.bind];rw[wrap_i64 (by omega) (by omega)];rfl
   ·by_cases e:m=j
    ·subst e;exact hc
    ·exact q m v (by omega)
  ·right
   refine⟨(j:Int),?_,j,rfl,h1,h2,q,fun _=>by omega⟩;simp only[gK,p,hp,and_self,decide_true,if_true,Int.toNat_natCast,mM hi,hc,decide_false,Option.bind,Bool.false_eq_true,if_false]
 ·right
  refine⟨(j:Int),?_,j,rfl,h1,h2,q,fun h=>absurd h u⟩;have hn:¬((j:Int)<(l.length:Int)):=by omega
  simp only[gK,hn,decide_false,Option.bind,Bool.false_eq_true,if_false]
abbrev Has(l:Qx)(n:Nat)(r:Int):Prop:=(l.getD n z3).1≤r∧r≤(l.getD n z3).2.1
theorem Rp.tail{x:Int×Int×Int}(h:Rp (x::l)):Rp l :=
 ⟨by have:=h.1;simp at this;omega,fun n hn=>by have:=h.2.1 (n+1) (by simpa using hn);simpa using this,fun m n hm hn=>by have:=h.2.2 (m+1) (n+1) (by omega) (by simpa using hn);simpa using this⟩
theorem C0{r:Int}:∀ {l:Qx} {n:Nat},Rp l→n<l.length→Has l n r→atR l r=(l.getD n z3).2.2
 | [],_,_,h,_=>by simp at h
 | x::l,0,_,_,h=>by
  simp only[Has,List.getD_cons_zero]at h;simp only[atR,List.getD_cons_zero];rw[if_pos h]
 | x::l,n+1,p,hn,h=>by
  have j:=p.2.2 0 (n+1) (by omega) hn;simp only[Has,List.getD_cons_succ,List.getD_cons_zero]at h j ⊢;simp only[atR];rw[if_neg (by omega)];exact C0 p.tail (by simpa using hn) h
theorem zX{r:Int}:∀ {l:Qx},(∀n,n<l.length→¬Has l n r)→atR l r=0
 | [],_=>rfl
 | x::l,h=>by
  have j:=h 0 (by simp);simp only[Has,List.getD_cons_zero]at j;simp only[atR];rw[if_neg j];exact zX fun n hn=>by have:=h (n+1) (by simpa using hn);simpa [Has]using this
theorem As(hi:i<4352)(X:Rp l){k:Nat}(hk:k≤l.length)(C:∀m,m<k→(l.getD m z3).2.1<256*(i:Int))(D:k<l.length→256*(i:Int)≤(l.getD k z3).2.1):
  ∃b,iter (gL l (i:Int)) (dx 256,(k:Int))=some b∧∀c:Nat,c<256→fF b c=atR l (256*(i:Int)+c):=by
 obtain⟨hl,J,E⟩:=X;refine dG (fun s:fh 256×Int=>∃n:Nat,s.2=(n:Int)∧k≤n∧n≤l.length∧∀c:Nat,c<256→(∀m,k≤m→m<n→Has l m (256*(i:Int)+c)→fF s.1 c=(l.getD m z3).2.2) ∧
  ((∀m,k≤m→m<n→¬Has l m (256*(i:Int)+c))→fF s.1 c=0)) (fun s=>l.length - s.2.toNat) _ ?_ ⟨k,rfl,Nat.le_refl _,hk,fun c hc=>⟨fun m h1 h2=>by omega,fun _=>Ks⟩⟩
 rintro⟨b,s2⟩ ⟨n,rfl,h1,h2,L⟩;simp only at L;have done:(∀m,n≤m→m<l.length→256*(i:Int)+255<(l.getD m z3).1)→∀c:Nat,c<256→fF b c=atR l (256*(i:Int)+c):=fun N c hc=>by
  obtain⟨x,A⟩:=L c hc;by_cases O:∃m,k≤m∧m<n∧Has l m (256*(i:Int)+c)
  ·obtain⟨m,I,B,M⟩:=O;rw[x m I B M,C0 ⟨hl,J,E⟩ (by omega) M]
  ·rw[A (fun m I B M=>O ⟨m,I,B,M⟩),zX];intro m hm u;rcases Nat.lt_or_ge m k with z | z
   ·have:=C m z;have:=u.2;omega
   ·rcases Nat.lt_or_ge m n with j | j
    ·exact O ⟨m,z,j,u⟩
    ·have:=N m j hm;have:=u.1;omega
 by_cases p:n<l.length
 ·have v:(n:Int)<(l.length:Int):=by omega
  have hp:0≤(n:Int):=by omega
  by_cases hc:(l.getD n z3).1≤256*(i:Int)+255
  ·left
   have Y:256*(i:Int)≤(l.getD n z3).2.1:=by
    rcases Nat.lt_or_ge k n with e | e
    ·have:=E k n e p;have:=D (by omega);have:=(J n p).2.1;omega
    ·obtain rfl:k=n:=by omega
     exact D p
   obtain⟨Z,I,B⟩:=AA hi ⟨hl,J,E⟩ p Y hc b;refine⟨(Z,((n+1:Nat):Int)),?_,⟨n+1,rfl,by omega,by omega,fun c hc=>⟨fun m x A V=>?_,fun q=>?_⟩⟩,by simp only[Int.toNat_natCast];omega⟩
   ·simp only[gL,v,hp,and_self,decide_true,if_true,Int.toNat_natCast,mM hi,uY hi,hc,Option.bind,I];rw[wrap_i64 (by omega) (by omega)];rfl
   ·simp only;rw[B c hc];by_cases em:m=n
    ·subst em;rw[if_pos V]
    ·have j:m<n:=by omega
     have:=E m n j p;rw[if_neg (fun h=>by have:=V.2;omega)];exact(L c hc).1 m x j V
   ·simp only;rw[B c hc,if_neg (fun h=>q n h1 (by omega) h)];exact(L c hc).2 fun m x A=>q m x (by omega)
  ·right
   refine⟨b,?_,done fun m x A=>?_⟩
   ·simp only[gL,v,hp,and_self,decide_true,if_true,Int.toNat_natCast,mM hi,uY hi,hc,decide_false,Option.bind,Bool.false_eq_true,if_false]
   ·by_cases em:m=n
    ·subst em;omega
    ·have:=E n m (by omega) A;have:=(J n p).2.1;omega
 ·right
  refine⟨b,?_,done fun m x A=>by omega⟩;have hn:¬((n:Int)<(l.length:Int)):=by omega
  simp only[gL,hn,decide_false,Option.bind,Bool.false_eq_true,if_false]
theorem A0{α:Type}{K:Ty}{k:K.den}{x:α}{p:K.den×α}:∀ {j:List (K.den×α)},p∈cN K j k x→p=(k,x)∨p∈j
 | [],h=>by simp only[cN,List.mem_singleton]at h;exact .inl h
 | q::r,h=>by
  simp only[cN]at h;split at h
  ·rcases List.mem_cons.1 h with h | h
   ·exact .inl h
   ·exact .inr (by simp[h])
  ·rcases List.mem_cons.1 h with h | h
   ·exact .inr (by simp[h])
   ·rcases A0 h with h | h
    ·exact .inl h
    ·exact .inr (by simp[h])
theorem yF{α:Type}{K:Ty}(j:K.isKey=true){k:K.den}{x:α}:∀ {p:List (K.den×α)},bh K p k=some x→(k,x)∈p
 | [],h=>by simp[bh]at h
 | q::r,h=>by
  simp only[bh]at h;split at h
  ·rename_i e;rw[fE j]at e;cases h;rw[←e];simp
  ·exact List.mem_cons_of_mem _ (yF j h)
structure Bl(l:Qx)(i:Nat)(idx:fh 4352)(bs:List (fh 256))(seen:List (fh 256×Int)):Prop where
 pos:1≤bs.length
 len:bs.length≤i+1
 zero:bs.getD 0 (dx 256)=dx 256
 seen:∀p∈seen,∃q:Nat,p.2=(q:Int)∧q<bs.length∧bs.getD q (dx 256)=p.1
 has:∀j,j<i→∃q:Nat,fF idx j=(q:Int)∧q<bs.length∧∀c:Nat,c<256→fF (bs.getD q (dx 256)) c=atR l (256*(j:Int)+c)
 rest:∀j,i≤j→fF idx j=0
theorem BT(hR:Rp l):∃r,iter (fJ l) (dx 4352,(List.replicate (1:Int).toNat (dx 256)),([]:List (fh 256×Int)),(0:Int),(0:Int))=some r∧∃seen,Bl l 4352 r.1 r.2 seen:=by
 obtain⟨hl,hx,hs⟩:=hR;refine dG (fun s:fh 4352×List (fh 256)×List (fh 256×Int)×Int×Int=>∃i k:Nat,s.2.2.2.2=(i:Int)∧s.2.2.2.1=(k:Int)∧i≤4352∧k≤l.length∧(∀m,m<k→(l.getD m z3).2.1<256*(i:Int))∧Bl l i s.1 s.2.1 s.2.2.1)
  (fun s=>4352 - s.2.2.2.2.toNat) _ ?_ ⟨0,0,rfl,rfl,by omega,by omega,fun m hm=>by omega,⟨by simp,by simp,by simp,fun p hp=>by simp at hp,fun j X=>by omega,fun j _=>Ks⟩⟩
 rintro⟨B,u,seen,s3,s4⟩ ⟨i,k,rfl,rfl,hi,hk,M,hB⟩;simp only at M hB;by_cases C:i<4352
 ·left
  have D:(i:Int)<4352:=by omega
  have h8:(0:Int)≤8:=by decide
  obtain⟨r,e1,N,rfl,k1,k2,k3,k4⟩:=BJ C hl hk (fun n hn=>by have:=hx n hn;omega);have E:∀m,m<N→(l.getD m z3).2.1<256*(i:Int):=fun m hm=>by
   rcases Nat.lt_or_ge m k with h | h
   ·exact M m h
   ·exact k3 m h hm
  obtain⟨b,e2,hb⟩:=As C ⟨hl,hx,hs⟩ k2 E k4;have x:i64.wrap ((i:Int)+1)=((i+1:Nat):Int):=by rw[wrap_i64 (by omega) (by omega)];rfl
  have z:∀m,m<N→(l.getD m z3).2.1<256*((i+1:Nat):Int):=fun m hm=>by have:=E m hm;omega
  by_cases hz:IJ b (dx 256)=true
  ·have a2:=Jt.1 hz;refine⟨(B,u,seen,(N:Int),((i+1:Nat):Int)),?_,⟨i+1,N,rfl,rfl,by omega,k2,z,⟨hB.pos,by have:=hB.len;simp only;omega,hB.zero,hB.seen,fun j X=>?_,fun j X=>hB.rest j (by omega)⟩⟩,by simp only[Int.toNat_natCast];omega⟩
   ·simp only[fJ,D,h8,decide_true,if_true,Option.bind,e1,e2,hz,x]
   ·by_cases ej:j=i
    ·subst ej;refine⟨0,by rw[hB.rest j (Nat.le_refl _)];rfl,hB.pos,fun c hc=>?_⟩;simp only;rw[hB.zero,←hb c hc,a2]
    ·exact hB.has j (by omega)
  ·have O:∀(A:List (fh 256)) (q:Nat),u.length≤A.length→(∀j,j<u.length→A.getD j (dx 256)=u.getD j (dx 256))→q<A.length→A.getD q (dx 256)=b →
     ∀j,j<i+1→∃Y:Nat,fF (rW B i (q:Int)) j=(Y:Int)∧Y<A.length∧∀c:Nat,c<256→fF (A.getD Y (dx 256)) c=atR l (256*(j:Int)+c):=fun A q g1 g2 g3 g4 j X=>by
    by_cases ej:j=i
    ·subst ej;exact⟨q,by rw[rX _ C,if_pos rfl],g3,fun c hc=>by rw[g4];exact hb c hc⟩
    ·obtain⟨Y,Z,f2,f3⟩:=hB.has j (by omega);exact⟨Y,by rw[rX _ C,if_neg (fun e=>ej e.symm)];exact Z,by omega,fun c hc=>by rw[g2 Y f2];exact f3 c hc⟩
   have I:∀(q:Int) j,i+1≤j→fF (rW B i q) j=0:=fun q j X=>by rw[rX _ C,if_neg (by omega)];exact hB.rest j (by omega)
   cases hf:bh (.arr .u8 256) seen b with
   | none =>
    have J:∀j,j<u.length→(u++[b]).getD j (dx 256)=u.getD j (dx 256):=fun j X=>by simp only[List.getD_eq_getElem?_getD];rw[List.getElem?_append_left X]
    have L:(u++[b]).getD u.length (dx 256)=b:=by simp
    have a1:=hB.len;refine⟨(rW B i (u.length:Int),u++[b],cN (.arr .u8 256) seen b (u.length:Int),(N:Int),((i+1:Nat):Int)),?_,⟨i+1,N,rfl,rfl,by omega,k2,z,⟨by simp,by simp;omega,by
      simp only;rw[J 0 hB.pos];exact hB.zero,fun p hp=>?_,O (u++[b]) u.length (by simp) J (by simp) L,I _⟩⟩,by simp only[Int.toNat_natCast];omega⟩
    ·simp only[fJ,D,h8,decide_true,if_true,Option.bind,e1,e2,hz,x,hf,Bool.false_eq_true,if_false,Option.isSome,Bool.not_false];have a3:(u.length+([b]:List (fh 256)).length)*256≤140737488355328∧u.length+([b]:List (fh 256)).length≤9223372036854775807:=by simp only[List.length_singleton];omega
     have V:0≤(i:Int)∧(i:Int)<((4352:Nat):Int):=by omega
     rw[if_pos a3];simp only;rw[if_pos V,Int.toNat_natCast]
    ·simp only at hp ⊢;rcases A0 hp with rfl | hp
     ·exact⟨u.length,rfl,by simp,L⟩
     ·obtain⟨q,Z,f2,f3⟩:=hB.seen p hp;exact⟨q,Z,by simp;omega,by rw[J q f2];exact f3⟩
   | some v =>
    obtain⟨q,Z,f2,f3⟩:=hB.seen _ (yF (K:= .arr .u8 256) rfl hf);simp only at Z f3;subst Z;have a1:=hB.len;refine⟨(rW B i (q:Int),u,seen,(N:Int),((i+1:Nat):Int)),?_,⟨i+1,N,rfl,rfl,by omega,k2,z,⟨hB.pos,by simp only;omega,hB.zero,hB.seen,O u q (Nat.le_refl _) (fun _ _=>rfl) f2 f3,I _⟩⟩,by simp only[Int.toNat_natCast];omega⟩;simp only[fJ,D,h8,decide_true,if_true,Option.bind,e1,e2,hz,x,hf,Bool.false_eq_true,if_false,Option.isSome,Bool.not_true,Option.getD];have V:0≤(i:Int)∧(i:Int)<((4352:Nat):Int):=by omega
    rw[if_pos V,Int.toNat_natCast]
 ·right
  obtain rfl:i=4352:=by omega
  exact⟨(B,u),by simp[fJ],seen,hB⟩
def oq(t:Option ((fh 4352)×List (fh 256)))(f:Int→Int):Prop:=bf t=fun r=>some (f r)
def Gs(l:Qx)(r:Int):Int:=if 0≤r∧r≤1114111 then atR l r else 0
theorem Rs.rp{most:Int}:∀ {last:Int} {l:Qx},0≤last+1→Rs most last l →
  (∀n,n<l.length→last<(l.getD n z3).1∧(l.getD n z3).1≤(l.getD n z3).2.1∧(l.getD n z3).2.1≤1114111∧0≤(l.getD n z3).2.2∧(l.getD n z3).2.2≤255∧(l.getD n z3).2.2<most) ∧
  ∀m n,m<n→n<l.length→(l.getD m z3).2.1<(l.getD n z3).1
 | _,[],_,_=>⟨fun n h=>by simp at h,fun m n _ h=>by simp at h⟩
 | last,x::l,B,⟨h1,h2,p,q,u,v,z⟩=>by
  obtain⟨j,A⟩:=Rs.rp (by omega) z;refine⟨fun n hn=>?_,fun m n hm hn=>?_⟩
  ·cases n with
   | zero=>exact⟨h1,h2,p,q,v,u⟩
   | succ n =>
    have:=j n (by simpa using hn);simp only[List.getD_cons_succ];exact⟨by omega,this.2⟩
  ·cases n with
   | zero=>omega
   | succ n =>
    cases m with
    | zero=>simp only[List.getD_cons_succ,List.getD_cons_zero];exact(j n (by simpa using hn)).1
    | succ m=>simp only[List.getD_cons_succ];exact A m n (by omega) (by simpa using hn)
theorem oT{most:Int}(h:uw l most=true):Rp l:=by
 unfold uw at h;simp only[decide_eq_true_eq]at h;obtain⟨j,p⟩:=Rs.rp (by omega) h.2;exact⟨h.1,fun n hn=>by have:=j n hn;omega,p⟩
theorem G8{p:fh 4352}{v:List (fh 256)}(z:Rp l)(has:∀j,j<4352→∃q:Nat,fF p j=(q:Int)∧q<v.length∧∀c:Nat,c<256→fF (v.getD q (dx 256)) c=atR l (256*(j:Int)+c)):oq (some (p,v)) (Gs l):=by
 funext r;unfold bf Gs;by_cases h1:r<0
 ·rw[show(if 0≤r∧r≤1114111 then atR l r else 0)=0 from if_neg (by omega)];simp[h1]
 by_cases h2:r > 1114111
 ·rw[show(if 0≤r∧r≤1114111 then atR l r else 0)=0 from if_neg (by omega)];simp[h1,h2]
 rw[show(if 0≤r∧r≤1114111 then atR l r else 0)=atR l r from if_pos (by omega)];have hd:Int.fdiv r (2 ^ (min (8:Int).toNat i32.bits))=r / 256:=by rw[show(min (8:Int).toNat i32.bits)=8 from rfl,Int.fdiv_eq_ediv_of_nonneg _ (by decide)];rfl
 obtain⟨q,C,I,D⟩:=has (r / 256).toNat (by omega);have A:=D (r % 256).toNat (by omega);have E:256*((r / 256).toNat:Int)+((r % 256).toNat:Int)=r:=by omega
 rw[E]at A;have hm:bitsOf .and .i32 r 255=r % 256:=Gu (by omega) (by omega);have J:0≤atR l r∧atR l r≤255:=by
  by_cases B:∃n,n<l.length∧Has l n r
  ·obtain⟨n,u,x⟩:=B;rw[C0 z u x];have:=z.2.1 n u;omega
  ·rw[zX fun n u x=>B ⟨n,u,x⟩];omega
 simp only[Option.isNone,Option.isSome,Option.getD,Bool.false_eq_true,if_false,h1,h2,decide_false,if_true,Option.bind,hd,hm,C,Int.toNat_natCast];rw[if_pos (by decide),if_pos (by omega),if_pos (by omega),if_pos (by omega),A,wrap_i64 (by omega) (by omega)]
theorem uF(l:Qx)(j:Int):fW l j=some (none,10)∧uw l j=false∨∃t,fW l j=some (some t,0)∧uw l j=true∧oq (some t) (Gs l):=by
 unfold fW;rw[y7];cases h:uw l j with
 | false=>exact .inl ⟨rfl,rfl⟩
 | true =>
  obtain⟨r,p,seen,q⟩:=BT (oT h);refine .inr ⟨r,?_,rfl,G8 (oT h) q.has⟩;simp only[Option.bind,p,Bool.not_true,Bool.false_eq_true,if_false];rw[if_pos (by decide)]
end
end Go.Proofs.YtobbjfkfmdiklaaGreatDoor.T
