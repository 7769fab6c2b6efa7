import Derived.Test.YtobbjfkfmdiklaaGreatDoorTvR
import Derived.Test.YtobbjfkfmdiklaaGreatDoorTvT50aa
namespace Go.Tv
open Go
open Go.IntKind (i32 i64 u32 u64 u8)
section
variable{S T S' T':Type}
theorem jz{body:S→Option (S⊕T)}(st:Nat→S)(n:Nat){r:T}(h:∀k,k<n→body (st k)=some (.inl (st (k+1))))(f:body (st n)=some (.inr r)):iter body (st 0)=some r:=by
 have key:∀m k,k+m=n→iter body (st k)=some r:=fun m=>by
  induction m with
  | zero =>
   intro k hk;obtain rfl:k=n:=by omega
   rw[iter_eq,f]
  | succ m j =>intro k hk;rw[iter_eq,h k (by omega)];exact j (k+1) (by omega)
 exact key n 0 (by omega)
theorem dh{body:S→Option (S⊕T)}(I:S→Prop)(μ:S→Nat)(Q:T→Prop)(step:∀s,I s→(∃y,body s=some (.inl y)∧I y∧μ y<μ s)∨∃r,body s=some (.inr r)∧Q r){s:S}(h:I s):∃r,iter body s=some r∧Q r:=by
 have key:∀m s,I s→μ s≤m→∃r,iter body s=some r∧Q r:=fun m=>by
  induction m with
  | zero =>
   intro s f hm;rcases step s f with⟨y,_,_,j⟩ | ⟨r,h1,h2⟩
   ·omega
   ·exact⟨r,by rw[iter_eq,h1],h2⟩
  | succ m p =>
   intro s f hm;rcases step s f with⟨y,h1,h2,j⟩ | ⟨r,h1,h2⟩
   ·obtain⟨r,q,u⟩:=p y h2 (by omega);exact⟨r,by rw[iter_eq,h1];exact q,u⟩
   ·exact⟨r,by rw[iter_eq,h1],h2⟩
 exact key (μ s) s h (Nat.le_refl _)
end
theorem wrap_i64{x:Int}(h1 : -9223372036854775808≤x)(h2:x≤9223372036854775807):i64.wrap x=x:=by
 simp only[IntKind.wrap,IntKind.min,IntKind.max]
 first | omega | (simp[IntKind.bits,IntKind.signed];omega)
theorem wrap_i32{x:Int}(h1 : -2147483648≤x)(h2:x≤2147483647):i32.wrap x=x:=by
 simp[IntKind.wrap,IntKind.bits,IntKind.signed];omega
theorem wrap_u8{x:Int}(h1:0≤x)(h2:x≤255):u8.wrap x=x:=by
 simp[IntKind.wrap,IntKind.bits,IntKind.signed];omega
theorem wrap_u32{x:Int}(h1:0≤x)(h2:x≤4294967295):u32.wrap x=x:=by
 simp[IntKind.wrap,IntKind.bits,IntKind.signed];omega
theorem wrap_u64{x:Int}(h1:0≤x)(h2:x≤18446744073709551615):u64.wrap x=x:=by
 simp[IntKind.wrap,IntKind.bits,IntKind.signed];omega
theorem FI(x:Int):u64.wrap x=x % 18446744073709551616:=by
 simp[IntKind.wrap,IntKind.bits,IntKind.signed]
theorem eF{n:Nat}{x:Int}(h1:0≤x)(h2:x<2 ^ n):(BitVec.ofInt n x).toNat=x.toNat:=by
 rw[BitVec.toNat_ofInt];have e:x % ((2 ^ n:Nat):Int)=x:=Int.emod_eq_of_lt h1 (by exact_mod_cast h2);rw[e]
theorem Ep{x:Int}(h1:0≤x)(h2:x≤2147483647){k:Nat}(hk:k≤31):bitsOf .and .i32 x ((2 ^ k - 1:Nat):Int)=x % ((2 ^ k:Nat):Int):=by
 have f:(2:Nat) ^ k≤2 ^ 31:=Nat.pow_le_pow_right (by decide) hk;have hp:0<(2:Nat) ^ k:=Nat.pow_pos (by decide);have j:(2:Nat) ^ 31=2147483648:=by decide
 have p:(2:Int) ^ 32=4294967296:=by decide
 show i32.wrap ((BitVec.ofInt i32.bits x &&& BitVec.ofInt i32.bits ((2 ^ k - 1:Nat):Int)).toNat:Int)=_;rw[BitVec.toNat_and,eF h1 (by show x<(2:Int) ^ 32;omega),eF (by omega) (by show((2 ^ k - 1:Nat):Int)<(2:Int) ^ 32;omega),Int.toNat_natCast,Nat.and_two_pow_sub_one_eq_mod];have hm:=Nat.mod_lt x.toNat hp;have q:=Nat.mod_le x.toNat (2 ^ k);rw[wrap_i32 (by omega) (by omega)];have:((x.toNat:Nat):Int)=x:=by omega
 rw[Int.natCast_emod,this]
theorem Ka{x:Int}(h1:0≤x)(h2:x≤255){k:Nat}(hk:k≤8):bitsOf .and .u8 x ((2 ^ k - 1:Nat):Int)=x % ((2 ^ k:Nat):Int):=by
 have f:(2:Nat) ^ k≤2 ^ 8:=Nat.pow_le_pow_right (by decide) hk;have hp:0<(2:Nat) ^ k:=Nat.pow_pos (by decide);have q:(2:Nat) ^ 8=256:=by decide
 have j:(2:Int) ^ 8=256:=by decide
 show u8.wrap ((BitVec.ofInt u8.bits x &&& BitVec.ofInt u8.bits ((2 ^ k - 1:Nat):Int)).toNat:Int)=_;rw[BitVec.toNat_and,eF h1 (by show x<(2:Int) ^ 8;omega),eF (by omega) (by show((2 ^ k - 1:Nat):Int)<(2:Int) ^ 8;omega),Int.toNat_natCast,Nat.and_two_pow_sub_one_eq_mod];have hm:=Nat.mod_lt x.toNat hp;have p:=Nat.mod_le x.toNat (2 ^ k);rw[wrap_u8 (by omega) (by omega)];have:((x.toNat:Nat):Int)=x:=by omega
 rw[Int.natCast_emod,this]
theorem KA{a y:Int}{k:Nat}(ha:0≤a)(p:0≤y)(q:y<((2 ^ k:Nat):Int))(v:a*((2 ^ k:Nat):Int)+y≤2147483647):bitsOf .or .i32 (a*((2 ^ k:Nat):Int)) y=a*((2 ^ k:Nat):Int)+y:=by
 have u:(2:Int) ^ 32=4294967296:=by decide
 have f:0≤a*((2 ^ k:Nat):Int):=Int.mul_nonneg ha (by omega);show i32.wrap ((BitVec.ofInt i32.bits (a*((2 ^ k:Nat):Int)) ||| BitVec.ofInt i32.bits y).toNat:Int)=_;rw[BitVec.toNat_or,eF f (by show a*((2 ^ k:Nat):Int)<(2:Int) ^ 32;omega),eF p (by show y<(2:Int) ^ 32;omega)];have j:(a*((2 ^ k:Nat):Int)).toNat=a.toNat <<< k:=by rw[Nat.shiftLeft_eq,Int.toNat_mul ha (by omega),Int.toNat_natCast]
 rw[j,←Nat.shiftLeft_add_eq_or_of_lt (show y.toNat<2 ^ k by omega),←j];rw[wrap_i32 (by omega) (by omega)];omega
def mI(P:Nat→Bool):Nat→Nat
 | 0=>0
 | n+1=>if P 0 then 0 else mI (fun x=>P (x+1)) n+1
theorem yj:∀(P:Nat→Bool) (n:Nat),mI P n≤n
 | _,0=>Nat.le_refl _
 | P,n+1=>by
  have:=yj (fun x=>P (x+1)) n;simp only[mI];split <;> omega
theorem yd:∀(P:Nat→Bool) (n:Nat) {j:Nat},j<mI P n→P j=false
 | _,0,j,h=>absurd h (by simp[mI])
 | P,n+1,j,h=>by
  simp only[mI]at h;split at h
  ·omega
  ·rename_i f;cases j with
   | zero=>simpa using f
   | succ j=>exact yd (fun x=>P (x+1)) n (j:=j) (by omega)
theorem yv:∀(P:Nat→Bool) (n:Nat),mI P n<n→P (mI P n)=true
 | _,0,h=>absurd h (by simp)
 | P,n+1,h=>by
  simp only[mI]at h ⊢;split
  ·assumption
  ·rename_i f;rw[if_neg f]at h;exact yv (fun x=>P (x+1)) n (by omega)
theorem kQ{α:Type}{l:List α}{i:Nat}{d:α}(h:i<l.length):l.getD i d=l[i]:=by
 rw[List.getD_eq_getElem?_getD,List.getElem?_eq_getElem h];rfl
theorem ym{α:Type}{l:List α}{i:Nat}{d:α}(h:i<l.length):l.getD i d∈l:=by
 rw[kQ h];exact List.getElem_mem h
theorem qR{α:Type}{l:List α}{i:Nat}{d:α}(h:i<l.length):l.take (i+1)=l.take i++[l.getD i d]:=by
 rw[List.take_add_one,List.getElem?_eq_getElem h,kQ h];rfl
end Go.Tv
namespace Go.Proofs.YtobbjfkfmdiklaaGreatDoor.T
open Go Go.Tv Go.Proofs
open Go.IntKind (i32 i64 u32 u64 u8)
theorem fm{S T:Type}{f:S→Option (S⊕T)}{s y:S}(h:f s=some (.inl y)):iter f s=iter f y:=by rw[iter_eq,h]
theorem cR{S T:Type}{f:S→Option (S⊕T)}{s:S}{r:T}(h:f s=some (.inr r)):iter f s=some r:=by rw[iter_eq,h]
def Rs(most:Int):Int→Qx→Prop
 | _,[]=>True
 | last,x::r=>last<x.1∧x.1≤x.2.1∧x.2.1≤1114111∧0≤x.2.2∧x.2.2<most∧x.2.2≤255∧Rs most x.2.1 r
instance (f:Int):∀(last:Int) (l:Qx),Decidable (Rs f last l)
 | _,[]=>isTrue trivial
 | _,x::r =>
  have:Decidable (Rs f x.2.1 r):=instDecidableRs f x.2.1 r
  inferInstanceAs (Decidable (_∧_))
def tY(l:Qx)(f:Int):Bool:=decide (l.length≤256∧Rs f (-1) l)
def atR(l:Qx)(r:Int):Int :=
 match l with
 | []=>0
 | x::m=>if x.1≤r∧r≤x.2.1 then x.2.2 else atR m r
theorem ra{most:Int}(l:Qx)(hl:l.length≤256):∀(r pre:Qx),l=pre++r→∀last,
  iter (dQ l most) (last,(pre.length:Int))=some (if Rs most last r then .inl ()else .inr false)
 | [],pre,h,last=>by
  have hn:¬((pre.length:Int)<(l.length:Int)):=by rw[h];simp
  refine cR ?_;rw[if_pos (show Rs most last []from trivial)];simp only[dQ,hn,decide_false,Bool.false_eq_true,if_false]
 | x::r,pre,h,last=>by
  have q:l.length=pre.length+(r.length+1):=by rw[h];simp
  have hi:(pre.length:Int)<(l.length:Int):=by omega
  have hp:0≤(pre.length:Int):=by omega
  have u:l.getD pre.length (0,(0,0))=x:=by rw[h];simp
  have v:i64.wrap ((pre.length:Int)+1)=((pre++[x]).length:Int):=by rw[wrap_i64 (by omega) (by omega)];simp
  have A:=ra (most:=most) l hl r (pre++[x]) (by rw[h];simp) x.2.1;by_cases hc:last<x.1∧x.1≤x.2.1∧x.2.1≤1114111∧0≤x.2.2∧x.2.2<most∧x.2.2≤255
  ·have hb:dQ l most (last,(pre.length:Int))=some (.inl (x.2.1,((pre++[x]).length:Int))):=by obtain⟨h1,h2,f,j,p,z⟩:=hc;simp only[dQ,hi,hp,and_self,decide_true,if_true,Int.toNat_natCast,u,v];simp[show ¬x.1≤last by omega,show ¬x.2.1<x.1 by omega,show ¬1114111<x.2.1 by omega,show ¬x.2.2<0 by omega,show ¬most≤x.2.2 by omega,show ¬255<x.2.2 by omega]
   rw[fm hb,A];have:Rs most last (x::r)↔Rs most x.2.1 r:=⟨fun h=>h.2.2.2.2.2.2,fun h=>⟨hc.1,hc.2.1,hc.2.2.1,hc.2.2.2.1,hc.2.2.2.2.1,hc.2.2.2.2.2,h⟩⟩;simp only[this]
  ·have hb:dQ l most (last,(pre.length:Int))=some (.inr (.inr false)):=by
    simp only[dQ,hi,hp,and_self,decide_true,if_true,Int.toNat_natCast,u,v];by_cases h1:x.1≤last
    ·simp[h1]
    by_cases h2:x.2.1<x.1
    ·simp[h1,h2]
    by_cases f:1114111<x.2.1
    ·simp[h1,h2,f]
    by_cases j:x.2.2<0
    ·simp[h1,h2,f,j]
    by_cases p:most≤x.2.2
    ·simp[h1,h2,f,j,p]
    by_cases z:255<x.2.2
    ·simp[h1,h2,f,j,p,z]
    exact absurd ⟨by omega,by omega,by omega,by omega,by omega,by omega⟩ hc
   rw[cR hb,if_neg (fun h=>hc ⟨h.1,h.2.1,h.2.2.1,h.2.2.2.1,h.2.2.2.2.1,h.2.2.2.2.2.1⟩)]
theorem z7(l:Qx)(f:Int):lO l f=some (tY l f):=by
 unfold lO tY;by_cases hl:l.length≤256
 ·rw[if_neg (by simp;omega),show((-1:Int),(0:Int))=(-1,(([]:Qx).length:Int))from rfl,ra l hl l [] rfl (-1)];by_cases h:Rs f (-1) l
  ·simp[h,hl]
  ·simp[h]
 ·rw[if_pos (by simp;omega)];simp[hl]
/-! ### j q p -/
theorem JY{n c:Nat}:fE (dq n) c=0:=by
 unfold fE dq;simp only[List.getD_eq_getElem?_getD];rw[List.getElem?_replicate];split <;> rfl
theorem rN{n:Nat}(b:ff n){c:Nat}(hc:c<n)(v:Int)(d:Nat):fE (sf b c v) d=if c=d then v else fE b d:=by
 unfold fE sf;simp only[List.getD_eq_getElem?_getD,List.getElem?_set];by_cases h:c=d
 ·subst h;simp[b.2,hc]
 ·simp[h]
theorem ff.ext{n:Nat}{a b:ff n}(h:∀c,c<n→fE a c=fE b c):a=b:=by
 obtain⟨a,ha⟩:=a;obtain⟨b,hb⟩:=b;congr 1;refine List.ext_getElem (by rw[ha,hb]) fun c h1 h2=>?_
 have:=h c (by rw[←ha];exact h1);simpa [fE,List.getD_eq_getElem?_getD,h1,h2]using this
theorem I0{n:Nat}{a b:ff n}:Im a b=true↔a=b:=by
 unfold Im;rw[beq_iff_eq];exact⟨fun h=>Subtype.ext h,fun h=>by rw[h]⟩
theorem m7{i:Nat}(hi:i<4352):(i32.wrap ((i32.wrap (i:Int))*2 ^ (min (8:Int).toNat i32.bits)))=256*(i:Int):=by
 rw[show(min (8:Int).toNat i32.bits)=8 from rfl,wrap_i32 (x:=(i:Int)) (by omega) (by omega),wrap_i32 (by omega) (by omega)];omega
theorem uZ{i:Nat}(hi:i<4352):i32.wrap (256*(i:Int)+255)=256*(i:Int)+255:=wrap_i32 (by omega) (by omega)
theorem Ie{r:Int}(h1:0≤r)(h2:r≤2147483647):bitsOf .and .i32 r 255=r % 256:=by
 have:=Ep h1 h2 (k:=8) (by omega);simpa using this
section
variable{l:Qx}{i:Nat}
abbrev z3:Int×Int×Int:=(0,(0,0))
def Rp(l:Qx):Prop:=l.length≤256∧(∀n,n<l.length→0≤(l.getD n z3).1∧(l.getD n z3).1≤(l.getD n z3).2.1∧(l.getD n z3).2.1≤1114111∧0≤(l.getD n z3).2.2∧(l.getD n z3).2.2≤255) ∧
 ∀m n,m<n→n<l.length→(l.getD m z3).2.1<(l.getD n z3).1
theorem BO(hi:i<4352)(z:Rp l){n:Nat}(hn:n<l.length)(h1:256*(i:Int)≤(l.getD n z3).2.1)(h2:(l.getD n z3).1≤256*(i:Int)+255)(b:ff 256):
  ∃u,iter (jj l (i:Int) (n:Int)) (b,max (l.getD n z3).1 (256*(i:Int)))=some u ∧
   ∀c:Nat,c<256→fE u c=if(l.getD n z3).1≤256*(i:Int)+c∧256*(i:Int)+c≤(l.getD n z3).2.1 then(l.getD n z3).2.2 else fE b c:=by
 obtain⟨hl,A,-⟩:=z;obtain⟨I,J,L,B,C⟩:=A n hn;refine dh (fun s:ff 256×Int=>max (l.getD n z3).1 (256*(i:Int))≤s.2∧s.2≤min (l.getD n z3).2.1 (256*(i:Int)+255)+1 ∧
   ∀c:Nat,c<256→fE s.1 c=if(l.getD n z3).1≤256*(i:Int)+c∧256*(i:Int)+c<s.2 then(l.getD n z3).2.2 else fE b c) (fun s=>(256*(i:Int)+300 - s.2).toNat) _ ?_ ?_
 ·rintro⟨v,r⟩ ⟨D,E,q⟩;simp only at D E q;by_cases x:r≤min (l.getD n z3).2.1 (256*(i:Int)+255)
  ·left
   have hm:bitsOf .and .i32 r 255=r - 256*(i:Int):=by rw[Ie (by omega) (by omega)];omega
   refine⟨(sf v (r - 256*(i:Int)).toNat (l.getD n z3).2.2,r+1),?_,⟨by simp only;omega,by simp only;omega,fun c hc=>?_⟩,by simp only;omega⟩
   ·simp only[jj,Int.toNat_natCast,m7 hi,uZ hi,hm,x,decide_true,if_true];rw[if_pos ⟨by omega,by omega⟩,if_pos ⟨by omega,by omega⟩,if_pos ⟨by omega,by omega⟩,wrap_u8 B C,wrap_i32 (by omega) (by omega)]
   ·simp only;rw[rN _ (by omega),q c hc];by_cases j:(r - 256*(i:Int)).toNat=c
    ·rw[if_pos j,if_pos ⟨by omega,by omega⟩]
    ·rw[if_neg j];by_cases f:(l.getD n z3).1≤256*(i:Int)+c∧256*(i:Int)+c<r
     ·rw[if_pos f,if_pos ⟨f.1,by omega⟩]
     ·rw[if_neg f,if_neg (fun p=>f ⟨p.1,by omega⟩)]
  ·right
   refine⟨v,?_,fun c hc=>?_⟩
   ·simp only[jj,Int.toNat_natCast,m7 hi,uZ hi,x,decide_false,Bool.false_eq_true,if_false];rw[if_pos ⟨by omega,by omega⟩]
   ·rw[q c hc];by_cases f:(l.getD n z3).1≤256*(i:Int)+c∧256*(i:Int)+c<r
    ·rw[if_pos f,if_pos ⟨f.1,by omega⟩]
    ·rw[if_neg f,if_neg (fun p=>f ⟨p.1,by omega⟩)]
 ·refine⟨by simp only;omega,by simp only;omega,fun c hc=>?_⟩;rw[if_neg (fun p=>by simp only at p;omega)]
theorem BP(hi:i<4352)(hl:l.length≤256){k:Nat}(hk:k≤l.length)(_:∀n,n<l.length→0≤(l.getD n z3).2.1):
  ∃r,iter (gN l (i:Int)) (k:Int)=some r∧∃f:Nat,r=(f:Int)∧k≤f∧f≤l.length∧(∀m,k≤m→m<f→(l.getD m z3).2.1<256*(i:Int))∧(f<l.length→256*(i:Int)≤(l.getD f z3).2.1):=by
 refine dh (fun s:Int=>∃f:Nat,s=(f:Int)∧k≤f∧f≤l.length∧(∀m,k≤m→m<f→(l.getD m z3).2.1<256*(i:Int))) (fun s=>(l.length - s.toNat)) _ ?_ ⟨k,rfl,Nat.le_refl _,hk,fun m h1 h2=>by omega⟩;rintro s ⟨f,rfl,h1,h2,p⟩;by_cases q:f<l.length
 ·have j:(f:Int)<(l.length:Int):=by omega
  have hp:0≤(f:Int):=by omega
  by_cases hc:(l.getD f z3).2.1<256*(i:Int)
  ·left
   refine⟨((f+1:Nat):Int),?_,⟨f+1,rfl,by omega,by omega,fun m u v=>?_⟩,by simp only[Int.toNat_natCast];omega⟩
   ·simp only[gN,j,hp,and_self,decide_true,if_true,Int.toNat_natCast,m7 hi,hc,Option.bind];rw[wrap_i64 (by omega) (by omega)];rfl
   ·by_cases e:m=f
    ·subst e;exact hc
    ·exact p m u (by omega)
  ·right
   refine⟨(f:Int),?_,f,rfl,h1,h2,p,fun _=>by omega⟩;simp only[gN,j,hp,and_self,decide_true,if_true,Int.toNat_natCast,m7 hi,hc,decide_false,Option.bind,Bool.false_eq_true,if_false]
 ·right
  refine⟨(f:Int),?_,f,rfl,h1,h2,p,fun h=>absurd h q⟩;have hn:¬((f:Int)<(l.length:Int)):=by omega
  simp only[gN,hn,decide_false,Option.bind,Bool.false_eq_true,if_false]
abbrev Has(l:Qx)(n:Nat)(r:Int):Prop:=(l.getD n z3).1≤r∧r≤(l.getD n z3).2.1
theorem Rp.tail{x:Int×Int×Int}(h:Rp (x::l)):Rp l :=
 ⟨by have:=h.1;simp at this;omega,fun n hn=>by have:=h.2.1 (n+1) (by simpa using hn);simpa using this,fun m n hm hn=>by have:=h.2.2 (m+1) (n+1) (by omega) (by simpa using hn);simpa using this⟩
theorem Dm{r:Int}:∀ {l:Qx} {n:Nat},Rp l→n<l.length→Has l n r→atR l r=(l.getD n z3).2.2
 | [],_,_,h,_=>by simp at h
 | x::l,0,_,_,h=>by
  simp only[Has,List.getD_cons_zero]at h;simp only[atR,List.getD_cons_zero];rw[if_pos h]
 | x::l,n+1,j,hn,h=>by
  have f:=j.2.2 0 (n+1) (by omega) hn;simp only[Has,List.getD_cons_succ,List.getD_cons_zero]at h f ⊢;simp only[atR];rw[if_neg (by omega)];exact Dm j.tail (by simpa using hn) h
theorem Ai{r:Int}:∀ {l:Qx},(∀n,n<l.length→¬Has l n r)→atR l r=0
 | [],_=>rfl
 | x::l,h=>by
  have f:=h 0 (by simp);simp only[Has,List.getD_cons_zero]at f;simp only[atR];rw[if_neg f];exact Ai fun n hn=>by have:=h (n+1) (by simpa using hn);simpa [Has]using this
theorem Bc(hi:i<4352)(V:Rp l){k:Nat}(hk:k≤l.length)(B:∀m,m<k→(l.getD m z3).2.1<256*(i:Int))(C:k<l.length→256*(i:Int)≤(l.getD k z3).2.1):
  ∃b,iter (gP l (i:Int)) (dq 256,(k:Int))=some b∧∀c:Nat,c<256→fE b c=atR l (256*(i:Int)+c):=by
 obtain⟨hl,I,D⟩:=V;refine dh (fun s:ff 256×Int=>∃n:Nat,s.2=(n:Int)∧k≤n∧n≤l.length∧∀c:Nat,c<256→(∀m,k≤m→m<n→Has l m (256*(i:Int)+c)→fE s.1 c=(l.getD m z3).2.2) ∧
  ((∀m,k≤m→m<n→¬Has l m (256*(i:Int)+c))→fE s.1 c=0)) (fun s=>l.length - s.2.toNat) _ ?_ ⟨k,rfl,Nat.le_refl _,hk,fun c hc=>⟨fun m h1 h2=>by omega,fun _=>JY⟩⟩
 rintro⟨b,Z⟩ ⟨n,rfl,h1,h2,J⟩;simp only at J;have done:(∀m,n≤m→m<l.length→256*(i:Int)+255<(l.getD m z3).1)→∀c:Nat,c<256→fE b c=atR l (256*(i:Int)+c):=fun M c hc=>by
  obtain⟨v,z⟩:=J c hc;by_cases N:∃m,k≤m∧m<n∧Has l m (256*(i:Int)+c)
  ·obtain⟨m,E,A,L⟩:=N;rw[v m E A L,Dm ⟨hl,I,D⟩ (by omega) L]
  ·rw[z (fun m E A L=>N ⟨m,E,A,L⟩),Ai];intro m hm p;rcases Nat.lt_or_ge m k with x | x
   ·have:=B m x;have:=p.2;omega
   ·rcases Nat.lt_or_ge m n with f | f
    ·exact N ⟨m,x,f,p⟩
    ·have:=M m f hm;have:=p.1;omega
 by_cases j:n<l.length
 ·have u:(n:Int)<(l.length:Int):=by omega
  have hp:0≤(n:Int):=by omega
  by_cases hc:(l.getD n z3).1≤256*(i:Int)+255
  ·left
   have X:256*(i:Int)≤(l.getD n z3).2.1:=by
    rcases Nat.lt_or_ge k n with e | e
    ·have:=D k n e j;have:=C (by omega);have:=(I n j).2.1;omega
    ·obtain rfl:k=n:=by omega
     exact C j
   obtain⟨Y,E,A⟩:=BO hi ⟨hl,I,D⟩ j X hc b;refine⟨(Y,((n+1:Nat):Int)),?_,⟨n+1,rfl,by omega,by omega,fun c hc=>⟨fun m v z O=>?_,fun q=>?_⟩⟩,by simp only[Int.toNat_natCast];omega⟩
   ·simp only[gP,u,hp,and_self,decide_true,if_true,Int.toNat_natCast,m7 hi,uZ hi,hc,Option.bind,E];rw[wrap_i64 (by omega) (by omega)];rfl
   ·simp only;rw[A c hc];by_cases em:m=n
    ·subst em;rw[if_pos O]
    ·have f:m<n:=by omega
     have:=D m n f j;rw[if_neg (fun h=>by have:=O.2;omega)];exact(J c hc).1 m v f O
   ·simp only;rw[A c hc,if_neg (fun h=>q n h1 (by omega) h)];exact(J c hc).2 fun m v z=>q m v (by omega)
  ·right
   refine⟨b,?_,done fun m v z=>?_⟩
   ·simp only[gP,u,hp,and_self,decide_true,if_true,Int.toNat_natCast,m7 hi,uZ hi,hc,decide_false,Option.bind,Bool.false_eq_true,if_false]
   ·by_cases em:m=n
    ·subst em;omega
    ·have:=D n m (by omega) z;have:=(I n j).2.1;omega
 ·right
  refine⟨b,?_,done fun m v z=>by omega⟩;have hn:¬((n:Int)<(l.length:Int)):=by omega
  simp only[gP,hn,decide_false,Option.bind,Bool.false_eq_true,if_false]
theorem BC{α:Type}{K:Ty}{k:K.den}{x:α}{p:K.den×α}:∀ {f:List (K.den×α)},p∈cF K f k x→p=(k,x)∨p∈f
 | [],h=>by simp only[cF,List.mem_singleton]at h;exact .inl h
 | q::r,h=>by
  simp only[cF]at h;split at h
  ·rcases List.mem_cons.1 h with h | h
   ·exact .inl h
   ·exact .inr (by simp[h])
  ·rcases List.mem_cons.1 h with h | h
   ·exact .inr (by simp[h])
   ·rcases BC h with h | h
    ·exact .inl h
    ·exact .inr (by simp[h])
theorem yw{α:Type}{K:Ty}(f:K.isKey=true){k:K.den}{x:α}:∀ {j:List (K.den×α)},bg K j k=some x→(k,x)∈j
 | [],h=>by simp[bg]at h
 | q::r,h=>by
  simp only[bg]at h;split at h
  ·rename_i e;rw[fB f]at e;cases h;rw[←e];simp
  ·exact List.mem_cons_of_mem _ (yw f h)
structure Bl(l:Qx)(i:Nat)(idx:ff 4352)(bs:List (ff 256))(seen:List (ff 256×Int)):Prop where
 pos:1≤bs.length
 len:bs.length≤i+1
 zero:bs.getD 0 (dq 256)=dq 256
 seen:∀p∈seen,∃q:Nat,p.2=(q:Int)∧q<bs.length∧bs.getD q (dq 256)=p.1
 has:∀j,j<i→∃q:Nat,fE idx j=(q:Int)∧q<bs.length∧∀c:Nat,c<256→fE (bs.getD q (dq 256)) c=atR l (256*(j:Int)+c)
 rest:∀j,i≤j→fE idx j=0
theorem Aw(hR:Rp l):∃r,iter (fQ l) (dq 4352,(List.replicate (1:Int).toNat (dq 256)),([]:List (ff 256×Int)),(0:Int),(0:Int))=some r∧∃seen,Bl l 4352 r.1 r.2 seen:=by
 obtain⟨hl,hx,hs⟩:=hR;refine dh (fun s:ff 4352×List (ff 256)×List (ff 256×Int)×Int×Int=>∃i k:Nat,s.2.2.2.2=(i:Int)∧s.2.2.2.1=(k:Int)∧i≤4352∧k≤l.length∧(∀m,m<k→(l.getD m z3).2.1<256*(i:Int))∧Bl l i s.1 s.2.1 s.2.2.1)
  (fun s=>4352 - s.2.2.2.2.toNat) _ ?_ ⟨0,0,rfl,rfl,by omega,by omega,fun m hm=>by omega,⟨by simp,by simp,by simp,fun p hp=>by simp at hp,fun j V=>by omega,fun j _=>JY⟩⟩
 rintro⟨A,f,seen,s3,s4⟩ ⟨i,k,rfl,rfl,hi,hk,L,hB⟩;simp only at L hB;by_cases B:i<4352
 ·left
  have C:(i:Int)<4352:=by omega
  have h8:(0:Int)≤8:=by decide
  obtain⟨r,e1,M,rfl,k1,k2,k3,k4⟩:=BP B hl hk (fun n hn=>by have:=hx n hn;omega);have D:∀m,m<M→(l.getD m z3).2.1<256*(i:Int):=fun m hm=>by
   rcases Nat.lt_or_ge m k with h | h
   ·exact L m h
   ·exact k3 m h hm
  obtain⟨b,e2,hb⟩:=Bc B ⟨hl,hx,hs⟩ k2 D k4;have u:i64.wrap ((i:Int)+1)=((i+1:Nat):Int):=by rw[wrap_i64 (by omega) (by omega)];rfl
  have x:∀m,m<M→(l.getD m z3).2.1<256*((i+1:Nat):Int):=fun m hm=>by have:=D m hm;omega
  by_cases hz:Im b (dq 256)=true
  ·have a2:=I0.1 hz;refine⟨(A,f,seen,(M:Int),((i+1:Nat):Int)),?_,⟨i+1,M,rfl,rfl,by omega,k2,x,⟨hB.pos,by have:=hB.len;simp only;omega,hB.zero,hB.seen,fun j V=>?_,fun j V=>hB.rest j (by omega)⟩⟩,by simp only[Int.toNat_natCast];omega⟩
   ·simp only[fQ,C,h8,decide_true,if_true,Option.bind,e1,e2,hz,u]
   ·by_cases ej:j=i
    ·subst ej;refine⟨0,by rw[hB.rest j (Nat.le_refl _)];rfl,hB.pos,fun c hc=>?_⟩;simp only;rw[hB.zero,←hb c hc,a2]
    ·exact hB.has j (by omega)
  ·have N:∀(z:List (ff 256)) (q:Nat),f.length≤z.length→(∀j,j<f.length→z.getD j (dq 256)=f.getD j (dq 256))→q<z.length→z.getD q (dq 256)=b →
     ∀j,j<i+1→∃X:Nat,fE (sf A i (q:Int)) j=(X:Int)∧X<z.length∧∀c:Nat,c<256→fE (z.getD X (dq 256)) c=atR l (256*(j:Int)+c):=fun z q g1 g2 g3 g4 j V=>by
    by_cases ej:j=i
    ·subst ej;exact⟨q,by rw[rN _ B,if_pos rfl],g3,fun c hc=>by rw[g4];exact hb c hc⟩
    ·obtain⟨X,Y,f2,Z⟩:=hB.has j (by omega);exact⟨X,by rw[rN _ B,if_neg (fun e=>ej e.symm)];exact Y,by omega,fun c hc=>by rw[g2 X f2];exact Z c hc⟩
   have E:∀(q:Int) j,i+1≤j→fE (sf A i q) j=0:=fun q j V=>by rw[rN _ B,if_neg (by omega)];exact hB.rest j (by omega)
   cases hf:bg (.arr .u8 256) seen b with
   | none =>
    have I:∀j,j<f.length→(f++[b]).getD j (dq 256)=f.getD j (dq 256):=fun j V=>by simp only[List.getD_eq_getElem?_getD];rw[List.getElem?_append_left V]
    have J:(f++[b]).getD f.length (dq 256)=b:=by simp
    have a1:=hB.len;refine⟨(sf A i (f.length:Int),f++[b],cF (.arr .u8 256) seen b (f.length:Int),(M:Int),((i+1:Nat):Int)),?_,⟨i+1,M,rfl,rfl,by omega,k2,x,⟨by simp,by simp;omega,by
      simp only;rw[I 0 hB.pos];exact hB.zero,fun p hp=>?_,N (f++[b]) f.length (by simp) I (by simp) J,E _⟩⟩,by simp only[Int.toNat_natCast];omega⟩
    ·simp only[fQ,C,h8,decide_true,if_true,Option.bind,e1,e2,hz,u,hf,Bool.false_eq_true,if_false,Option.isSome,Bool.not_false];have a3:(f.length+([b]:List (ff 256)).length)*256≤140737488355328∧f.length+([b]:List (ff 256)).length≤9223372036854775807:=by simp only[List.length_singleton];omega
     have O:0≤(i:Int)∧(i:Int)<((4352:Nat):Int):=by omega
     rw[if_pos a3];simp only;rw[if_pos O,Int.toNat_natCast]
    ·simp only at hp ⊢;rcases BC hp with rfl | hp
     ·exact⟨f.length,rfl,by simp,J⟩
     ·obtain⟨q,Y,f2,Z⟩:=hB.seen p hp;exact⟨q,Y,by simp;omega,by rw[I q f2];exact Z⟩
   | some v =>
    obtain⟨q,Y,f2,Z⟩:=hB.seen _ (yw (K:= .arr .u8 256) rfl hf);simp only at Y Z;subst Y;have a1:=hB.len;refine⟨(sf A i (q:Int),f,seen,(M:Int),((i+1:Nat):Int)),?_,⟨i+1,M,rfl,rfl,by omega,k2,x,⟨hB.pos,by simp only;omega,hB.zero,hB.seen,N f q (Nat.le_refl _) (fun _ _=>rfl) f2 Z,E _⟩⟩,by simp only[Int.toNat_natCast];omega⟩;simp only[fQ,C,h8,decide_true,if_true,Option.bind,e1,e2,hz,u,hf,Bool.false_eq_true,if_false,Option.isSome,Bool.not_true,Option.getD];have O:0≤(i:Int)∧(i:Int)<((4352:Nat):Int):=by omega
    rw[if_pos O,Int.toNat_natCast]
 ·right
  obtain rfl:i=4352:=by omega
  exact⟨(A,f),by simp[fQ],seen,hB⟩
def ot(t:Option ((ff 4352)×List (ff 256)))(f:Int→Int):Prop:=bf t=fun r=>some (f r)
def Hv(l:Qx)(r:Int):Int:=if 0≤r∧r≤1114111 then atR l r else 0
theorem Rs.rp{most:Int}:∀ {last:Int} {l:Qx},0≤last+1→Rs most last l →
  (∀n,n<l.length→last<(l.getD n z3).1∧(l.getD n z3).1≤(l.getD n z3).2.1∧(l.getD n z3).2.1≤1114111∧0≤(l.getD n z3).2.2∧(l.getD n z3).2.2≤255∧(l.getD n z3).2.2<most) ∧
  ∀m n,m<n→n<l.length→(l.getD m z3).2.1<(l.getD n z3).1
 | _,[],_,_=>⟨fun n h=>by simp at h,fun m n _ h=>by simp at h⟩
 | last,x::l,A,⟨h1,h2,j,p,q,u,v⟩=>by
  obtain⟨f,z⟩:=Rs.rp (by omega) v;refine⟨fun n hn=>?_,fun m n hm hn=>?_⟩
  ·cases n with
   | zero=>exact⟨h1,h2,j,p,u,q⟩
   | succ n =>
    have:=f n (by simpa using hn);simp only[List.getD_cons_succ];exact⟨by omega,this.2⟩
  ·cases n with
   | zero=>omega
   | succ n =>
    cases m with
    | zero=>simp only[List.getD_cons_succ,List.getD_cons_zero];exact(f n (by simpa using hn)).1
    | succ m=>simp only[List.getD_cons_succ];exact z m n (by omega) (by simpa using hn)
theorem pg{most:Int}(h:tY l most=true):Rp l:=by
 unfold tY at h;simp only[decide_eq_true_eq]at h;obtain⟨f,j⟩:=Rs.rp (by omega) h.2;exact⟨h.1,fun n hn=>by have:=f n hn;omega,j⟩
theorem Hx{f:ff 4352}{u:List (ff 256)}(x:Rp l)(has:∀j,j<4352→∃q:Nat,fE f j=(q:Int)∧q<u.length∧∀c:Nat,c<256→fE (u.getD q (dq 256)) c=atR l (256*(j:Int)+c)):ot (some (f,u)) (Hv l):=by
 funext r;unfold bf Hv;by_cases h1:r<0
 ·rw[show(if 0≤r∧r≤1114111 then atR l r else 0)=0 from if_neg (by omega)];simp[h1]
 by_cases h2:r > 1114111
 ·rw[show(if 0≤r∧r≤1114111 then atR l r else 0)=0 from if_neg (by omega)];simp[h1,h2]
 rw[show(if 0≤r∧r≤1114111 then atR l r else 0)=atR l r from if_pos (by omega)];have hd:Int.fdiv r (2 ^ (min (8:Int).toNat i32.bits))=r / 256:=by rw[show(min (8:Int).toNat i32.bits)=8 from rfl,Int.fdiv_eq_ediv_of_nonneg _ (by decide)];rfl
 obtain⟨q,B,E,C⟩:=has (r / 256).toNat (by omega);have z:=C (r % 256).toNat (by omega);have D:256*((r / 256).toNat:Int)+((r % 256).toNat:Int)=r:=by omega
 rw[D]at z;have hm:bitsOf .and .i32 r 255=r % 256:=Ie (by omega) (by omega);have I:0≤atR l r∧atR l r≤255:=by
  by_cases A:∃n,n<l.length∧Has l n r
  ·obtain⟨n,p,v⟩:=A;rw[Dm x p v];have:=x.2.1 n p;omega
  ·rw[Ai fun n p v=>A ⟨n,p,v⟩];omega
 simp only[Option.isNone,Option.isSome,Option.getD,Bool.false_eq_true,if_false,h1,h2,decide_false,if_true,Option.bind,hd,hm,B,Int.toNat_natCast];rw[if_pos (by decide),if_pos (by omega),if_pos (by omega),if_pos (by omega),z,wrap_i64 (by omega) (by omega)]
theorem ui(l:Qx)(f:Int):fX l f=some (none,10)∧tY l f=false∨∃t,fX l f=some (some t,0)∧tY l f=true∧ot (some t) (Hv l):=by
 unfold fX;rw[z7];cases h:tY l f with
 | false=>exact .inl ⟨rfl,rfl⟩
 | true =>
  obtain⟨r,j,seen,p⟩:=Aw (pg h);refine .inr ⟨r,?_,rfl,Hx (pg h) p.has⟩;simp only[Option.bind,j,Bool.not_true,Bool.false_eq_true,if_false];rw[if_pos (by decide)]
end
end Go.Proofs.YtobbjfkfmdiklaaGreatDoor.T
