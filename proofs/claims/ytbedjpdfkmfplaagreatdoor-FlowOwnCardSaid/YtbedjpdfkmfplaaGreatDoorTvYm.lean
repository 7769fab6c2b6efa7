/- Loops in plain laws. -/
import Derived.Test.YtbedjpdfkmfplaaGreatDoorTvR
import Derived.Test.YtbedjpdfkmfplaaGreatDoorTvT21ba
namespace Go.Tv
open Go
section
variable{S T S' T':Type}
theorem fD{body:S→Option (S⊕T)}(st:Nat→S)(n:Nat){r:T}(h:∀k,k<n→body (st k)=some (.inl (st (k+1))))(he:body (st n)=some (.inr r)):iter body (st 0)=some r:=by
 have key:∀m k,k+m=n→iter body (st k)=some r:=fun m=>by
  induction m with
  | zero =>
   intro k hk
   obtain rfl:k=n:=by omega
   rw[rS,he]
  | succ m ih =>
   intro k hk
   rw[rS,h k (by omega)]
   exact ih (k+1) (by omega)
 exact key n 0 (by omega)
theorem dQ{body:S→Option (S⊕T)}(I:S→Prop)(μ:S→Nat)(Q:T→Prop)(step:∀s,I s→(∃y,body s=some (.inl y)∧I y∧μ y<μ s)∨∃r,body s=some (.inr r)∧Q r){s:S}(h:I s):∃r,iter body s=some r∧Q r:=by
 have key:∀m s,I s→μ s≤m→∃r,iter body s=some r∧Q r:=fun m=>by
  induction m with
  | zero =>
   intro s hs hm
   rcases step s hs with⟨y,_,_,h3⟩ | ⟨r,h1,h2⟩
   ·omega
   ·exact⟨r,by rw[rS,h1],h2⟩
  | succ m ih =>
   intro s hs hm
   rcases step s hs with⟨y,h1,h2,h3⟩ | ⟨r,h1,h2⟩
   ·obtain⟨r,h4,h5⟩:=ih y h2 (by omega)
    exact⟨r,by rw[rS,h1];exact h4,h5⟩
   ·exact⟨r,by rw[rS,h1],h2⟩
 exact key (μ s) s h (Nat.le_refl _)
end
theorem wrap_i64{x:Int}(h1 : -9223372036854775808≤x)(h2:x≤9223372036854775807):IntKind.i64.wrap x=x:=by
 simp only[IntKind.wrap,IntKind.min,IntKind.max]
 first | omega | (simp[IntKind.bits,IntKind.signed];omega)
end Go.Tv
namespace Go.Tv
open Go
theorem aH5{S T:Type}{body:S→Option (S⊕T)}(I:S→Prop)(Q:T→Prop)(step:∀s y,I s→body s=some (.inl y)→I y)(last:∀s r,I s→body s=some (.inr r)→Q r)
  {s:S} (h:I s) {r:T} (hr:iter body s=some r):Q r:=by
 obtain⟨k,hk⟩:=pZ hr
 clear hr
 induction k generalizing s with
 | zero=>cases hk
 | succ k ih =>
  simp only[j9]at hk
  cases hb:body s with
  | none=>rw[hb]at hk;cases hk
  | some o =>
   rw[hb]at hk
   cases o with
   | inl y=>exact ih (step s y h hb) hk
   | inr q=>cases hk;exact last s _ h hb
end Go.Tv
namespace Go.Tv
open Go
theorem jD{x:Int}(h1 : -2147483648≤x)(h2:x≤2147483647):IntKind.i32.wrap x=x:=by
 simp[IntKind.wrap,IntKind.bits,IntKind.signed];omega
theorem aFs{x:Int}(h1:0≤x)(h2:x≤255):IntKind.u8.wrap x=x:=by
 simp[IntKind.wrap,IntKind.bits,IntKind.signed];omega
theorem aAK(x:Int):IntKind.u64.wrap x=x % 18446744073709551616:=by
 simp[IntKind.wrap,IntKind.bits,IntKind.signed]
theorem m5{n:Nat}{x:Int}(h1:0≤x)(h2:x<2 ^ n):(BitVec.ofInt n x).toNat=x.toNat:=by
 rw[BitVec.toNat_ofInt]
 have e:x % ((2 ^ n:Nat):Int)=x:=Int.emod_eq_of_lt h1 (by exact_mod_cast h2)
 rw[e]
theorem aFi{x:Int}(h1:0≤x)(h2:x≤2147483647){k:Nat}(hk:k≤31):aT .and .i32 x ((2 ^ k - 1:Nat):Int)=x % ((2 ^ k:Nat):Int):=by
 have hk2:(2:Nat) ^ k≤2 ^ 31:=Nat.pow_le_pow_right (by decide) hk
 have hp:0<(2:Nat) ^ k:=Nat.pow_pos (by decide)
 have e31:(2:Nat) ^ 31=2147483648:=by decide
 have e32:(2:Int) ^ 32=4294967296:=by decide
 show IntKind.i32.wrap ((BitVec.ofInt IntKind.i32.bits x &&& BitVec.ofInt IntKind.i32.bits ((2 ^ k - 1:Nat):Int)).toNat:Int)=_
 rw[BitVec.toNat_and,m5 h1 (by show x<(2:Int) ^ 32;omega),m5 (by omega) (by show((2 ^ k - 1:Nat):Int)<(2:Int) ^ 32;omega),Int.toNat_natCast,Nat.and_two_pow_sub_one_eq_mod]
 have hm:=Nat.mod_lt x.toNat hp
 have hm2:=Nat.mod_le x.toNat (2 ^ k)
 rw[jD (by omega) (by omega)]
 have:((x.toNat:Nat):Int)=x:=by omega
 rw[Int.natCast_emod,this]
theorem aJ0{x:Int}(h1:0≤x)(h2:x≤255){k:Nat}(hk:k≤8):aT .and .u8 x ((2 ^ k - 1:Nat):Int)=x % ((2 ^ k:Nat):Int):=by
 have hk2:(2:Nat) ^ k≤2 ^ 8:=Nat.pow_le_pow_right (by decide) hk
 have hp:0<(2:Nat) ^ k:=Nat.pow_pos (by decide)
 have e8:(2:Nat) ^ 8=256:=by decide
 have e8':(2:Int) ^ 8=256:=by decide
 show IntKind.u8.wrap ((BitVec.ofInt IntKind.u8.bits x &&& BitVec.ofInt IntKind.u8.bits ((2 ^ k - 1:Nat):Int)).toNat:Int)=_
 rw[BitVec.toNat_and,m5 h1 (by show x<(2:Int) ^ 8;omega),m5 (by omega) (by show((2 ^ k - 1:Nat):Int)<(2:Int) ^ 8;omega),Int.toNat_natCast,Nat.and_two_pow_sub_one_eq_mod]
 have hm:=Nat.mod_lt x.toNat hp
 have hm2:=Nat.mod_le x.toNat (2 ^ k)
 rw[aFs (by omega) (by omega)]
 have:((x.toNat:Nat):Int)=x:=by omega
 rw[Int.natCast_emod,this]
theorem aJs{a y:Int}{k:Nat}(ha:0≤a)(hy:0≤y)(hyk:y<((2 ^ k:Nat):Int))(hs:a*((2 ^ k:Nat):Int)+y≤2147483647):aT .or .i32 (a*((2 ^ k:Nat):Int)) y=a*((2 ^ k:Nat):Int)+y:=by
 have e32:(2:Int) ^ 32=4294967296:=by decide
 have hnn:0≤a*((2 ^ k:Nat):Int):=Int.mul_nonneg ha (by omega)
 show IntKind.i32.wrap ((BitVec.ofInt IntKind.i32.bits (a*((2 ^ k:Nat):Int)) ||| BitVec.ofInt IntKind.i32.bits y).toNat:Int)=_
 rw[BitVec.toNat_or,m5 hnn (by show a*((2 ^ k:Nat):Int)<(2:Int) ^ 32;omega),m5 hy (by show y<(2:Int) ^ 32;omega)]
 have e1:(a*((2 ^ k:Nat):Int)).toNat=a.toNat <<< k:=by
  rw[Nat.shiftLeft_eq,Int.toNat_mul ha (by omega),Int.toNat_natCast]
 rw[e1,←Nat.shiftLeft_add_eq_or_of_lt (show y.toNat<2 ^ k by omega),←e1]
 rw[jD (by omega) (by omega)]
 omega
def pA(P:Nat→Bool):Nat→Nat
 | 0=>0
 | n+1=>if P 0 then 0 else pA (fun x=>P (x+1)) n+1
theorem aBl:∀(P:Nat→Bool) (n:Nat),pA P n≤n
 | _,0=>Nat.le_refl _
 | P,n+1=>by
  have:=aBl (fun x=>P (x+1)) n
  simp only[pA]
  split <;> omega
theorem aA2:∀(P:Nat→Bool) (n:Nat) {j:Nat},j<pA P n→P j=false
 | _,0,j,h=>absurd h (by simp[pA])
 | P,n+1,j,h=>by
  simp only[pA]at h
  split at h
  ·omega
  ·rename_i h0
   cases j with
   | zero=>simpa using h0
   | succ j=>exact aA2 (fun x=>P (x+1)) n (j:=j) (by omega)
theorem aA5:∀(P:Nat→Bool) (n:Nat),pA P n<n→P (pA P n)=true
 | _,0,h=>absurd h (by simp)
 | P,n+1,h=>by
  simp only[pA]at h ⊢
  split
  ·assumption
  ·rename_i h0
   rw[if_neg h0]at h
   exact aA5 (fun x=>P (x+1)) n (by omega)
theorem mM{α:Type}{l:List α}{i:Nat}{d:α}(h:i<l.length):l.getD i d=l[i]:=by
 rw[List.getD_eq_getElem?_getD,List.getElem?_eq_getElem h];rfl
theorem wG{α:Type}{l:List α}{i:Nat}{d:α}(h:i<l.length):l.getD i d∈l:=by
 rw[mM h];exact List.getElem_mem h
theorem kU{α:Type}{l:List α}{i:Nat}{d:α}(h:i<l.length):l.take (i+1)=l.take i++[l.getD i d]:=by
 rw[List.take_add_one,List.getElem?_eq_getElem h,mM h];rfl
theorem Q2{α:Type}{l:List α}{i:Nat}{d:α}(h:i<l.length):l.drop i=l.getD i d::l.drop (i+1):=by
 rw[mM h];exact List.drop_eq_getElem_cons h
end Go.Tv
namespace Go.Proofs.YtbedjpdfkmfplaaGreatDoor.T
open Go Go.Tv Go.Proofs
theorem gV{S T:Type}{body:S→Option (S⊕T)}{s y:S}(h:body s=some (.inl y)):iter body s=iter body y:=by rw[rS,h]
theorem dO{S T:Type}{body:S→Option (S⊕T)}{s:S}{r:T}(h:body s=some (.inr r)):iter body s=some r:=by rw[rS,h]
def Rs(most:Int):Int→List (Int×Int×Int)→Prop
 | _,[]=>True
 | last,x::r=>last<x.1∧x.1≤x.2.1∧x.2.1≤1114111∧0≤x.2.2∧x.2.2<most∧x.2.2≤255∧Rs most x.2.1 r
instance (most:Int):∀(last:Int) (l:List (Int×Int×Int)),Decidable (Rs most last l)
 | _,[]=>isTrue trivial
 | last,x::r =>
  have:Decidable (Rs most x.2.1 r):=instDecidableRs most x.2.1 r
  inferInstanceAs (Decidable (_∧_))
def I2(l:List (Int×Int×Int))(most:Int):Bool:=decide (l.length≤256∧Rs most (-1) l)
def Y0(l:List (Int×Int×Int))(r:Int):Int :=
 match l with
 | []=>0
 | x::m=>if x.1≤r∧r≤x.2.1 then x.2.2 else Y0 m r
theorem A8{most:Int}(l:List (Int×Int×Int))(hl:l.length≤256):∀(r pre:List (Int×Int×Int)),l=pre++r→∀last,
  iter (eU l most) (last,(pre.length:Int))=some (if Rs most last r then .inl ()else .inr false)
 | [],pre,h,last=>by
  have hn:¬((pre.length:Int)<(l.length:Int)):=by rw[h];simp
  refine dO ?_
  rw[if_pos (show Rs most last []from trivial)]
  simp only[eU,hn,decide_false,Bool.false_eq_true,if_false]
 | x::r,pre,h,last=>by
  have hlen:l.length=pre.length+(r.length+1):=by rw[h];simp
  have hi:(pre.length:Int)<(l.length:Int):=by omega
  have hp:0≤(pre.length:Int):=by omega
  have hx:l.getD pre.length (0,(0,0))=x:=by rw[h];simp
  have hw:IntKind.i64.wrap ((pre.length:Int)+1)=((pre++[x]).length:Int):=by rw[wrap_i64 (by omega) (by omega)];simp
  have ih:=A8 (most:=most) l hl r (pre++[x]) (by rw[h];simp) x.2.1
  by_cases hc:last<x.1∧x.1≤x.2.1∧x.2.1≤1114111∧0≤x.2.2∧x.2.2<most∧x.2.2≤255
  ·have hb:eU l most (last,(pre.length:Int))=some (.inl (x.2.1,((pre++[x]).length:Int))):=by
    obtain⟨h1,h2,h3,h4,h5,h6⟩:=hc
    simp only[eU,hi,hp,and_self,decide_true,if_true,Int.toNat_natCast,hx,hw]
    simp[show ¬x.1≤last by omega,show ¬x.2.1<x.1 by omega,show ¬1114111<x.2.1 by omega,show ¬x.2.2<0 by omega,show ¬most≤x.2.2 by omega,show ¬255<x.2.2 by omega]
   rw[gV hb,ih]
   have:Rs most last (x::r)↔Rs most x.2.1 r:=⟨fun h=>h.2.2.2.2.2.2,fun h=>⟨hc.1,hc.2.1,hc.2.2.1,hc.2.2.2.1,hc.2.2.2.2.1,hc.2.2.2.2.2,h⟩⟩
   simp only[this]
  ·have hb:eU l most (last,(pre.length:Int))=some (.inr (.inr false)):=by
    simp only[eU,hi,hp,and_self,decide_true,if_true,Int.toNat_natCast,hx,hw]
    by_cases h1:x.1≤last
    ·simp[h1]
    by_cases h2:x.2.1<x.1
    ·simp[h1,h2]
    by_cases h3:1114111<x.2.1
    ·simp[h1,h2,h3]
    by_cases h4:x.2.2<0
    ·simp[h1,h2,h3,h4]
    by_cases h5:most≤x.2.2
    ·simp[h1,h2,h3,h4,h5]
    by_cases h6:255<x.2.2
    ·simp[h1,h2,h3,h4,h5,h6]
    exact absurd ⟨by omega,by omega,by omega,by omega,by omega,by omega⟩ hc
   rw[dO hb,if_neg (fun h=>hc ⟨h.1,h.2.1,h.2.2.1,h.2.2.2.1,h.2.2.2.2.1,h.2.2.2.2.2.1⟩)]
theorem aB1(l:List (Int×Int×Int))(most:Int):nR l most=some (I2 l most):=by
 unfold nR I2
 by_cases hl:l.length≤256
 ·rw[if_neg (by simp;omega),show((-1:Int),(0:Int))=(-1,(([]:List (Int×Int×Int)).length:Int))from rfl,A8 l hl l [] rfl (-1)]
  by_cases h:Rs most (-1) l
  ·simp[h,hl]
  ·simp[h]
 ·rw[if_pos (by simp;omega)]
  simp[hl]
/-! ### What is made -/
theorem aJl{n c:Nat}:gB (eA n) c=0:=by
 unfold gB eA
 simp only[List.getD_eq_getElem?_getD]
 rw[List.getElem?_replicate]
 split <;> rfl
theorem zC{n:Nat}(b:Arr n){c:Nat}(hc:c<n)(v:Int)(d:Nat):gB (z9 b c v) d=if c=d then v else gB b d:=by
 unfold gB z9
 simp only[List.getD_eq_getElem?_getD,List.getElem?_set]
 by_cases h:c=d
 ·subst h
  simp[b.2,hc]
 ·simp[h]
theorem Arr.ext{n:Nat}{a b:Arr n}(h:∀c,c<n→gB a c=gB b c):a=b:=by
 obtain⟨a,ha⟩:=a
 obtain⟨b,hb⟩:=b
 congr 1
 refine List.ext_getElem (by rw[ha,hb]) fun c h1 h2=> ?_
 have:=h c (by rw[←ha];exact h1)
 simpa [gB,List.getD_eq_getElem?_getD,h1,h2]using this
theorem aIT{n:Nat}{a b:Arr n}:aeq a b=true↔a=b:=by
 unfold aeq
 rw[beq_iff_eq]
 exact⟨fun h=>Subtype.ext h,fun h=>by rw[h]⟩
theorem pS{i:Nat}(hi:i<4352):(IntKind.i32.wrap ((IntKind.i32.wrap (i:Int))*2 ^ (min (8:Int).toNat IntKind.i32.bits)))=256*(i:Int):=by
 rw[show(min (8:Int).toNat IntKind.i32.bits)=8 from rfl,jD (x:=(i:Int)) (by omega) (by omega),jD (by omega) (by omega)]
 omega
theorem N1{i:Nat}(hi:i<4352):IntKind.i32.wrap (256*(i:Int)+255)=256*(i:Int)+255:=jD (by omega) (by omega)
theorem aHk{r:Int}(h1:0≤r)(h2:r≤2147483647):aT .and .i32 r 255=r % 256:=by
 have:=aFi h1 h2 (k:=8) (by omega)
 simpa using this
section
variable{l:List (Int×Int×Int)}{i:Nat}
abbrev z3:Int×Int×Int:=(0,(0,0))
def Rp(l:List (Int×Int×Int)):Prop:=l.length≤256∧(∀n,n<l.length→0≤(l.getD n z3).1∧(l.getD n z3).1≤(l.getD n z3).2.1∧(l.getD n z3).2.1≤1114111∧0≤(l.getD n z3).2.2∧(l.getD n z3).2.2≤255) ∧
 ∀m n,m<n→n<l.length→(l.getD m z3).2.1<(l.getD n z3).1
theorem aC7(hi:i<4352)(hR:Rp l){n:Nat}(hn:n<l.length)(h1:256*(i:Int)≤(l.getD n z3).2.1)(h2:(l.getD n z3).1≤256*(i:Int)+255)(b:Arr 256):
  ∃b',iter (j8 l (i:Int) (n:Int)) (b,max (l.getD n z3).1 (256*(i:Int)))=some b' ∧
   ∀c:Nat,c<256→gB b' c=if(l.getD n z3).1≤256*(i:Int)+c∧256*(i:Int)+c≤(l.getD n z3).2.1 then(l.getD n z3).2.2 else gB b c:=by
 obtain⟨hl,hx,-⟩:=hR
 obtain⟨x1,x2,x3,x4,x5⟩:=hx n hn
 refine dQ (fun s:Arr 256×Int=>max (l.getD n z3).1 (256*(i:Int))≤s.2∧s.2≤min (l.getD n z3).2.1 (256*(i:Int)+255)+1 ∧
   ∀c:Nat,c<256→gB s.1 c=if(l.getD n z3).1≤256*(i:Int)+c∧256*(i:Int)+c<s.2 then(l.getD n z3).2.2 else gB b c) (fun s=>(256*(i:Int)+300 - s.2).toNat) _ ?_ ?_
 ·rintro⟨b1,r⟩ ⟨q1,q2,q3⟩
  simp only at q1 q2 q3
  by_cases hr:r≤min (l.getD n z3).2.1 (256*(i:Int)+255)
  ·left
   have hm:aT .and .i32 r 255=r - 256*(i:Int):=by rw[aHk (by omega) (by omega)];omega
   refine⟨(z9 b1 (r - 256*(i:Int)).toNat (l.getD n z3).2.2,r+1),?_,⟨by simp only;omega,by simp only;omega,fun c hc=> ?_⟩,by simp only;omega⟩
   ·simp only[j8,Int.toNat_natCast,pS hi,N1 hi,hm,hr,decide_true,if_true]
    rw[if_pos ⟨by omega,by omega⟩,if_pos ⟨by omega,by omega⟩,if_pos ⟨by omega,by omega⟩,aFs x4 x5,jD (by omega) (by omega)]
   ·simp only
    rw[zC _ (by omega),q3 c hc]
    by_cases hcr:(r - 256*(i:Int)).toNat=c
    ·rw[if_pos hcr,if_pos ⟨by omega,by omega⟩]
    ·rw[if_neg hcr]
     by_cases h3:(l.getD n z3).1≤256*(i:Int)+c∧256*(i:Int)+c<r
     ·rw[if_pos h3,if_pos ⟨h3.1,by omega⟩]
     ·rw[if_neg h3,if_neg (fun h4=>h3 ⟨h4.1,by omega⟩)]
  ·right
   refine⟨b1,?_,fun c hc=> ?_⟩
   ·simp only[j8,Int.toNat_natCast,pS hi,N1 hi,hr,decide_false,Bool.false_eq_true,if_false]
    rw[if_pos ⟨by omega,by omega⟩]
   ·rw[q3 c hc]
    by_cases h3:(l.getD n z3).1≤256*(i:Int)+c∧256*(i:Int)+c<r
    ·rw[if_pos h3,if_pos ⟨h3.1,by omega⟩]
    ·rw[if_neg h3,if_neg (fun h4=>h3 ⟨h4.1,by omega⟩)]
 ·refine⟨by simp only;omega,by simp only;omega,fun c hc=> ?_⟩
  rw[if_neg (fun h4=>by simp only at h4;omega)]
theorem aC3(hi:i<4352)(hl:l.length≤256){k:Nat}(hk:k≤l.length)(hx:∀n,n<l.length→0≤(l.getD n z3).2.1):
  ∃r,iter (iR l (i:Int)) (k:Int)=some r∧∃k':Nat,r=(k':Int)∧k≤k'∧k'≤l.length∧(∀m,k≤m→m<k'→(l.getD m z3).2.1<256*(i:Int))∧(k'<l.length→256*(i:Int)≤(l.getD k' z3).2.1):=by
 refine dQ (fun s:Int=>∃k':Nat,s=(k':Int)∧k≤k'∧k'≤l.length∧(∀m,k≤m→m<k'→(l.getD m z3).2.1<256*(i:Int))) (fun s=>(l.length - s.toNat)) _ ?_ ⟨k,rfl,Nat.le_refl _,hk,fun m h1 h2=>by omega⟩
 rintro s ⟨k',rfl,h1,h2,h3⟩
 by_cases hlt:k'<l.length
 ·have hlt':(k':Int)<(l.length:Int):=by omega
  have hp:0≤(k':Int):=by omega
  by_cases hc:(l.getD k' z3).2.1<256*(i:Int)
  ·left
   refine⟨((k'+1:Nat):Int),?_,⟨k'+1,rfl,by omega,by omega,fun m q1 q2=> ?_⟩,by simp only[Int.toNat_natCast];omega⟩
   ·simp only[iR,hlt',hp,and_self,decide_true,if_true,Int.toNat_natCast,pS hi,hc,Option.bind]
    rw[wrap_i64 (by omega) (by omega)]
    rfl
   ·by_cases e:m=k'
    ·subst e;exact hc
    ·exact h3 m q1 (by omega)
  ·right
   refine⟨(k':Int),?_,k',rfl,h1,h2,h3,fun _=>by omega⟩
   simp only[iR,hlt',hp,and_self,decide_true,if_true,Int.toNat_natCast,pS hi,hc,decide_false,Option.bind,Bool.false_eq_true,if_false]
 ·right
  refine⟨(k':Int),?_,k',rfl,h1,h2,h3,fun h=>absurd h hlt⟩
  have hn:¬((k':Int)<(l.length:Int)):=by omega
  simp only[iR,hn,decide_false,Option.bind,Bool.false_eq_true,if_false]
abbrev Has(l:List (Int×Int×Int))(n:Nat)(r:Int):Prop:=(l.getD n z3).1≤r∧r≤(l.getD n z3).2.1
theorem Rp.tail{x:Int×Int×Int}(h:Rp (x::l)):Rp l :=
 ⟨by have:=h.1;simp at this;omega,fun n hn=>by have:=h.2.1 (n+1) (by simpa using hn);simpa using this,fun m n hm hn=>by have:=h.2.2 (m+1) (n+1) (by omega) (by simpa using hn);simpa using this⟩
theorem aEP{r:Int}:∀ {l:List (Int×Int×Int)} {n:Nat},Rp l→n<l.length→Has l n r→Y0 l r=(l.getD n z3).2.2
 | [],_,_,h,_=>by simp at h
 | x::l,0,_,_,h=>by
  simp only[Has,List.getD_cons_zero]at h
  simp only[Y0,List.getD_cons_zero]
  rw[if_pos h]
 | x::l,n+1,hR,hn,h=>by
  have hlt:=hR.2.2 0 (n+1) (by omega) hn
  simp only[Has,List.getD_cons_succ,List.getD_cons_zero]at h hlt ⊢
  simp only[Y0]
  rw[if_neg (by omega)]
  exact aEP hR.tail (by simpa using hn) h
theorem aBH{r:Int}:∀ {l:List (Int×Int×Int)},(∀n,n<l.length→¬Has l n r)→Y0 l r=0
 | [],_=>rfl
 | x::l,h=>by
  have h0:=h 0 (by simp)
  simp only[Has,List.getD_cons_zero]at h0
  simp only[Y0]
  rw[if_neg h0]
  exact aBH fun n hn=>by have:=h (n+1) (by simpa using hn);simpa [Has]using this
theorem aCD(hi:i<4352)(hR:Rp l){k:Nat}(hk:k≤l.length)(hlow:∀m,m<k→(l.getD m z3).2.1<256*(i:Int))(hat:k<l.length→256*(i:Int)≤(l.getD k z3).2.1):
  ∃b,iter (iU l (i:Int)) (eA 256,(k:Int))=some b∧∀c:Nat,c<256→gB b c=Y0 l (256*(i:Int)+c):=by
 obtain⟨hl,hx,hs⟩:=hR
 refine dQ (fun s:Arr 256×Int=>∃n:Nat,s.2=(n:Int)∧k≤n∧n≤l.length∧∀c:Nat,c<256→(∀m,k≤m→m<n→Has l m (256*(i:Int)+c)→gB s.1 c=(l.getD m z3).2.2) ∧
  ((∀m,k≤m→m<n→¬Has l m (256*(i:Int)+c))→gB s.1 c=0)) (fun s=>l.length - s.2.toNat) _ ?_ ⟨k,rfl,Nat.le_refl _,hk,fun c hc=>⟨fun m h1 h2=>by omega,fun _=>aJl⟩⟩
 rintro⟨b,s2⟩ ⟨n,rfl,h1,h2,h3⟩
 simp only at h3
 have done:(∀m,n≤m→m<l.length→256*(i:Int)+255<(l.getD m z3).1)→∀c:Nat,c<256→gB b c=Y0 l (256*(i:Int)+c):=fun hgt c hc=>by
  obtain⟨q1,q2⟩:=h3 c hc
  by_cases he:∃m,k≤m∧m<n∧Has l m (256*(i:Int)+c)
  ·obtain⟨m,e1,e2,e3⟩:=he
   rw[q1 m e1 e2 e3,aEP ⟨hl,hx,hs⟩ (by omega) e3]
  ·rw[q2 (fun m e1 e2 e3=>he ⟨m,e1,e2,e3⟩),aBH]
   intro m hm hhas
   rcases Nat.lt_or_ge m k with hmk | hmk
   ·have:=hlow m hmk
    have:=hhas.2
    omega
   ·rcases Nat.lt_or_ge m n with hmn | hmn
    ·exact he ⟨m,hmk,hmn,hhas⟩
    ·have:=hgt m hmn hm
     have:=hhas.1
     omega
 by_cases hlt:n<l.length
 ·have hlt':(n:Int)<(l.length:Int):=by omega
  have hp:0≤(n:Int):=by omega
  by_cases hc:(l.getD n z3).1≤256*(i:Int)+255
  ·left
   have hF:256*(i:Int)≤(l.getD n z3).2.1:=by
    rcases Nat.lt_or_ge k n with e | e
    ·have:=hs k n e hlt
     have:=hat (by omega)
     have:=(hx n hlt).2.1
     omega
    ·obtain rfl:k=n:=by omega
     exact hat hlt
   obtain⟨b',e1,e2⟩:=aC7 hi ⟨hl,hx,hs⟩ hlt hF hc b
   refine⟨(b',((n+1:Nat):Int)),?_,⟨n+1,rfl,by omega,by omega,fun c hc=>⟨fun m q1 q2 q3=> ?_,fun q=> ?_⟩⟩,by simp only[Int.toNat_natCast];omega⟩
   ·simp only[iU,hlt',hp,and_self,decide_true,if_true,Int.toNat_natCast,pS hi,N1 hi,hc,Option.bind,e1]
    rw[wrap_i64 (by omega) (by omega)]
    rfl
   ·simp only
    rw[e2 c hc]
    by_cases em:m=n
    ·subst em;rw[if_pos q3]
    ·have hmn:m<n:=by omega
     have:=hs m n hmn hlt
     rw[if_neg (fun h=>by have:=q3.2;omega)]
     exact(h3 c hc).1 m q1 hmn q3
   ·simp only
    rw[e2 c hc,if_neg (fun h=>q n h1 (by omega) h)]
    exact(h3 c hc).2 fun m q1 q2=>q m q1 (by omega)
  ·right
   refine⟨b,?_,done fun m q1 q2=> ?_⟩
   ·simp only[iU,hlt',hp,and_self,decide_true,if_true,Int.toNat_natCast,pS hi,N1 hi,hc,decide_false,Option.bind,Bool.false_eq_true,if_false]
   ·by_cases em:m=n
    ·subst em;omega
    ·have:=hs n m (by omega) q2
     have:=(hx n hlt).2.1
     omega
 ·right
  refine⟨b,?_,done fun m q1 q2=>by omega⟩
  have hn:¬((n:Int)<(l.length:Int)):=by omega
  simp only[iU,hn,decide_false,Option.bind,Bool.false_eq_true,if_false]
theorem aCh{α:Type}{K:Ty}{k:K.den}{x:α}{p:K.den×α}:∀ {kv:List (K.den×α)},p∈fF K kv k x→p=(k,x)∨p∈kv
 | [],h=>by simp only[fF,List.mem_singleton]at h;exact .inl h
 | q::r,h=>by
  simp only[fF]at h
  split at h
  ·rcases List.mem_cons.1 h with h | h
   ·exact .inl h
   ·exact .inr (by simp[h])
  ·rcases List.mem_cons.1 h with h | h
   ·exact .inr (by simp[h])
   ·rcases aCh h with h | h
    ·exact .inl h
    ·exact .inr (by simp[h])
theorem aA4{α:Type}{K:Ty}(hK:K.isKey=true){k:K.den}{x:α}:∀ {kv:List (K.den×α)},bG K kv k=some x→(k,x)∈kv
 | [],h=>by simp[bG]at h
 | q::r,h=>by
  simp only[bG]at h
  split at h
  ·rename_i e
   rw[gA hK]at e
   cases h
   rw[←e]
   simp
  ·exact List.mem_cons_of_mem _ (aA4 hK h)
structure Bl(l:List (Int×Int×Int))(i:Nat)(idx:Arr 4352)(bs:List (Arr 256))(seen:List (Arr 256×Int)):Prop where
 pos:1≤bs.length
 len:bs.length≤i+1
 zero:bs.getD 0 (eA 256)=eA 256
 seen:∀p∈seen,∃q:Nat,p.2=(q:Int)∧q<bs.length∧bs.getD q (eA 256)=p.1
 has:∀j,j<i→∃q:Nat,gB idx j=(q:Int)∧q<bs.length∧∀c:Nat,c<256→gB (bs.getD q (eA 256)) c=Y0 l (256*(j:Int)+c)
 rest:∀j,i≤j→gB idx j=0
theorem aCC(hR:Rp l):∃r,iter (gG l) (eA 4352,(List.replicate (1:Int).toNat (eA 256)),([]:List (Arr 256×Int)),(0:Int),(0:Int))=some r∧∃seen,Bl l 4352 r.1 r.2 seen:=by
 obtain⟨hl,hx,hs⟩:=hR
 refine dQ (fun s:Arr 4352×List (Arr 256)×List (Arr 256×Int)×Int×Int=>∃i k:Nat,s.2.2.2.2=(i:Int)∧s.2.2.2.1=(k:Int)∧i≤4352∧k≤l.length∧(∀m,m<k→(l.getD m z3).2.1<256*(i:Int))∧Bl l i s.1 s.2.1 s.2.2.1)
  (fun s=>4352 - s.2.2.2.2.toNat) _ ?_ ⟨0,0,rfl,rfl,by omega,by omega,fun m hm=>by omega,⟨by simp,by simp,by simp,fun p hp=>by simp at hp,fun j hj=>by omega,fun j _=>aJl⟩⟩
 rintro⟨idx,bs,seen,s3,s4⟩ ⟨i,k,rfl,rfl,hi,hk,hlow,hB⟩
 simp only at hlow hB
 by_cases hlt:i<4352
 ·left
  have hlt':(i:Int)<4352:=by omega
  have h8:(0:Int)≤8:=by decide
  obtain⟨r,e1,k',rfl,k1,k2,k3,k4⟩:=aC3 hlt hl hk (fun n hn=>by have:=hx n hn;omega)
  have hlow':∀m,m<k'→(l.getD m z3).2.1<256*(i:Int):=fun m hm=>by
   rcases Nat.lt_or_ge m k with h | h
   ·exact hlow m h
   ·exact k3 m h hm
  obtain⟨b,e2,hb⟩:=aCD hlt ⟨hl,hx,hs⟩ k2 hlow' k4
  have hnext:IntKind.i64.wrap ((i:Int)+1)=((i+1:Nat):Int):=by rw[wrap_i64 (by omega) (by omega)];rfl
  have hlow2:∀m,m<k'→(l.getD m z3).2.1<256*((i+1:Nat):Int):=fun m hm=>by have:=hlow' m hm;omega
  by_cases hz:aeq b (eA 256)=true
  ·have hbz:=aIT.1 hz
   refine⟨(idx,bs,seen,(k':Int),((i+1:Nat):Int)),?_,⟨i+1,k',rfl,rfl,by omega,k2,hlow2,⟨hB.pos,by have:=hB.len;simp only;omega,hB.zero,hB.seen,fun j hj=> ?_,fun j hj=>hB.rest j (by omega)⟩⟩,by simp only[Int.toNat_natCast];omega⟩
   ·simp only[gG,hlt',h8,decide_true,if_true,Option.bind,e1,e2,hz,hnext]
   ·by_cases ej:j=i
    ·subst ej
     refine⟨0,by rw[hB.rest j (Nat.le_refl _)];rfl,hB.pos,fun c hc=> ?_⟩
     simp only
     rw[hB.zero,←hb c hc,hbz]
    ·exact hB.has j (by omega)
  ·have hset:∀(bs':List (Arr 256)) (q:Nat),bs.length≤bs'.length→(∀j,j<bs.length→bs'.getD j (eA 256)=bs.getD j (eA 256))→q<bs'.length→bs'.getD q (eA 256)=b →
     ∀j,j<i+1→∃q':Nat,gB (z9 idx i (q:Int)) j=(q':Int)∧q'<bs'.length∧∀c:Nat,c<256→gB (bs'.getD q' (eA 256)) c=Y0 l (256*(j:Int)+c):=fun bs' q g1 g2 g3 g4 j hj=>by
    by_cases ej:j=i
    ·subst ej
     exact⟨q,by rw[zC _ hlt,if_pos rfl],g3,fun c hc=>by rw[g4];exact hb c hc⟩
    ·obtain⟨q',f1,f2,f3⟩:=hB.has j (by omega)
     exact⟨q',by rw[zC _ hlt,if_neg (fun e=>ej e.symm)];exact f1,by omega,fun c hc=>by rw[g2 q' f2];exact f3 c hc⟩
   have hrest:∀(q:Int) j,i+1≤j→gB (z9 idx i q) j=0:=fun q j hj=>by rw[zC _ hlt,if_neg (by omega)];exact hB.rest j (by omega)
   cases hf:bG (.arr .u8 256) seen b with
   | none =>
    have hget:∀j,j<bs.length→(bs++[b]).getD j (eA 256)=bs.getD j (eA 256):=fun j hj=>by
     simp only[List.getD_eq_getElem?_getD]
     rw[List.getElem?_append_left hj]
    have hlast:(bs++[b]).getD bs.length (eA 256)=b:=by simp
    have hlen:=hB.len
    refine⟨(z9 idx i (bs.length:Int),bs++[b],fF (.arr .u8 256) seen b (bs.length:Int),(k':Int),((i+1:Nat):Int)),?_,⟨i+1,k',rfl,rfl,by omega,k2,hlow2,⟨by simp,by simp;omega,by
      simp only;rw[hget 0 hB.pos];exact hB.zero,fun p hp=> ?_,hset (bs++[b]) bs.length (by simp) hget (by simp) hlast,hrest _⟩⟩,by simp only[Int.toNat_natCast];omega⟩
    ·simp only[gG,hlt',h8,decide_true,if_true,Option.bind,e1,e2,hz,hnext,hf,Bool.false_eq_true,if_false,Option.isSome,Bool.not_false]
     have hc1:(bs.length+([b]:List (Arr 256)).length)*256≤140737488355328∧bs.length+([b]:List (Arr 256)).length≤9223372036854775807:=by simp only[List.length_singleton];omega
     have hc2:0≤(i:Int)∧(i:Int)<((4352:Nat):Int):=by omega
     rw[if_pos hc1]
     simp only
     rw[if_pos hc2,Int.toNat_natCast]
    ·simp only at hp ⊢
     rcases aCh hp with rfl | hp
     ·exact⟨bs.length,rfl,by simp,hlast⟩
     ·obtain⟨q,f1,f2,f3⟩:=hB.seen p hp
      exact⟨q,f1,by simp;omega,by rw[hget q f2];exact f3⟩
   | some v =>
    obtain⟨q,f1,f2,f3⟩:=hB.seen _ (aA4 (K:= .arr .u8 256) rfl hf)
    simp only at f1 f3
    subst f1
    have hlen:=hB.len
    refine⟨(z9 idx i (q:Int),bs,seen,(k':Int),((i+1:Nat):Int)),?_,⟨i+1,k',rfl,rfl,by omega,k2,hlow2,⟨hB.pos,by simp only;omega,hB.zero,hB.seen,hset bs q (Nat.le_refl _) (fun _ _=>rfl) f2 f3,hrest _⟩⟩,by simp only[Int.toNat_natCast];omega⟩
    simp only[gG,hlt',h8,decide_true,if_true,Option.bind,e1,e2,hz,hnext,hf,Bool.false_eq_true,if_false,Option.isSome,Bool.not_true,Option.getD]
    have hc2:0≤(i:Int)∧(i:Int)<((4352:Nat):Int):=by omega
    rw[if_pos hc2,Int.toNat_natCast]
 ·right
  obtain rfl:i=4352:=by omega
  exact⟨(idx,bs),by simp[gG],seen,hB⟩
def yZ(t:Option ((Arr 4352)×List (Arr 256)))(f:Int→Int):Prop:=bF t=fun r=>some (f r)
def ofR(l:List (Int×Int×Int))(r:Int):Int:=if 0≤r∧r≤1114111 then Y0 l r else 0
theorem Rs.rp{most:Int}:∀ {last:Int} {l:List (Int×Int×Int)},0≤last+1→Rs most last l →
  (∀n,n<l.length→last<(l.getD n z3).1∧(l.getD n z3).1≤(l.getD n z3).2.1∧(l.getD n z3).2.1≤1114111∧0≤(l.getD n z3).2.2∧(l.getD n z3).2.2≤255∧(l.getD n z3).2.2<most) ∧
  ∀m n,m<n→n<l.length→(l.getD m z3).2.1<(l.getD n z3).1
 | _,[],_,_=>⟨fun n h=>by simp at h,fun m n _ h=>by simp at h⟩
 | last,x::l,h0,⟨h1,h2,h3,h4,h5,h6,h7⟩=>by
  obtain⟨q1,q2⟩:=Rs.rp (by omega) h7
  refine⟨fun n hn=> ?_,fun m n hm hn=> ?_⟩
  ·cases n with
   | zero=>exact⟨h1,h2,h3,h4,h6,h5⟩
   | succ n =>
    have:=q1 n (by simpa using hn)
    simp only[List.getD_cons_succ]
    exact⟨by omega,this.2⟩
  ·cases n with
   | zero=>omega
   | succ n =>
    cases m with
    | zero=>simp only[List.getD_cons_succ,List.getD_cons_zero];exact(q1 n (by simpa using hn)).1
    | succ m=>simp only[List.getD_cons_succ];exact q2 m n (by omega) (by simpa using hn)
theorem uF{most:Int}(h:I2 l most=true):Rp l:=by
 unfold I2 at h
 simp only[decide_eq_true_eq]at h
 obtain⟨q1,q2⟩:=Rs.rp (by omega) h.2
 exact⟨h.1,fun n hn=>by have:=q1 n hn;omega,q2⟩
theorem aHu{idx:Arr 4352}{bs:List (Arr 256)}(hR:Rp l)(has:∀j,j<4352→∃q:Nat,gB idx j=(q:Int)∧q<bs.length∧∀c:Nat,c<256→gB (bs.getD q (eA 256)) c=Y0 l (256*(j:Int)+c)):yZ (some (idx,bs)) (ofR l):=by
 funext r
 unfold bF ofR
 by_cases h1:r<0
 ·rw[show(if 0≤r∧r≤1114111 then Y0 l r else 0)=0 from if_neg (by omega)]
  simp[h1]
 by_cases h2:r > 1114111
 ·rw[show(if 0≤r∧r≤1114111 then Y0 l r else 0)=0 from if_neg (by omega)]
  simp[h1,h2]
 rw[show(if 0≤r∧r≤1114111 then Y0 l r else 0)=Y0 l r from if_pos (by omega)]
 have hd:Int.fdiv r (2 ^ (min (8:Int).toNat IntKind.i32.bits))=r / 256:=by
  rw[show(min (8:Int).toNat IntKind.i32.bits)=8 from rfl,Int.fdiv_eq_ediv_of_nonneg _ (by decide)]
  rfl
 obtain⟨q,e1,e2,e3⟩:=has (r / 256).toNat (by omega)
 have e4:=e3 (r % 256).toNat (by omega)
 have er:256*((r / 256).toNat:Int)+((r % 256).toNat:Int)=r:=by omega
 rw[er]at e4
 have hm:aT .and .i32 r 255=r % 256:=aHk (by omega) (by omega)
 have hv:0≤Y0 l r∧Y0 l r≤255:=by
  by_cases hh:∃n,n<l.length∧Has l n r
  ·obtain⟨n,q1,q2⟩:=hh
   rw[aEP hR q1 q2]
   have:=hR.2.1 n q1
   omega
  ·rw[aBH fun n q1 q2=>hh ⟨n,q1,q2⟩]
   omega
 simp only[Option.isNone,Option.isSome,Option.getD,Bool.false_eq_true,if_false,h1,h2,decide_false,if_true,Option.bind,hd,hm,e1,Int.toNat_natCast]
 rw[if_pos (by decide),if_pos (by omega),if_pos (by omega),if_pos (by omega),e4,wrap_i64 (by omega) (by omega)]
theorem aCB(l:List (Int×Int×Int))(most:Int):iT l most=some (none,10)∧I2 l most=false∨∃t,iT l most=some (some t,0)∧I2 l most=true∧yZ (some t) (ofR l):=by
 unfold iT
 rw[aB1]
 cases h:I2 l most with
 | false=>exact .inl ⟨rfl,rfl⟩
 | true =>
  obtain⟨r,e1,seen,e2⟩:=aCC (uF h)
  refine .inr ⟨r,?_,rfl,aHu (uF h) e2.has⟩
  simp only[Option.bind,e1,Bool.not_true,Bool.false_eq_true,if_false]
  rw[if_pos (by decide)]
end
end Go.Proofs.YtbedjpdfkmfplaaGreatDoor.T
