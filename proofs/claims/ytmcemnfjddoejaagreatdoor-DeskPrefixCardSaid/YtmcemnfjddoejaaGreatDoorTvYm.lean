/- Loops in plain laws. -/
import Derived.Test.YtmcemnfjddoejaaGreatDoorTvR
import Derived.Test.YtmcemnfjddoejaaGreatDoorTvT23aa
namespace Go.Tv
open Go
open Go.IntKind (i32 i64 u64 u8)
section
variable{S T S' T':Type}
theorem eg{body:S→Option (S⊕T)}(st:Nat→S)(n:Nat){r:T}(h:∀k,k<n→body (st k)=some (.inl (st (k+1))))(e:body (st n)=some (.inr r)):iter body (st 0)=some r:=by
 have key:∀m k,k+m=n→iter body (st k)=some r:=fun m=>by
  induction m with
  | zero =>
   intro k f;obtain rfl:k=n:=by omega
   rw[iter_eq,e]
  | succ m j =>intro k f;rw[iter_eq,h k (by omega)];exact j (k+1) (by omega)
 exact key n 0 (by omega)
theorem cF{body:S→Option (S⊕T)}(I:S→Prop)(μ:S→Nat)(Q:T→Prop)(step:∀s,I s→(∃y,body s=some (.inl y)∧I y∧μ y<μ s)∨∃r,body s=some (.inr r)∧Q r){s:S}(h:I s):∃r,iter body s=some r∧Q r:=by
 have key:∀m s,I s→μ s≤m→∃r,iter body s=some r∧Q r:=fun m=>by
  induction m with
  | zero =>
   intro s f j;rcases step s f with⟨y,_,_,k⟩ | ⟨r,c,e⟩
   ·omega
   ·exact⟨r,by rw[iter_eq,c],e⟩
  | succ m p =>
   intro s f j;rcases step s f with⟨y,c,e,k⟩ | ⟨r,c,e⟩
   ·obtain⟨r,q,u⟩:=p y e (by omega);exact⟨r,by rw[iter_eq,c];exact q,u⟩
   ·exact⟨r,by rw[iter_eq,c],e⟩
 exact key (μ s) s h (Nat.le_refl _)
end
theorem wrap_i64{x:Int}(e : -9223372036854775808≤x)(f:x≤9223372036854775807):i64.wrap x=x:=by
 simp only[IntKind.wrap,IntKind.min,IntKind.max]
 first | omega | (simp[IntKind.bits,IntKind.signed];omega)
end Go.Tv
namespace Go.Tv
open Go
open Go.IntKind (i32 i64 u64 u8)
theorem Gc{S T:Type}{body:S→Option (S⊕T)}(I:S→Prop)(Q:T→Prop)(step:∀s y,I s→body s=some (.inl y)→I y)(last:∀s r,I s→body s=some (.inr r)→Q r)
  {s:S} (h:I s) {r:T} (e:iter body s=some r):Q r:=by
 obtain⟨k,c⟩:=mX e;clear e;induction k generalizing s with
 | zero=>cases c
 | succ k f =>
  simp only[iF]at c;cases hb:body s with
  | none=>rw[hb]at c;cases c
  | some o =>
   rw[hb]at c;cases o with
   | inl y=>exact f (step s y h hb) c
   | inr q=>cases c;exact last s _ h hb
end Go.Tv
namespace Go.Tv
open Go
open Go.IntKind (i32 i64 u64 u8)
theorem wrap_i32{x:Int}(c : -2147483648≤x)(e:x≤2147483647):i32.wrap x=x:=by
 simp[IntKind.wrap,IntKind.bits,IntKind.signed];omega
theorem wrap_u8{x:Int}(c:0≤x)(e:x≤255):u8.wrap x=x:=by
 simp[IntKind.wrap,IntKind.bits,IntKind.signed];omega
theorem mW(x:Int):u64.wrap x=x % 18446744073709551616:=by
 simp[IntKind.wrap,IntKind.bits,IntKind.signed]
theorem kL{n:Nat}{x:Int}(c:0≤x)(f:x<2 ^ n):(BitVec.ofInt n x).toNat=x.toNat:=by
 rw[BitVec.toNat_ofInt];have e:x % ((2 ^ n:Nat):Int)=x:=Int.emod_eq_of_lt c (by exact_mod_cast f);rw[e]
theorem Em{x:Int}(c:0≤x)(u:x≤2147483647){k:Nat}(e:k≤31):bitsOf .and .i32 x ((2 ^ k - 1:Nat):Int)=x % ((2 ^ k:Nat):Int):=by
 have f:(2:Nat) ^ k≤2 ^ 31:=Nat.pow_le_pow_right (by decide) e;have j:0<(2:Nat) ^ k:=Nat.pow_pos (by decide);have m:(2:Nat) ^ 31=2147483648:=by decide
 have p:(2:Int) ^ 32=4294967296:=by decide
 show i32.wrap ((BitVec.ofInt i32.bits x &&& BitVec.ofInt i32.bits ((2 ^ k - 1:Nat):Int)).toNat:Int)=_;rw[BitVec.toNat_and,kL c (by show x<(2:Int) ^ 32;omega),kL (by omega) (by show((2 ^ k - 1:Nat):Int)<(2:Int) ^ 32;omega),Int.toNat_natCast,Nat.and_two_pow_sub_one_eq_mod];have v:=Nat.mod_lt x.toNat j;have q:=Nat.mod_le x.toNat (2 ^ k);rw[wrap_i32 (by omega) (by omega)];have:((x.toNat:Nat):Int)=x:=by omega
 rw[Int.natCast_emod,this]
theorem Kh{x:Int}(c:0≤x)(q:x≤255){k:Nat}(e:k≤8):bitsOf .and .u8 x ((2 ^ k - 1:Nat):Int)=x % ((2 ^ k:Nat):Int):=by
 have f:(2:Nat) ^ k≤2 ^ 8:=Nat.pow_le_pow_right (by decide) e;have j:0<(2:Nat) ^ k:=Nat.pow_pos (by decide);have u:(2:Nat) ^ 8=256:=by decide
 have m:(2:Int) ^ 8=256:=by decide
 show u8.wrap ((BitVec.ofInt u8.bits x &&& BitVec.ofInt u8.bits ((2 ^ k - 1:Nat):Int)).toNat:Int)=_;rw[BitVec.toNat_and,kL c (by show x<(2:Int) ^ 8;omega),kL (by omega) (by show((2 ^ k - 1:Nat):Int)<(2:Int) ^ 8;omega),Int.toNat_natCast,Nat.and_two_pow_sub_one_eq_mod];have v:=Nat.mod_lt x.toNat j;have p:=Nat.mod_le x.toNat (2 ^ k);rw[wrap_u8 (by omega) (by omega)];have:((x.toNat:Nat):Int)=x:=by omega
 rw[Int.natCast_emod,this]
theorem Kc{a y:Int}{k:Nat}(ha:0≤a)(f:0≤y)(j:y<((2 ^ k:Nat):Int))(p:a*((2 ^ k:Nat):Int)+y≤2147483647):bitsOf .or .i32 (a*((2 ^ k:Nat):Int)) y=a*((2 ^ k:Nat):Int)+y:=by
 have m:(2:Int) ^ 32=4294967296:=by decide
 have c:0≤a*((2 ^ k:Nat):Int):=Int.mul_nonneg ha (by omega);show i32.wrap ((BitVec.ofInt i32.bits (a*((2 ^ k:Nat):Int)) ||| BitVec.ofInt i32.bits y).toNat:Int)=_;rw[BitVec.toNat_or,kL c (by show a*((2 ^ k:Nat):Int)<(2:Int) ^ 32;omega),kL f (by show y<(2:Int) ^ 32;omega)];have e:(a*((2 ^ k:Nat):Int)).toNat=a.toNat <<< k:=by rw[Nat.shiftLeft_eq,Int.toNat_mul ha (by omega),Int.toNat_natCast]
 rw[e,←Nat.shiftLeft_add_eq_or_of_lt (show y.toNat<2 ^ k by omega),←e];rw[wrap_i32 (by omega) (by omega)];omega
def l8(P:Nat→Bool):Nat→Nat
 | 0=>0
 | n+1=>if P 0 then 0 else l8 (fun x=>P (x+1)) n+1
theorem yQ:∀(P:Nat→Bool) (n:Nat),l8 P n≤n
 | _,0=>Nat.le_refl _
 | P,n+1=>by
  have:=yQ (fun x=>P (x+1)) n;simp only[l8];split <;> omega
theorem yS:∀(P:Nat→Bool) (n:Nat) {j:Nat},j<l8 P n→P j=false
 | _,0,j,h=>absurd h (by simp[l8])
 | P,n+1,j,h=>by
  simp only[l8]at h;split at h
  ·omega
  ·rename_i c;cases j with
   | zero=>simpa using c
   | succ j=>exact yS (fun x=>P (x+1)) n (j:=j) (by omega)
theorem zd:∀(P:Nat→Bool) (n:Nat),l8 P n<n→P (l8 P n)=true
 | _,0,h=>absurd h (by simp)
 | P,n+1,h=>by
  simp only[l8]at h ⊢;split
  ·assumption
  ·rename_i c;rw[if_neg c]at h;exact zd (fun x=>P (x+1)) n (by omega)
theorem iL{α:Type}{l:List α}{i:Nat}{d:α}(h:i<l.length):l.getD i d=l[i]:=by
 rw[List.getD_eq_getElem?_getD,List.getElem?_eq_getElem h];rfl
theorem kK{α:Type}{l:List α}{i:Nat}{d:α}(h:i<l.length):l.getD i d∈l:=by
 rw[iL h];exact List.getElem_mem h
theorem nU{α:Type}{l:List α}{i:Nat}{d:α}(h:i<l.length):l.take (i+1)=l.take i++[l.getD i d]:=by
 rw[List.take_add_one,List.getElem?_eq_getElem h,iL h];rfl
theorem xq{α:Type}{l:List α}{i:Nat}{d:α}(h:i<l.length):l.drop i=l.getD i d::l.drop (i+1):=by
 rw[iL h];exact List.drop_eq_getElem_cons h
end Go.Tv
namespace Go.Proofs.YtmcemnfjddoejaaGreatDoor.T
open Go Go.Tv Go.Proofs
open Go.IntKind (i32 i64 u64 u8)
theorem dE{S T:Type}{e:S→Option (S⊕T)}{s y:S}(h:e s=some (.inl y)):iter e s=iter e y:=by rw[iter_eq,h]
theorem bM{S T:Type}{e:S→Option (S⊕T)}{s:S}{r:T}(h:e s=some (.inr r)):iter e s=some r:=by rw[iter_eq,h]
def Rs(most:Int):Int→List (Int×Int×Int)→Prop
 | _,[]=>True
 | last,x::r=>last<x.1∧x.1≤x.2.1∧x.2.1≤1114111∧0≤x.2.2∧x.2.2<most∧x.2.2≤255∧Rs most x.2.1 r
instance (c:Int):∀(last:Int) (l:List (Int×Int×Int)),Decidable (Rs c last l)
 | _,[]=>isTrue trivial
 | _,x::r =>
  have:Decidable (Rs c x.2.1 r):=instDecidableRs c x.2.1 r
  inferInstanceAs (Decidable (_∧_))
def uE(l:List (Int×Int×Int))(c:Int):Bool:=decide (l.length≤256∧Rs c (-1) l)
def atR(l:List (Int×Int×Int))(r:Int):Int :=
 match l with
 | []=>0
 | x::m=>if x.1≤r∧r≤x.2.1 then x.2.2 else atR m r
theorem rD{most:Int}(l:List (Int×Int×Int))(hl:l.length≤256):∀(r pre:List (Int×Int×Int)),l=pre++r→∀last,
  iter (dC l most) (last,(pre.length:Int))=some (if Rs most last r then .inl ()else .inr false)
 | [],pre,h,last=>by
  have A:¬((pre.length:Int)<(l.length:Int)):=by rw[h];simp
  refine bM ?_;rw[if_pos (show Rs most last []from trivial)];simp only[dC,A,decide_false,Bool.false_eq_true,if_false]
 | x::r,pre,h,last=>by
  have p:l.length=pre.length+(r.length+1):=by rw[h];simp
  have hi:(pre.length:Int)<(l.length:Int):=by omega
  have q:0≤(pre.length:Int):=by omega
  have u:l.getD pre.length (0,(0,0))=x:=by rw[h];simp
  have v:i64.wrap ((pre.length:Int)+1)=((pre++[x]).length:Int):=by rw[wrap_i64 (by omega) (by omega)];simp
  have B:=rD (most:=most) l hl r (pre++[x]) (by rw[h];simp) x.2.1;by_cases c:last<x.1∧x.1≤x.2.1∧x.2.1≤1114111∧0≤x.2.2∧x.2.2<most∧x.2.2≤255
  ·have hb:dC l most (last,(pre.length:Int))=some (.inl (x.2.1,((pre++[x]).length:Int))):=by obtain⟨e,f,j,k,m,z⟩:=c;simp only[dC,hi,q,and_self,decide_true,if_true,Int.toNat_natCast,u,v];simp[show ¬x.1≤last by omega,show ¬x.2.1<x.1 by omega,show ¬1114111<x.2.1 by omega,show ¬x.2.2<0 by omega,show ¬most≤x.2.2 by omega,show ¬255<x.2.2 by omega]
   rw[dE hb,B];have:Rs most last (x::r)↔Rs most x.2.1 r:=⟨fun h=>h.2.2.2.2.2.2,fun h=>⟨c.1,c.2.1,c.2.2.1,c.2.2.2.1,c.2.2.2.2.1,c.2.2.2.2.2,h⟩⟩;simp only[this]
  ·have hb:dC l most (last,(pre.length:Int))=some (.inr (.inr false)):=by
    simp only[dC,hi,q,and_self,decide_true,if_true,Int.toNat_natCast,u,v];by_cases e:x.1≤last
    ·simp[e]
    by_cases f:x.2.1<x.1
    ·simp[e,f]
    by_cases j:1114111<x.2.1
    ·simp[e,f,j]
    by_cases k:x.2.2<0
    ·simp[e,f,j,k]
    by_cases m:most≤x.2.2
    ·simp[e,f,j,k,m]
    by_cases z:255<x.2.2
    ·simp[e,f,j,k,m,z]
    exact absurd ⟨by omega,by omega,by omega,by omega,by omega,by omega⟩ c
   rw[bM hb,if_neg (fun h=>c ⟨h.1,h.2.1,h.2.2.1,h.2.2.2.1,h.2.2.2.2.1,h.2.2.2.2.2.1⟩)]
theorem Au(l:List (Int×Int×Int))(c:Int):lA l c=some (uE l c):=by
 unfold lA uE;by_cases hl:l.length≤256
 ·rw[if_neg (by simp;omega),show((-1:Int),(0:Int))=(-1,(([]:List (Int×Int×Int)).length:Int))from rfl,rD l hl l [] rfl (-1)];by_cases h:Rs c (-1) l
  ·simp[h,hl]
  ·simp[h]
 ·rw[if_pos (by simp;omega)];simp[hl]
/-! ### e j f -/
theorem Je{n c:Nat}:eP (cW n) c=0:=by
 unfold eP cW;simp only[List.getD_eq_getElem?_getD];rw[List.getElem?_replicate];split <;> rfl
theorem sO{n:Nat}(b:ep n){c:Nat}(e:c<n)(v:Int)(d:Nat):eP (rV b c v) d=if c=d then v else eP b d:=by
 unfold eP rV;simp only[List.getD_eq_getElem?_getD,List.getElem?_set];by_cases h:c=d
 ·subst h;simp[b.2,e]
 ·simp[h]
theorem ep.ext{n:Nat}{a b:ep n}(h:∀c,c<n→eP a c=eP b c):a=b:=by
 obtain⟨a,ha⟩:=a;obtain⟨b,hb⟩:=b;congr 1;refine List.ext_getElem (by rw[ha,hb]) fun c e f=> ?_
 have:=h c (by rw[←ha];exact e);simpa [eP,List.getD_eq_getElem?_getD,e,f]using this
theorem Ik{n:Nat}{a b:ep n}:H3 a b=true↔a=b:=by
 unfold H3;rw[beq_iff_eq];exact⟨fun h=>Subtype.ext h,fun h=>by rw[h]⟩
theorem mY{i:Nat}(hi:i<4352):(i32.wrap ((i32.wrap (i:Int))*2 ^ (min (8:Int).toNat i32.bits)))=256*(i:Int):=by
 rw[show(min (8:Int).toNat i32.bits)=8 from rfl,wrap_i32 (x:=(i:Int)) (by omega) (by omega),wrap_i32 (by omega) (by omega)];omega
theorem vB{i:Nat}(hi:i<4352):i32.wrap (256*(i:Int)+255)=256*(i:Int)+255:=wrap_i32 (by omega) (by omega)
theorem HC{r:Int}(c:0≤r)(e:r≤2147483647):bitsOf .and .i32 r 255=r % 256:=by
 have:=Em c e (k:=8) (by omega);simpa using this
section
variable{l:List (Int×Int×Int)}{i:Nat}
abbrev z3:Int×Int×Int:=(0,(0,0))
def Rp(l:List (Int×Int×Int)):Prop:=l.length≤256∧(∀n,n<l.length→0≤(l.getD n z3).1∧(l.getD n z3).1≤(l.getD n z3).2.1∧(l.getD n z3).2.1≤1114111∧0≤(l.getD n z3).2.2∧(l.getD n z3).2.2≤255) ∧
 ∀m n,m<n→n<l.length→(l.getD m z3).2.1<(l.getD n z3).1
theorem Cp(hi:i<4352)(v:Rp l){n:Nat}(x:n<l.length)(I:256*(i:Int)≤(l.getD n z3).2.1)(J:(l.getD n z3).1≤256*(i:Int)+255)(b:ep 256):
  ∃p,iter (iY l (i:Int) (n:Int)) (b,max (l.getD n z3).1 (256*(i:Int)))=some p ∧
   ∀c:Nat,c<256→eP p c=if(l.getD n z3).1≤256*(i:Int)+c∧256*(i:Int)+c≤(l.getD n z3).2.1 then(l.getD n z3).2.2 else eP b c:=by
 obtain⟨hl,z,-⟩:=v;obtain⟨L,M,N,A,B⟩:=z n x;refine cF (fun s:ep 256×Int=>max (l.getD n z3).1 (256*(i:Int))≤s.2∧s.2≤min (l.getD n z3).2.1 (256*(i:Int)+255)+1 ∧
   ∀c:Nat,c<256→eP s.1 c=if(l.getD n z3).1≤256*(i:Int)+c∧256*(i:Int)+c<s.2 then(l.getD n z3).2.2 else eP b c) (fun s=>(256*(i:Int)+300 - s.2).toNat) _ ?_ ?_
 ·rintro⟨q,r⟩ ⟨C,D,m⟩;simp only at C D m;by_cases u:r≤min (l.getD n z3).2.1 (256*(i:Int)+255)
  ·left
   have E:bitsOf .and .i32 r 255=r - 256*(i:Int):=by rw[HC (by omega) (by omega)];omega
   refine⟨(rV q (r - 256*(i:Int)).toNat (l.getD n z3).2.2,r+1),?_,⟨by simp only;omega,by simp only;omega,fun c k=> ?_⟩,by simp only;omega⟩
   ·simp only[iY,Int.toNat_natCast,mY hi,vB hi,E,u,decide_true,if_true];rw[if_pos ⟨by omega,by omega⟩,if_pos ⟨by omega,by omega⟩,if_pos ⟨by omega,by omega⟩,wrap_u8 A B,wrap_i32 (by omega) (by omega)]
   ·simp only;rw[sO _ (by omega),m c k];by_cases f:(r - 256*(i:Int)).toNat=c
    ·rw[if_pos f,if_pos ⟨by omega,by omega⟩]
    ·rw[if_neg f];by_cases e:(l.getD n z3).1≤256*(i:Int)+c∧256*(i:Int)+c<r
     ·rw[if_pos e,if_pos ⟨e.1,by omega⟩]
     ·rw[if_neg e,if_neg (fun j=>e ⟨j.1,by omega⟩)]
  ·right
   refine⟨q,?_,fun c k=> ?_⟩
   ·simp only[iY,Int.toNat_natCast,mY hi,vB hi,u,decide_false,Bool.false_eq_true,if_false];rw[if_pos ⟨by omega,by omega⟩]
   ·rw[m c k];by_cases e:(l.getD n z3).1≤256*(i:Int)+c∧256*(i:Int)+c<r
    ·rw[if_pos e,if_pos ⟨e.1,by omega⟩]
    ·rw[if_neg e,if_neg (fun j=>e ⟨j.1,by omega⟩)]
 ·refine⟨by simp only;omega,by simp only;omega,fun c k=> ?_⟩;rw[if_neg (fun j=>by simp only at j;omega)]
theorem AX(hi:i<4352)(hl:l.length≤256){k:Nat}(z:k≤l.length)(_:∀n,n<l.length→0≤(l.getD n z3).2.1):
  ∃r,iter (gv l (i:Int)) (k:Int)=some r∧∃c:Nat,r=(c:Int)∧k≤c∧c≤l.length∧(∀m,k≤m→m<c→(l.getD m z3).2.1<256*(i:Int))∧(c<l.length→256*(i:Int)≤(l.getD c z3).2.1):=by
 refine cF (fun s:Int=>∃c:Nat,s=(c:Int)∧k≤c∧c≤l.length∧(∀m,k≤m→m<c→(l.getD m z3).2.1<256*(i:Int))) (fun s=>(l.length - s.toNat)) _ ?_ ⟨k,rfl,Nat.le_refl _,z,fun m j p=>by omega⟩;rintro s ⟨c,rfl,j,p,q⟩;by_cases u:c<l.length
 ·have f:(c:Int)<(l.length:Int):=by omega
  have x:0≤(c:Int):=by omega
  by_cases v:(l.getD c z3).2.1<256*(i:Int)
  ·left
   refine⟨((c+1:Nat):Int),?_,⟨c+1,rfl,by omega,by omega,fun m A C=> ?_⟩,by simp only[Int.toNat_natCast];omega⟩
   ·simp only[gv,f,x,and_self,decide_true,if_true,Int.toNat_natCast,mY hi,v,Option.bind];rw[wrap_i64 (by omega) (by omega)];rfl
   ·by_cases e:m=c
    ·subst e;exact v
    ·exact q m A (by omega)
  ·right
   refine⟨(c:Int),?_,c,rfl,j,p,q,fun _=>by omega⟩;simp only[gv,f,x,and_self,decide_true,if_true,Int.toNat_natCast,mY hi,v,decide_false,Option.bind,Bool.false_eq_true,if_false]
 ·right
  refine⟨(c:Int),?_,c,rfl,j,p,q,fun h=>absurd h u⟩;have B:¬((c:Int)<(l.length:Int)):=by omega
  simp only[gv,B,decide_false,Option.bind,Bool.false_eq_true,if_false]
abbrev Has(l:List (Int×Int×Int))(n:Nat)(r:Int):Prop:=(l.getD n z3).1≤r∧r≤(l.getD n z3).2.1
theorem Rp.tail{x:Int×Int×Int}(h:Rp (x::l)):Rp l :=
 ⟨by have:=h.1;simp at this;omega,fun n c=>by have:=h.2.1 (n+1) (by simpa using c);simpa using this,fun m n e c=>by have:=h.2.2 (m+1) (n+1) (by omega) (by simpa using c);simpa using this⟩
theorem Du{r:Int}:∀ {l:List (Int×Int×Int)} {n:Nat},Rp l→n<l.length→Has l n r→atR l r=(l.getD n z3).2.2
 | [],_,_,h,_=>by simp at h
 | x::l,0,_,_,h=>by
  simp only[Has,List.getD_cons_zero]at h;simp only[atR,List.getD_cons_zero];rw[if_pos h]
 | x::l,n+1,e,f,h=>by
  have c:=e.2.2 0 (n+1) (by omega) f;simp only[Has,List.getD_cons_succ,List.getD_cons_zero]at h c ⊢;simp only[atR];rw[if_neg (by omega)];exact Du e.tail (by simpa using f) h
theorem zA{r:Int}:∀ {l:List (Int×Int×Int)},(∀n,n<l.length→¬Has l n r)→atR l r=0
 | [],_=>rfl
 | x::l,h=>by
  have c:=h 0 (by simp);simp only[Has,List.getD_cons_zero]at c;simp only[atR];rw[if_neg c];exact zA fun n e=>by have:=h (n+1) (by simpa using e);simpa [Has]using this
theorem BF(hi:i<4352)(Y:Rp l){k:Nat}(Z:k≤l.length)(C:∀m,m<k→(l.getD m z3).2.1<256*(i:Int))(D:k<l.length→256*(i:Int)≤(l.getD k z3).2.1):
  ∃b,iter (gw l (i:Int)) (cW 256,(k:Int))=some b∧∀c:Nat,c<256→eP b c=atR l (256*(i:Int)+c):=by
 obtain⟨hl,J,E⟩:=Y;refine cF (fun s:ep 256×Int=>∃n:Nat,s.2=(n:Int)∧k≤n∧n≤l.length∧∀c:Nat,c<256→(∀m,k≤m→m<n→Has l m (256*(i:Int)+c)→eP s.1 c=(l.getD m z3).2.2) ∧
  ((∀m,k≤m→m<n→¬Has l m (256*(i:Int)+c))→eP s.1 c=0)) (fun s=>l.length - s.2.toNat) _ ?_ ⟨k,rfl,Nat.le_refl _,Z,fun c p=>⟨fun m V h2=>by omega,fun _=>Je⟩⟩
 rintro⟨b,s2⟩ ⟨n,rfl,V,h2,L⟩;simp only at L;have done:(∀m,n≤m→m<l.length→256*(i:Int)+255<(l.getD m z3).1)→∀c:Nat,c<256→eP b c=atR l (256*(i:Int)+c):=fun N c p=>by
  obtain⟨x,A⟩:=L c p;by_cases O:∃m,k≤m∧m<n∧Has l m (256*(i:Int)+c)
  ·obtain⟨m,I,B,M⟩:=O;rw[x m I B M,Du ⟨hl,J,E⟩ (by omega) M]
  ·rw[A (fun m I B M=>O ⟨m,I,B,M⟩),zA];intro m hm u;rcases Nat.lt_or_ge m k with z | z
   ·have:=C m z;have:=u.2;omega
   ·rcases Nat.lt_or_ge m n with f | f
    ·exact O ⟨m,z,f,u⟩
    ·have:=N m f hm;have:=u.1;omega
 by_cases j:n<l.length
 ·have v:(n:Int)<(l.length:Int):=by omega
  have X:0≤(n:Int):=by omega
  by_cases p:(l.getD n z3).1≤256*(i:Int)+255
  ·left
   have hF:256*(i:Int)≤(l.getD n z3).2.1:=by
    rcases Nat.lt_or_ge k n with e | e
    ·have:=E k n e j;have:=D (by omega);have:=(J n j).2.1;omega
    ·obtain rfl:k=n:=by omega
     exact D j
   obtain⟨b',I,B⟩:=Cp hi ⟨hl,J,E⟩ j hF p b;refine⟨(b',((n+1:Nat):Int)),?_,⟨n+1,rfl,by omega,by omega,fun c p=>⟨fun m x A R=> ?_,fun q=> ?_⟩⟩,by simp only[Int.toNat_natCast];omega⟩
   ·simp only[gw,v,X,and_self,decide_true,if_true,Int.toNat_natCast,mY hi,vB hi,p,Option.bind,I];rw[wrap_i64 (by omega) (by omega)];rfl
   ·simp only;rw[B c p];by_cases em:m=n
    ·subst em;rw[if_pos R]
    ·have f:m<n:=by omega
     have:=E m n f j;rw[if_neg (fun h=>by have:=R.2;omega)];exact(L c p).1 m x f R
   ·simp only;rw[B c p,if_neg (fun h=>q n V (by omega) h)];exact(L c p).2 fun m x A=>q m x (by omega)
  ·right
   refine⟨b,?_,done fun m x A=> ?_⟩
   ·simp only[gw,v,X,and_self,decide_true,if_true,Int.toNat_natCast,mY hi,vB hi,p,decide_false,Option.bind,Bool.false_eq_true,if_false]
   ·by_cases em:m=n
    ·subst em;omega
    ·have:=E n m (by omega) A;have:=(J n j).2.1;omega
 ·right
  refine⟨b,?_,done fun m x A=>by omega⟩;have hn:¬((n:Int)<(l.length:Int)):=by omega
  simp only[gw,hn,decide_false,Option.bind,Bool.false_eq_true,if_false]
theorem CB{α:Type}{K:Ty}{k:K.den}{x:α}{p:K.den×α}:∀ {c:List (K.den×α)},p∈dN K c k x→p=(k,x)∨p∈c
 | [],h=>by simp only[dN,List.mem_singleton]at h;exact .inl h
 | q::r,h=>by
  simp only[dN]at h;split at h
  ·rcases List.mem_cons.1 h with h | h
   ·exact .inl h
   ·exact .inr (by simp[h])
  ·rcases List.mem_cons.1 h with h | h
   ·exact .inr (by simp[h])
   ·rcases CB h with h | h
    ·exact .inl h
    ·exact .inr (by simp[h])
theorem zt{α:Type}{K:Ty}(c:K.isKey=true){k:K.den}{x:α}:∀ {f:List (K.den×α)},bc K f k=some x→(k,x)∈f
 | [],h=>by simp[bc]at h
 | q::r,h=>by
  simp only[bc]at h;split at h
  ·rename_i e;rw[eK c]at e;cases h;rw[←e];simp
  ·exact List.mem_cons_of_mem _ (zt c h)
structure Bl(l:List (Int×Int×Int))(i:Nat)(idx:ep 4352)(bs:List (ep 256))(seen:List (ep 256×Int)):Prop where
 pos:1≤bs.length
 len:bs.length≤i+1
 zero:bs.getD 0 (cW 256)=cW 256
 seen:∀p∈seen,∃q:Nat,p.2=(q:Int)∧q<bs.length∧bs.getD q (cW 256)=p.1
 has:∀j,j<i→∃q:Nat,eP idx j=(q:Int)∧q<bs.length∧∀c:Nat,c<256→eP (bs.getD q (cW 256)) c=atR l (256*(j:Int)+c)
 rest:∀j,i≤j→eP idx j=0
theorem CL(hR:Rp l):∃r,iter (fc l) (cW 4352,(List.replicate (1:Int).toNat (cW 256)),([]:List (ep 256×Int)),(0:Int),(0:Int))=some r∧∃seen,Bl l 4352 r.1 r.2 seen:=by
 obtain⟨hl,hx,hs⟩:=hR;refine cF (fun s:ep 4352×List (ep 256)×List (ep 256×Int)×Int×Int=>∃i k:Nat,s.2.2.2.2=(i:Int)∧s.2.2.2.1=(k:Int)∧i≤4352∧k≤l.length∧(∀m,m<k→(l.getD m z3).2.1<256*(i:Int))∧Bl l i s.1 s.2.1 s.2.2.1)
  (fun s=>4352 - s.2.2.2.2.toNat) _ ?_ ⟨0,0,rfl,rfl,by omega,by omega,fun m hm=>by omega,⟨by simp,by simp,by simp,fun p R=>by simp at R,fun j V=>by omega,fun j _=>Je⟩⟩
 rintro⟨A,f,seen,s3,s4⟩ ⟨i,k,rfl,rfl,hi,hk,L,hB⟩;simp only at L hB;by_cases B:i<4352
 ·left
  have C:(i:Int)<4352:=by omega
  have h8:(0:Int)≤8:=by decide
  obtain⟨r,e1,M,rfl,k1,k2,k3,k4⟩:=AX B hl hk (fun n hn=>by have:=hx n hn;omega);have D:∀m,m<M→(l.getD m z3).2.1<256*(i:Int):=fun m hm=>by
   rcases Nat.lt_or_ge m k with h | h
   ·exact L m h
   ·exact k3 m h hm
  obtain⟨b,e2,hb⟩:=BF B ⟨hl,hx,hs⟩ k2 D k4;have u:i64.wrap ((i:Int)+1)=((i+1:Nat):Int):=by rw[wrap_i64 (by omega) (by omega)];rfl
  have x:∀m,m<M→(l.getD m z3).2.1<256*((i+1:Nat):Int):=fun m hm=>by have:=D m hm;omega
  by_cases hz:H3 b (cW 256)=true
  ·have a2:=Ik.1 hz;refine⟨(A,f,seen,(M:Int),((i+1:Nat):Int)),?_,⟨i+1,M,rfl,rfl,by omega,k2,x,⟨hB.pos,by have:=hB.len;simp only;omega,hB.zero,hB.seen,fun j V=> ?_,fun j V=>hB.rest j (by omega)⟩⟩,by simp only[Int.toNat_natCast];omega⟩
   ·simp only[fc,C,h8,decide_true,if_true,Option.bind,e1,e2,hz,u]
   ·by_cases ej:j=i
    ·subst ej;refine⟨0,by rw[hB.rest j (Nat.le_refl _)];rfl,hB.pos,fun c hc=> ?_⟩;simp only;rw[hB.zero,←hb c hc,a2]
    ·exact hB.has j (by omega)
  ·have N:∀(z:List (ep 256)) (q:Nat),f.length≤z.length→(∀j,j<f.length→z.getD j (cW 256)=f.getD j (cW 256))→q<z.length→z.getD q (cW 256)=b →
     ∀j,j<i+1→∃X:Nat,eP (rV A i (q:Int)) j=(X:Int)∧X<z.length∧∀c:Nat,c<256→eP (z.getD X (cW 256)) c=atR l (256*(j:Int)+c):=fun z q g1 g2 g3 g4 j V=>by
    by_cases ej:j=i
    ·subst ej;exact⟨q,by rw[sO _ B,if_pos rfl],g3,fun c hc=>by rw[g4];exact hb c hc⟩
    ·obtain⟨X,Y,f2,Z⟩:=hB.has j (by omega);exact⟨X,by rw[sO _ B,if_neg (fun e=>ej e.symm)];exact Y,by omega,fun c hc=>by rw[g2 X f2];exact Z c hc⟩
   have E:∀(q:Int) j,i+1≤j→eP (rV A i q) j=0:=fun q j V=>by rw[sO _ B,if_neg (by omega)];exact hB.rest j (by omega)
   cases hf:bc (.arr .u8 256) seen b with
   | none =>
    have I:∀j,j<f.length→(f++[b]).getD j (cW 256)=f.getD j (cW 256):=fun j V=>by simp only[List.getD_eq_getElem?_getD];rw[List.getElem?_append_left V]
    have J:(f++[b]).getD f.length (cW 256)=b:=by simp
    have a1:=hB.len;refine⟨(rV A i (f.length:Int),f++[b],dN (.arr .u8 256) seen b (f.length:Int),(M:Int),((i+1:Nat):Int)),?_,⟨i+1,M,rfl,rfl,by omega,k2,x,⟨by simp,by simp;omega,by
      simp only;rw[I 0 hB.pos];exact hB.zero,fun p R=> ?_,N (f++[b]) f.length (by simp) I (by simp) J,E _⟩⟩,by simp only[Int.toNat_natCast];omega⟩
    ·simp only[fc,C,h8,decide_true,if_true,Option.bind,e1,e2,hz,u,hf,Bool.false_eq_true,if_false,Option.isSome,Bool.not_false];have a3:(f.length+([b]:List (ep 256)).length)*256≤140737488355328∧f.length+([b]:List (ep 256)).length≤9223372036854775807:=by simp only[List.length_singleton];omega
     have O:0≤(i:Int)∧(i:Int)<((4352:Nat):Int):=by omega
     rw[if_pos a3];simp only;rw[if_pos O,Int.toNat_natCast]
    ·simp only at R ⊢;rcases CB R with rfl | R
     ·exact⟨f.length,rfl,by simp,J⟩
     ·obtain⟨q,Y,f2,Z⟩:=hB.seen p R;exact⟨q,Y,by simp;omega,by rw[I q f2];exact Z⟩
   | some v =>
    obtain⟨q,Y,f2,Z⟩:=hB.seen _ (zt (K:= .arr .u8 256) rfl hf);simp only at Y Z;subst Y;have a1:=hB.len;refine⟨(rV A i (q:Int),f,seen,(M:Int),((i+1:Nat):Int)),?_,⟨i+1,M,rfl,rfl,by omega,k2,x,⟨hB.pos,by simp only;omega,hB.zero,hB.seen,N f q (Nat.le_refl _) (fun _ _=>rfl) f2 Z,E _⟩⟩,by simp only[Int.toNat_natCast];omega⟩;simp only[fc,C,h8,decide_true,if_true,Option.bind,e1,e2,hz,u,hf,Bool.false_eq_true,if_false,Option.isSome,Bool.not_true,Option.getD];have O:0≤(i:Int)∧(i:Int)<((4352:Nat):Int):=by omega
    rw[if_pos O,Int.toNat_natCast]
 ·right
  obtain rfl:i=4352:=by omega
  exact⟨(A,f),by simp[fc],seen,hB⟩
def tj(t:Option ((ep 4352)×List (ep 256)))(f:Int→Int):Prop:=ba t=fun r=>some (f r)
def F3(l:List (Int×Int×Int))(r:Int):Int:=if 0≤r∧r≤1114111 then atR l r else 0
theorem Rs.rp{most:Int}:∀ {last:Int} {l:List (Int×Int×Int)},0≤last+1→Rs most last l →
  (∀n,n<l.length→last<(l.getD n z3).1∧(l.getD n z3).1≤(l.getD n z3).2.1∧(l.getD n z3).2.1≤1114111∧0≤(l.getD n z3).2.2∧(l.getD n z3).2.2≤255∧(l.getD n z3).2.2<most) ∧
  ∀m n,m<n→n<l.length→(l.getD m z3).2.1<(l.getD n z3).1
 | _,[],_,_=>⟨fun n h=>by simp at h,fun m n _ h=>by simp at h⟩
 | last,x::l,A,⟨f,j,k,p,q,u,v⟩=>by
  obtain⟨e,z⟩:=Rs.rp (by omega) v;refine⟨fun n c=> ?_,fun m n B c=> ?_⟩
  ·cases n with
   | zero=>exact⟨f,j,k,p,u,q⟩
   | succ n =>
    have:=e n (by simpa using c);simp only[List.getD_cons_succ];exact⟨by omega,this.2⟩
  ·cases n with
   | zero=>omega
   | succ n =>
    cases m with
    | zero=>simp only[List.getD_cons_succ,List.getD_cons_zero];exact(e n (by simpa using c)).1
    | succ m=>simp only[List.getD_cons_succ];exact z m n (by omega) (by simpa using c)
theorem pg{most:Int}(h:uE l most=true):Rp l:=by
 unfold uE at h;simp only[decide_eq_true_eq]at h;obtain⟨c,e⟩:=Rs.rp (by omega) h.2;exact⟨h.1,fun n f=>by have:=c n f;omega,e⟩
theorem Gx{e:ep 4352}{k:List (ep 256)}(u:Rp l)(has:∀j,j<4352→∃q:Nat,eP e j=(q:Int)∧q<k.length∧∀c:Nat,c<256→eP (k.getD q (cW 256)) c=atR l (256*(j:Int)+c)):tj (some (e,k)) (F3 l):=by
 funext r;unfold ba F3;by_cases m:r<0
 ·rw[show(if 0≤r∧r≤1114111 then atR l r else 0)=0 from if_neg (by omega)];simp[m]
 by_cases v:r > 1114111
 ·rw[show(if 0≤r∧r≤1114111 then atR l r else 0)=0 from if_neg (by omega)];simp[m,v]
 rw[show(if 0≤r∧r≤1114111 then atR l r else 0)=atR l r from if_pos (by omega)];have A:Int.fdiv r (2 ^ (min (8:Int).toNat i32.bits))=r / 256:=by rw[show(min (8:Int).toNat i32.bits)=8 from rfl,Int.fdiv_eq_ediv_of_nonneg _ (by decide)];rfl
 obtain⟨q,B,I,C⟩:=has (r / 256).toNat (by omega);have x:=C (r % 256).toNat (by omega);have D:256*((r / 256).toNat:Int)+((r % 256).toNat:Int)=r:=by omega
 rw[D]at x;have E:bitsOf .and .i32 r 255=r % 256:=HC (by omega) (by omega);have J:0≤atR l r∧atR l r≤255:=by
  by_cases z:∃n,n<l.length∧Has l n r
  ·obtain⟨n,f,p⟩:=z;rw[Du u f p];have:=u.2.1 n f;omega
  ·rw[zA fun n f p=>z ⟨n,f,p⟩];omega
 simp only[Option.isNone,Option.isSome,Option.getD,Bool.false_eq_true,if_false,m,v,decide_false,if_true,Option.bind,A,E,B,Int.toNat_natCast];rw[if_pos (by decide),if_pos (by omega),if_pos (by omega),if_pos (by omega),x,wrap_i64 (by omega) (by omega)]
theorem A2(l:List (Int×Int×Int))(c:Int):gA l c=some (none,10)∧uE l c=false∨∃t,gA l c=some (some t,0)∧uE l c=true∧tj (some t) (F3 l):=by
 unfold gA;rw[Au];cases h:uE l c with
 | false=>exact .inl ⟨rfl,rfl⟩
 | true =>
  obtain⟨r,e,seen,f⟩:=CL (pg h);refine .inr ⟨r,?_,rfl,Gx (pg h) f.has⟩;simp only[Option.bind,e,Bool.not_true,Bool.false_eq_true,if_false];rw[if_pos (by decide)]
end
end Go.Proofs.YtmcemnfjddoejaaGreatDoor.T
