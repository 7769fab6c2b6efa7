/- Loops in plain laws. -/
import Derived.Test.YtacpjjgochokcaaDoorTvR
namespace Go.Tv
open Go
section
variable{S T S' T':Type}
theorem b8{body:S→Option (S⊕T)}(st:Nat→S)(n:Nat){r:T}(h:∀k,k<n→body (st k)=some (.inl (st (k+1))))(he:body (st n)=some (.inr r)):iter body (st 0)=some r:=by
 have key:∀m k,k+m=n→iter body (st k)=some r:=fun m=>by
  induction m with
  | zero =>
   intro k hk
   obtain rfl:k=n:=by omega
   rw[mA,he]
  | succ m ih =>
   intro k hk
   rw[mA,h k (by omega)]
   exact ih (k+1) (by omega)
 exact key n 0 (by omega)
theorem bS{body:S→Option (S⊕T)}(I:S→Prop)(μ:S→Nat)(Q:T→Prop)(step:∀s,I s→(∃y,body s=some (.inl y)∧I y∧μ y<μ s)∨∃r,body s=some (.inr r)∧Q r){s:S}(h:I s):∃r,iter body s=some r∧Q r:=by
 have key:∀m s,I s→μ s≤m→∃r,iter body s=some r∧Q r:=fun m=>by
  induction m with
  | zero =>
   intro s hs hm
   rcases step s hs with⟨y,_,_,h3⟩ | ⟨r,h1,h2⟩
   ·omega
   ·exact⟨r,by rw[mA,h1],h2⟩
  | succ m ih =>
   intro s hs hm
   rcases step s hs with⟨y,h1,h2,h3⟩ | ⟨r,h1,h2⟩
   ·obtain⟨r,h4,h5⟩:=ih y h2 (by omega)
    exact⟨r,by rw[mA,h1];exact h4,h5⟩
   ·exact⟨r,by rw[mA,h1],h2⟩
 exact key (μ s) s h (Nat.le_refl _)
theorem T9{body:S→Option (S⊕T)}{body':S'→Option (S'⊕T')}(R:S→S'→Prop)(Q:T→T'→Prop)
  (step:∀s s' o,R s s'→body s=some o→∃o',body' s'=some o'∧(match o,o' with | .inl y,.inl y'=>R y y' | .inr r,.inr r'=>Q r r' | _,_=>False))
  {s:S} {s':S'} (h:R s s') {r:T} (hr:iter body s=some r):∃r',iter body' s'=some r'∧Q r r':=by
 obtain⟨k,hk⟩:=jO hr
 clear hr
 induction k generalizing s s' with
 | zero=>cases hk
 | succ k ih =>
  simp only[gN]at hk
  cases hb:body s with
  | none=>rw[hb]at hk;cases hk
  | some o =>
   obtain⟨o',h1,h2⟩:=step s s' o h hb
   rw[hb]at hk
   cases o with
   | inl y =>
    cases o' with
    | inl y' =>
     obtain⟨r',h3,h4⟩:=ih h2 hk
     exact⟨r',by rw[mA,h1];exact h3,h4⟩
    | inr _=>exact h2.elim
   | inr q =>
    cases o' with
    | inl _=>exact h2.elim
    | inr q' =>
     cases hk
     exact⟨q',by rw[mA,h1],h2⟩
end
theorem aY{x:Int}(h1 : -9223372036854775808≤x)(h2:x≤9223372036854775807):IntKind.i64.wrap x=x:=by
 simp only[IntKind.wrap,IntKind.min,IntKind.max]
 first | omega | (simp[IntKind.bits,IntKind.signed];omega)
end Go.Tv
namespace Go.Tv
open Go
theorem X1{S T:Type}{body:S→Option (S⊕T)}(I:S→Prop)(Q:T→Prop)(step:∀s y,I s→body s=some (.inl y)→I y)(last:∀s r,I s→body s=some (.inr r)→Q r)
  {s:S} (h:I s) {r:T} (hr:iter body s=some r):Q r:=by
 obtain⟨k,hk⟩:=jO hr
 clear hr
 induction k generalizing s with
 | zero=>cases hk
 | succ k ih =>
  simp only[gN]at hk
  cases hb:body s with
  | none=>rw[hb]at hk;cases hk
  | some o =>
   rw[hb]at hk
   cases o with
   | inl y=>exact ih (step s y h hb) hk
   | inr q=>cases hk;exact last s _ h hb
end Go.Tv
namespace Go.Tv
open Go
theorem uV{x:Int}(h1:0≤x)(h2:x≤4294967295):IntKind.u32.wrap x=x:=by
 simp[IntKind.wrap,IntKind.bits,IntKind.signed];omega
theorem uH{x:Int}(h1:0≤x)(h2:x≤18446744073709551615):IntKind.u64.wrap x=x:=by
 simp[IntKind.wrap,IntKind.bits,IntKind.signed];omega
theorem gU{n:Nat}{x:Int}(h1:0≤x)(h2:x<2 ^ n):(BitVec.ofInt n x).toNat=x.toNat:=by
 rw[BitVec.toNat_ofInt]
 have e:x % ((2 ^ n:Nat):Int)=x:=Int.emod_eq_of_lt h1 (by exact_mod_cast h2)
 rw[e]
def L1(P:Nat→Bool):Nat→Nat
 | 0=>0
 | n+1=>if P 0 then 0 else L1 (fun x=>P (x+1)) n+1
theorem cI{α:Type}{l:List α}{i:Nat}{d:α}(h:i<l.length):l.getD i d=l[i]:=by
 rw[List.getD_eq_getElem?_getD,List.getElem?_eq_getElem h];rfl
theorem eC{α:Type}{l:List α}{i:Nat}{d:α}(h:i<l.length):l.getD i d∈l:=by
 rw[cI h];exact List.getElem_mem h
theorem eP{α:Type}{l:List α}{i:Nat}{d:α}(h:i<l.length):l.take (i+1)=l.take i++[l.getD i d]:=by
 rw[List.take_add_one,List.getElem?_eq_getElem h,cI h];rfl
theorem lZ{α:Type}{l:List α}{i:Nat}{d:α}(h:i<l.length):l.drop i=l.getD i d::l.drop (i+1):=by
 rw[cI h];exact List.drop_eq_getElem_cons h
end Go.Tv
namespace Go.Tv
open Go
def U64(x:Int):Prop:=0≤x∧x<18446744073709551616
def U32(x:Int):Prop:=0≤x∧x<4294967296
def bt(x:Int)(i:Nat):Bool:=x.toNat.testBit i
theorem I9{x y:Int}(hx:U64 x)(hy:U64 y):aI .or .u64 x y=((x.toNat ||| y.toNat:Nat):Int):=by
 have e:(2:Int) ^ 64=18446744073709551616:=by decide
 have e':(2:Nat) ^ 64=18446744073709551616:=by decide
 obtain⟨h1,h2⟩:=hx
 obtain⟨h3,h4⟩:=hy
 show IntKind.u64.wrap ((BitVec.ofInt IntKind.u64.bits x ||| BitVec.ofInt IntKind.u64.bits y).toNat:Int)=_
 rw[BitVec.toNat_or,gU h1 (by show x<(2:Int) ^ 64;omega),gU h3 (by show y<(2:Int) ^ 64;omega)]
 have:=Nat.or_lt_two_pow (x:=x.toNat) (y:=y.toNat) (n:=64) (by omega) (by omega)
 rw[uH (by omega) (by omega)]
theorem M9{x y:Int}(hx:U64 x)(hy:U64 y):aI .and .u64 x y=((x.toNat &&& y.toNat:Nat):Int):=by
 have e:(2:Int) ^ 64=18446744073709551616:=by decide
 have e':(2:Nat) ^ 64=18446744073709551616:=by decide
 obtain⟨h1,h2⟩:=hx
 obtain⟨h3,h4⟩:=hy
 show IntKind.u64.wrap ((BitVec.ofInt IntKind.u64.bits x &&& BitVec.ofInt IntKind.u64.bits y).toNat:Int)=_
 rw[BitVec.toNat_and,gU h1 (by show x<(2:Int) ^ 64;omega),gU h3 (by show y<(2:Int) ^ 64;omega)]
 have:=Nat.and_lt_two_pow x.toNat (show y.toNat<2 ^ 64 by omega)
 rw[uH (by omega) (by omega)]
theorem aAv{x y:Int}(hx:U32 x)(hy:U32 y):aI .or .u32 x y=((x.toNat ||| y.toNat:Nat):Int):=by
 have e:(2:Int) ^ 32=4294967296:=by decide
 have e':(2:Nat) ^ 32=4294967296:=by decide
 obtain⟨h1,h2⟩:=hx
 obtain⟨h3,h4⟩:=hy
 show IntKind.u32.wrap ((BitVec.ofInt IntKind.u32.bits x ||| BitVec.ofInt IntKind.u32.bits y).toNat:Int)=_
 rw[BitVec.toNat_or,gU h1 (by show x<(2:Int) ^ 32;omega),gU h3 (by show y<(2:Int) ^ 32;omega)]
 have:=Nat.or_lt_two_pow (x:=x.toNat) (y:=y.toNat) (n:=32) (by omega) (by omega)
 rw[uV (by omega) (by omega)]
theorem uF{x y:Int}(hx:U32 x)(hy:U32 y):aI .and .u32 x y=((x.toNat &&& y.toNat:Nat):Int):=by
 have e:(2:Int) ^ 32=4294967296:=by decide
 have e':(2:Nat) ^ 32=4294967296:=by decide
 obtain⟨h1,h2⟩:=hx
 obtain⟨h3,h4⟩:=hy
 show IntKind.u32.wrap ((BitVec.ofInt IntKind.u32.bits x &&& BitVec.ofInt IntKind.u32.bits y).toNat:Int)=_
 rw[BitVec.toNat_and,gU h1 (by show x<(2:Int) ^ 32;omega),gU h3 (by show y<(2:Int) ^ 32;omega)]
 have:=Nat.and_lt_two_pow x.toNat (show y.toNat<2 ^ 32 by omega)
 rw[uV (by omega) (by omega)]
theorem U64.or{x y:Int}(hx:U64 x)(hy:U64 y):U64 (aI .or .u64 x y):=by
 rw[I9 hx hy]
 have e':(2:Nat) ^ 64=18446744073709551616:=by decide
 obtain⟨h1,h2⟩:=hx
 obtain⟨h3,h4⟩:=hy
 have:=Nat.or_lt_two_pow (x:=x.toNat) (y:=y.toNat) (n:=64) (by omega) (by omega)
 exact⟨by omega,by omega⟩
theorem U32.or{x y:Int}(hx:U32 x)(hy:U32 y):U32 (aI .or .u32 x y):=by
 rw[aAv hx hy]
 have e':(2:Nat) ^ 32=4294967296:=by decide
 obtain⟨h1,h2⟩:=hx
 obtain⟨h3,h4⟩:=hy
 have:=Nat.or_lt_two_pow (x:=x.toNat) (y:=y.toNat) (n:=32) (by omega) (by omega)
 exact⟨by omega,by omega⟩
theorem N8{x y:Int}(hx:U64 x)(hy:U64 y)(i:Nat):bt (aI .or .u64 x y) i=(bt x i || bt y i):=by
 rw[I9 hx hy];simp only[bt,Int.toNat_natCast,Nat.testBit_or]
theorem aBc{x y:Int}(hx:U32 x)(hy:U32 y)(i:Nat):bt (aI .or .u32 x y) i=(bt x i || bt y i):=by
 rw[aAv hx hy];simp only[bt,Int.toNat_natCast,Nat.testBit_or]
theorem aAF{x:Int}(hx:U64 x){i:Nat}(hi:64≤i):bt x i=false:=by
 have e':(2:Nat) ^ 64=18446744073709551616:=by decide
 obtain⟨h1,h2⟩:=hx
 exact Nat.testBit_lt_two_pow (Nat.lt_of_lt_of_le (show x.toNat<2 ^ 64 by omega) (Nat.pow_le_pow_right (by decide) hi))
theorem aB6{x y:Int}(hx:0≤x)(hy:0≤y)(h:∀i,bt x i=bt y i):x=y:=by
 have:x.toNat=y.toNat:=Nat.eq_of_testBit_eq h
 omega
theorem H0{x:Int}(h:0≤x)(k:Nat):Int.fdiv x (2 ^ k)=((x.toNat >>> k:Nat):Int):=by
 rw[Int.fdiv_eq_ediv_of_nonneg _ (Int.pow_nonneg (by decide)),Nat.shiftRight_eq_div_pow]
 have:x=((x.toNat:Nat):Int):=by omega
 rw[this]
 push_cast
 rw[Int.toNat_natCast]
theorem aBh{x:Int}(hx:U64 x){k:Nat}(hk:k<64):(aI .and .u64 (Int.fdiv x (2 ^ (min k IntKind.u64.bits))) 1 == 1)=bt x k:=by
 have hb:IntKind.u64.bits=64:=rfl
 rw[hb,Nat.min_eq_left (by omega),H0 hx.1]
 have h2:=hx.2
 have h1:=hx.1
 have hle:x.toNat >>> k≤x.toNat:=by rw[Nat.shiftRight_eq_div_pow];exact Nat.div_le_self _ _
 have hu:U64 ((x.toNat >>> k:Nat):Int):=by
  generalize x.toNat >>> k=m at hle
  exact⟨by omega,by omega⟩
 rw[M9 hu ⟨by decide,by decide⟩]
 simp only[bt,Nat.testBit,Int.toNat_natCast]
 have e1:(1:Int).toNat=1:=rfl
 rw[e1,Nat.and_comm]
 have:=Nat.and_one_is_mod (x.toNat >>> k)
 rw[Nat.and_comm]at this
 rcases Nat.mod_two_eq_zero_or_one (x.toNat >>> k)with h | h <;> rw[this,h] <;> rfl
theorem y1{x:Int}(hx:U32 x){k:Nat}(hk:k<32):(aI .and .u32 (Int.fdiv x (2 ^ (min k IntKind.u32.bits))) 1 == 1)=bt x k:=by
 have hb:IntKind.u32.bits=32:=rfl
 rw[hb,Nat.min_eq_left (by omega),H0 hx.1]
 have h2:=hx.2
 have h1:=hx.1
 have hle:x.toNat >>> k≤x.toNat:=by rw[Nat.shiftRight_eq_div_pow];exact Nat.div_le_self _ _
 have hu:U32 ((x.toNat >>> k:Nat):Int):=by
  generalize x.toNat >>> k=m at hle
  exact⟨by omega,by omega⟩
 rw[uF hu ⟨by decide,by decide⟩]
 simp only[bt,Nat.testBit,Int.toNat_natCast]
 have e1:(1:Int).toNat=1:=rfl
 rw[e1,Nat.and_comm]
 have:=Nat.and_one_is_mod (x.toNat >>> k)
 rw[Nat.and_comm]at this
 rcases Nat.mod_two_eq_zero_or_one (x.toNat >>> k)with h | h <;> rw[this,h] <;> rfl
theorem aAZ{k:Nat}(hk:k<64):IntKind.u64.wrap ((1:Int)*2 ^ (min k IntKind.u64.bits))=((2 ^ k:Nat):Int):=by
 have hb:IntKind.u64.bits=64:=rfl
 have e':(2:Nat) ^ 64=18446744073709551616:=by decide
 have:=Nat.pow_lt_pow_right (a:=2) (by decide) hk
 rw[hb,Nat.min_eq_left (by omega),Int.one_mul]
 have h2:(2:Int) ^ k=((2 ^ k:Nat):Int):=by push_cast;rfl
 rw[h2]
 generalize 2 ^ k=m at this
 rw[uH (by omega) (by omega)]
theorem aAY{k:Nat}(hk:k<32):IntKind.u32.wrap ((1:Int)*2 ^ (min k IntKind.u32.bits))=((2 ^ k:Nat):Int):=by
 have hb:IntKind.u32.bits=32:=rfl
 have e':(2:Nat) ^ 32=4294967296:=by decide
 have:=Nat.pow_lt_pow_right (a:=2) (by decide) hk
 rw[hb,Nat.min_eq_left (by omega),Int.one_mul]
 have h2:(2:Int) ^ k=((2 ^ k:Nat):Int):=by push_cast;rfl
 rw[h2]
 generalize 2 ^ k=m at this
 rw[uV (by omega) (by omega)]
theorem U64.pow{k:Nat}(hk:k<64):U64 ((2 ^ k:Nat):Int):=by
 have e':(2:Nat) ^ 64=18446744073709551616:=by decide
 have:=Nat.pow_lt_pow_right (a:=2) (by decide) hk
 generalize 2 ^ k=m at this
 exact⟨by omega,by omega⟩
theorem U32.pow{k:Nat}(hk:k<32):U32 ((2 ^ k:Nat):Int):=by
 have e':(2:Nat) ^ 32=4294967296:=by decide
 have:=Nat.pow_lt_pow_right (a:=2) (by decide) hk
 generalize 2 ^ k=m at this
 exact⟨by omega,by omega⟩
theorem zH(k i:Nat):bt ((2 ^ k:Nat):Int) i=decide (k=i):=by
 simp only[bt,Int.toNat_natCast];exact Nat.testBit_two_pow
theorem S8{x y:Int}(hx:U64 x)(hy:U64 y):(aI .and .u64 x y != 0)=true↔∃i,i<64∧bt x i=true∧bt y i=true:=by
 rw[M9 hx hy]
 constructor
 ·intro h
  have hne:x.toNat &&& y.toNat≠0:=by
   intro e;rw[e]at h;simp at h
  obtain⟨i,hi⟩:=Nat.exists_testBit_of_ne_zero hne
  rw[Nat.testBit_and,Bool.and_eq_true]at hi
  refine⟨i,?_,hi⟩
  rcases Nat.lt_or_ge i 64 with h' | h'
  ·exact h'
  ·have:=aAF hx h'
   simp only[bt]at this
   rw[this]at hi
   exact absurd hi.1 (by simp)
 ·rintro⟨i,_,h1,h2⟩
  have:(x.toNat &&& y.toNat).testBit i=true:=by rw[Nat.testBit_and];simp only[bt]at h1 h2;rw[h1,h2];rfl
  have hne:x.toNat &&& y.toNat≠0:=by
   intro e;rw[e,Nat.zero_testBit]at this;cases this
  simp only[bne_iff_ne,ne_eq]
  omega
end Go.Tv
