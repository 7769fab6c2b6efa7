/- Loops in plain laws. -/
import Derived.Test.YtacpjjgochokcaaDoorTvR
namespace Go.Tv
open Go
section
variable{S T S' T':Type}
theorem bZ{body:S→Option (S⊕T)}(st:Nat→S)(n:Nat){r:T}(h:∀k,k<n→body (st k)=some (.inl (st (k+1))))(he:body (st n)=some (.inr r)):iter body (st 0)=some r:=by
 have key:∀m k,k+m=n→iter body (st k)=some r:=fun m=>by
  induction m with
  | zero =>
   intro k hk
   obtain rfl:k=n:=by omega
   rw[kY,he]
  | succ m ih =>
   intro k hk
   rw[kY,h k (by omega)]
   exact ih (k+1) (by omega)
 exact key n 0 (by omega)
theorem cC{body:S→Option (S⊕T)}(I:S→Prop)(μ:S→Nat)(Q:T→Prop)(step:∀s,I s→(∃y,body s=some (.inl y)∧I y∧μ y<μ s)∨∃r,body s=some (.inr r)∧Q r){s:S}(h:I s):∃r,iter body s=some r∧Q r:=by
 have key:∀m s,I s→μ s≤m→∃r,iter body s=some r∧Q r:=fun m=>by
  induction m with
  | zero =>
   intro s hs hm
   rcases step s hs with⟨y,_,_,h3⟩ | ⟨r,h1,h2⟩
   ·omega
   ·exact⟨r,by rw[kY,h1],h2⟩
  | succ m ih =>
   intro s hs hm
   rcases step s hs with⟨y,h1,h2,h3⟩ | ⟨r,h1,h2⟩
   ·obtain⟨r,h4,h5⟩:=ih y h2 (by omega)
    exact⟨r,by rw[kY,h1];exact h4,h5⟩
   ·exact⟨r,by rw[kY,h1],h2⟩
 exact key (μ s) s h (Nat.le_refl _)
theorem aCc{body:S→Option (S⊕T)}{body':S'→Option (S'⊕T')}(R:S→S'→Prop)(Q:T→T'→Prop)
  (step:∀s s' o,R s s'→body s=some o→∃o',body' s'=some o'∧(match o,o' with | .inl y,.inl y'=>R y y' | .inr r,.inr r'=>Q r r' | _,_=>False))
  {s:S} {s':S'} (h:R s s') {r:T} (hr:iter body s=some r):∃r',iter body' s'=some r'∧Q r r':=by
 obtain⟨k,hk⟩:=lN hr
 clear hr
 induction k generalizing s s' with
 | zero=>cases hk
 | succ k ih =>
  simp only[iY]at hk
  cases hb:body s with
  | none=>rw[hb]at hk;cases hk
  | some o =>
   obtain⟨o',h1,h2⟩:=step s s' o h hb
   rw[hb]at hk
   cases o with
   | inl y =>
    cases o' with
    | inl y' =>
     obtain⟨r',h3,h4⟩:=ih h2 hk
     exact⟨r',by rw[kY,h1];exact h3,h4⟩
    | inr _=>exact h2.elim
   | inr q =>
    cases o' with
    | inl _=>exact h2.elim
    | inr q' =>
     cases hk
     exact⟨q',by rw[kY,h1],h2⟩
end
theorem aR{x:Int}(h1 : -9223372036854775808≤x)(h2:x≤9223372036854775807):IntKind.i64.wrap x=x:=by
 simp only[IntKind.wrap,IntKind.min,IntKind.max]
 first | omega | (simp[IntKind.bits,IntKind.signed];omega)
end Go.Tv
namespace Go.Tv
open Go
theorem aDB{S T:Type}{body:S→Option (S⊕T)}(I:S→Prop)(Q:T→Prop)(step:∀s y,I s→body s=some (.inl y)→I y)(last:∀s r,I s→body s=some (.inr r)→Q r)
  {s:S} (h:I s) {r:T} (hr:iter body s=some r):Q r:=by
 obtain⟨k,hk⟩:=lN hr
 clear hr
 induction k generalizing s with
 | zero=>cases hk
 | succ k ih =>
  simp only[iY]at hk
  cases hb:body s with
  | none=>rw[hb]at hk;cases hk
  | some o =>
   rw[hb]at hk
   cases o with
   | inl y=>exact ih (step s y h hb) hk
   | inr q=>cases hk;exact last s _ h hb
end Go.Tv
namespace Go.Tv
open Go
theorem xW{x:Int}(h1:0≤x)(h2:x≤4294967295):IntKind.u32.wrap x=x:=by
 simp[IntKind.wrap,IntKind.bits,IntKind.signed];omega
theorem pD{x:Int}(h1:0≤x)(h2:x≤18446744073709551615):IntKind.u64.wrap x=x:=by
 simp[IntKind.wrap,IntKind.bits,IntKind.signed];omega
theorem aBQ(x:Int):IntKind.u64.wrap x=x % 18446744073709551616:=by
 simp[IntKind.wrap,IntKind.bits,IntKind.signed]
theorem iM{n:Nat}{x:Int}(h1:0≤x)(h2:x<2 ^ n):(BitVec.ofInt n x).toNat=x.toNat:=by
 rw[BitVec.toNat_ofInt]
 have e:x % ((2 ^ n:Nat):Int)=x:=Int.emod_eq_of_lt h1 (by exact_mod_cast h2)
 rw[e]
def mC(P:Nat→Bool):Nat→Nat
 | 0=>0
 | n+1=>if P 0 then 0 else mC (fun x=>P (x+1)) n+1
theorem H1:∀(P:Nat→Bool) (n:Nat),mC P n≤n
 | _,0=>Nat.le_refl _
 | P,n+1=>by
  have:=H1 (fun x=>P (x+1)) n
  simp only[mC]
  split <;> omega
theorem F4:∀(P:Nat→Bool) (n:Nat) {j:Nat},j<mC P n→P j=false
 | _,0,j,h=>absurd h (by simp[mC])
 | P,n+1,j,h=>by
  simp only[mC]at h
  split at h
  ·omega
  ·rename_i h0
   cases j with
   | zero=>simpa using h0
   | succ j=>exact F4 (fun x=>P (x+1)) n (j:=j) (by omega)
theorem C2:∀(P:Nat→Bool) (n:Nat),mC P n<n→P (mC P n)=true
 | _,0,h=>absurd h (by simp)
 | P,n+1,h=>by
  simp only[mC]at h ⊢
  split
  ·assumption
  ·rename_i h0
   rw[if_neg h0]at h
   exact C2 (fun x=>P (x+1)) n (by omega)
theorem cY{α:Type}{l:List α}{i:Nat}{d:α}(h:i<l.length):l.getD i d=l[i]:=by
 rw[List.getD_eq_getElem?_getD,List.getElem?_eq_getElem h];rfl
theorem dN{α:Type}{l:List α}{i:Nat}{d:α}(h:i<l.length):l.getD i d∈l:=by
 rw[cY h];exact List.getElem_mem h
theorem eW{α:Type}{l:List α}{i:Nat}{d:α}(h:i<l.length):l.take (i+1)=l.take i++[l.getD i d]:=by
 rw[List.take_add_one,List.getElem?_eq_getElem h,cY h];rfl
theorem jV{α:Type}{l:List α}{i:Nat}{d:α}(h:i<l.length):l.drop i=l.getD i d::l.drop (i+1):=by
 rw[cY h];exact List.drop_eq_getElem_cons h
end Go.Tv
namespace Go.Tv
open Go
def U64(x:Int):Prop:=0≤x∧x<18446744073709551616
def U32(x:Int):Prop:=0≤x∧x<4294967296
def bt(x:Int)(i:Nat):Bool:=x.toNat.testBit i
theorem aAo{x y:Int}(hx:U64 x)(hy:U64 y):aG .or .u64 x y=((x.toNat ||| y.toNat:Nat):Int):=by
 have e:(2:Int) ^ 64=18446744073709551616:=by decide
 have e':(2:Nat) ^ 64=18446744073709551616:=by decide
 obtain⟨h1,h2⟩:=hx
 obtain⟨h3,h4⟩:=hy
 show IntKind.u64.wrap ((BitVec.ofInt IntKind.u64.bits x ||| BitVec.ofInt IntKind.u64.bits y).toNat:Int)=_
 rw[BitVec.toNat_or,iM h1 (by show x<(2:Int) ^ 64;omega),iM h3 (by show y<(2:Int) ^ 64;omega)]
 have:=Nat.or_lt_two_pow (x:=x.toNat) (y:=y.toNat) (n:=64) (by omega) (by omega)
 rw[pD (by omega) (by omega)]
theorem aA1{x y:Int}(hx:U64 x)(hy:U64 y):aG .and .u64 x y=((x.toNat &&& y.toNat:Nat):Int):=by
 have e:(2:Int) ^ 64=18446744073709551616:=by decide
 have e':(2:Nat) ^ 64=18446744073709551616:=by decide
 obtain⟨h1,h2⟩:=hx
 obtain⟨h3,h4⟩:=hy
 show IntKind.u64.wrap ((BitVec.ofInt IntKind.u64.bits x &&& BitVec.ofInt IntKind.u64.bits y).toNat:Int)=_
 rw[BitVec.toNat_and,iM h1 (by show x<(2:Int) ^ 64;omega),iM h3 (by show y<(2:Int) ^ 64;omega)]
 have:=Nat.and_lt_two_pow x.toNat (show y.toNat<2 ^ 64 by omega)
 rw[pD (by omega) (by omega)]
theorem aDo{x y:Int}(hx:U32 x)(hy:U32 y):aG .or .u32 x y=((x.toNat ||| y.toNat:Nat):Int):=by
 have e:(2:Int) ^ 32=4294967296:=by decide
 have e':(2:Nat) ^ 32=4294967296:=by decide
 obtain⟨h1,h2⟩:=hx
 obtain⟨h3,h4⟩:=hy
 show IntKind.u32.wrap ((BitVec.ofInt IntKind.u32.bits x ||| BitVec.ofInt IntKind.u32.bits y).toNat:Int)=_
 rw[BitVec.toNat_or,iM h1 (by show x<(2:Int) ^ 32;omega),iM h3 (by show y<(2:Int) ^ 32;omega)]
 have:=Nat.or_lt_two_pow (x:=x.toNat) (y:=y.toNat) (n:=32) (by omega) (by omega)
 rw[xW (by omega) (by omega)]
theorem wU{x y:Int}(hx:U32 x)(hy:U32 y):aG .and .u32 x y=((x.toNat &&& y.toNat:Nat):Int):=by
 have e:(2:Int) ^ 32=4294967296:=by decide
 have e':(2:Nat) ^ 32=4294967296:=by decide
 obtain⟨h1,h2⟩:=hx
 obtain⟨h3,h4⟩:=hy
 show IntKind.u32.wrap ((BitVec.ofInt IntKind.u32.bits x &&& BitVec.ofInt IntKind.u32.bits y).toNat:Int)=_
 rw[BitVec.toNat_and,iM h1 (by show x<(2:Int) ^ 32;omega),iM h3 (by show y<(2:Int) ^ 32;omega)]
 have:=Nat.and_lt_two_pow x.toNat (show y.toNat<2 ^ 32 by omega)
 rw[xW (by omega) (by omega)]
theorem U64.or{x y:Int}(hx:U64 x)(hy:U64 y):U64 (aG .or .u64 x y):=by
 rw[aAo hx hy]
 have e':(2:Nat) ^ 64=18446744073709551616:=by decide
 obtain⟨h1,h2⟩:=hx
 obtain⟨h3,h4⟩:=hy
 have:=Nat.or_lt_two_pow (x:=x.toNat) (y:=y.toNat) (n:=64) (by omega) (by omega)
 exact⟨by omega,by omega⟩
theorem U32.or{x y:Int}(hx:U32 x)(hy:U32 y):U32 (aG .or .u32 x y):=by
 rw[aDo hx hy]
 have e':(2:Nat) ^ 32=4294967296:=by decide
 obtain⟨h1,h2⟩:=hx
 obtain⟨h3,h4⟩:=hy
 have:=Nat.or_lt_two_pow (x:=x.toNat) (y:=y.toNat) (n:=32) (by omega) (by omega)
 exact⟨by omega,by omega⟩
theorem aBh{x y:Int}(hx:U64 x)(hy:U64 y)(i:Nat):bt (aG .or .u64 x y) i=(bt x i || bt y i):=by
 rw[aAo hx hy];simp only[bt,Int.toNat_natCast,Nat.testBit_or]
theorem aE1{x y:Int}(hx:U32 x)(hy:U32 y)(i:Nat):bt (aG .or .u32 x y) i=(bt x i || bt y i):=by
 rw[aDo hx hy];simp only[bt,Int.toNat_natCast,Nat.testBit_or]
theorem aDD{x:Int}(hx:U64 x){i:Nat}(hi:64≤i):bt x i=false:=by
 have e':(2:Nat) ^ 64=18446744073709551616:=by decide
 obtain⟨h1,h2⟩:=hx
 exact Nat.testBit_lt_two_pow (Nat.lt_of_lt_of_le (show x.toNat<2 ^ 64 by omega) (Nat.pow_le_pow_right (by decide) hi))
theorem aFI{x y:Int}(hx:0≤x)(hy:0≤y)(h:∀i,bt x i=bt y i):x=y:=by
 have:x.toNat=y.toNat:=Nat.eq_of_testBit_eq h
 omega
theorem N3{x:Int}(h:0≤x)(k:Nat):Int.fdiv x (2 ^ k)=((x.toNat >>> k:Nat):Int):=by
 rw[Int.fdiv_eq_ediv_of_nonneg _ (Int.pow_nonneg (by decide)),Nat.shiftRight_eq_div_pow]
 have:x=((x.toNat:Nat):Int):=by omega
 rw[this]
 push_cast
 rw[Int.toNat_natCast]
theorem aD5{x:Int}(hx:U64 x){k:Nat}(hk:k<64):(aG .and .u64 (Int.fdiv x (2 ^ (min k IntKind.u64.bits))) 1 == 1)=bt x k:=by
 have hb:IntKind.u64.bits=64:=rfl
 rw[hb,Nat.min_eq_left (by omega),N3 hx.1]
 have h2:=hx.2
 have h1:=hx.1
 have hle:x.toNat >>> k≤x.toNat:=by rw[Nat.shiftRight_eq_div_pow];exact Nat.div_le_self _ _
 have hu:U64 ((x.toNat >>> k:Nat):Int):=by
  generalize x.toNat >>> k=m at hle
  exact⟨by omega,by omega⟩
 rw[aA1 hu ⟨by decide,by decide⟩]
 simp only[bt,Nat.testBit,Int.toNat_natCast]
 have e1:(1:Int).toNat=1:=rfl
 rw[e1,Nat.and_comm]
 have:=Nat.and_one_is_mod (x.toNat >>> k)
 rw[Nat.and_comm]at this
 rcases Nat.mod_two_eq_zero_or_one (x.toNat >>> k)with h | h <;> rw[this,h] <;> rfl
theorem M5{x:Int}(hx:U32 x){k:Nat}(hk:k<32):(aG .and .u32 (Int.fdiv x (2 ^ (min k IntKind.u32.bits))) 1 == 1)=bt x k:=by
 have hb:IntKind.u32.bits=32:=rfl
 rw[hb,Nat.min_eq_left (by omega),N3 hx.1]
 have h2:=hx.2
 have h1:=hx.1
 have hle:x.toNat >>> k≤x.toNat:=by rw[Nat.shiftRight_eq_div_pow];exact Nat.div_le_self _ _
 have hu:U32 ((x.toNat >>> k:Nat):Int):=by
  generalize x.toNat >>> k=m at hle
  exact⟨by omega,by omega⟩
 rw[wU hu ⟨by decide,by decide⟩]
 simp only[bt,Nat.testBit,Int.toNat_natCast]
 have e1:(1:Int).toNat=1:=rfl
 rw[e1,Nat.and_comm]
 have:=Nat.and_one_is_mod (x.toNat >>> k)
 rw[Nat.and_comm]at this
 rcases Nat.mod_two_eq_zero_or_one (x.toNat >>> k)with h | h <;> rw[this,h] <;> rfl
theorem aEg{k:Nat}(hk:k<64):IntKind.u64.wrap ((1:Int)*2 ^ (min k IntKind.u64.bits))=((2 ^ k:Nat):Int):=by
 have hb:IntKind.u64.bits=64:=rfl
 have e':(2:Nat) ^ 64=18446744073709551616:=by decide
 have:=Nat.pow_lt_pow_right (a:=2) (by decide) hk
 rw[hb,Nat.min_eq_left (by omega),Int.one_mul]
 have h2:(2:Int) ^ k=((2 ^ k:Nat):Int):=by push_cast;rfl
 rw[h2]
 generalize 2 ^ k=m at this
 rw[pD (by omega) (by omega)]
theorem aEr{k:Nat}(hk:k<32):IntKind.u32.wrap ((1:Int)*2 ^ (min k IntKind.u32.bits))=((2 ^ k:Nat):Int):=by
 have hb:IntKind.u32.bits=32:=rfl
 have e':(2:Nat) ^ 32=4294967296:=by decide
 have:=Nat.pow_lt_pow_right (a:=2) (by decide) hk
 rw[hb,Nat.min_eq_left (by omega),Int.one_mul]
 have h2:(2:Int) ^ k=((2 ^ k:Nat):Int):=by push_cast;rfl
 rw[h2]
 generalize 2 ^ k=m at this
 rw[xW (by omega) (by omega)]
theorem U64.pow{k:Nat}(hk:k<64):U64 ((2 ^ k:Nat):Int):=by
 have e':(2:Nat) ^ 64=18446744073709551616:=by decide
 have:=Nat.pow_lt_pow_right (a:=2) (by decide) hk
 generalize 2 ^ k=m at this
 exact⟨by omega,by omega⟩
theorem U32.pow{k:Nat}(hk:k<32):U32 ((2 ^ k:Nat):Int):=by
 have e':(2:Nat) ^ 32=4294967296:=by decide
 have:=Nat.pow_lt_pow_right (a:=2) (by decide) hk
 generalize 2 ^ k=m at this
 exact⟨by omega,by omega⟩
theorem X3(k i:Nat):bt ((2 ^ k:Nat):Int) i=decide (k=i):=by
 simp only[bt,Int.toNat_natCast];exact Nat.testBit_two_pow
theorem aBz{x y:Int}(hx:U64 x)(hy:U64 y):(aG .and .u64 x y != 0)=true↔∃i,i<64∧bt x i=true∧bt y i=true:=by
 rw[aA1 hx hy]
 constructor
 ·intro h
  have hne:x.toNat &&& y.toNat≠0:=by
   intro e;rw[e]at h;simp at h
  obtain⟨i,hi⟩:=Nat.exists_testBit_of_ne_zero hne
  rw[Nat.testBit_and,Bool.and_eq_true]at hi
  refine⟨i,?_,hi⟩
  rcases Nat.lt_or_ge i 64 with h' | h'
  ·exact h'
  ·have:=aDD hx h'
   simp only[bt]at this
   rw[this]at hi
   exact absurd hi.1 (by simp)
 ·rintro⟨i,_,h1,h2⟩
  have:(x.toNat &&& y.toNat).testBit i=true:=by rw[Nat.testBit_and];simp only[bt]at h1 h2;rw[h1,h2];rfl
  have hne:x.toNat &&& y.toNat≠0:=by
   intro e;rw[e,Nat.zero_testBit]at this;cases this
  simp only[bne_iff_ne,ne_eq]
  omega
end Go.Tv
namespace Go.Tv
open Go
abbrev Wd:=List Int
def P5(s c:Int):Prop:=0≤c∧c<32∧bt s c.toNat=true
inductive Star(A:Wd→Prop):Wd→Prop where
 | nil:Star A []
 | app {u v:Wd}:A u→Star A v→Star A (u++v)
def Cat(A B:Wd→Prop)(w:Wd):Prop:=∃u v,w=u++v∧A u∧B v
def Plus(A:Wd→Prop):Wd→Prop:=Cat A (Star A)
mutual
def Lg:Tree→Wd→Prop
 | .node o s ks,w=>if o=1 then ∃c,w=[c]∧P5 s c else if o=2 then K5 ks w else if o=3 then LgA ks w
  else if o=4 then Star (LgH ks) w else if o=5 then Plus (LgH ks) w else if o=6 then w=[]∨LgH ks w else w=[]
def K5:List Tree→Wd→Prop
 | [],w=>w=[]
 | k::ks,w=>∃u v,w=u++v∧Lg k u∧K5 ks v
def LgA:List Tree→Wd→Prop
 | [],_=>False
 | k::ks,w=>Lg k w∨LgA ks w
def LgH:List Tree→Wd→Prop
 | [],_=>False
 | k::_,w=>Lg k w
end
/-! ### Places -/
def Rn(F:Nat→Nat→Prop)(lab:Nat→Int→Prop):Nat→Wd→Nat→Prop
 | _,[],_=>False
 | p,c::w,q=>lab p c∧((w=[]∧p=q)∨∃p',F p p'∧Rn F lab p' w q)
section
variable{F F1 F2:Nat→Nat→Prop}{lab:Nat→Int→Prop}
theorem Rn.mono(hF:∀p q,F1 p q→F p q):∀ {w:Wd} {p q:Nat},Rn F1 lab p w q→Rn F lab p w q
 | [],_,_,h=>h
 | c::w,p,q,h=>by
  obtain⟨h1,h2⟩:=h
  refine⟨h1,h2.imp id ?_⟩
  rintro⟨p',h3,h4⟩
  exact⟨p',hF _ _ h3,h4.mono hF⟩
theorem Rn.ne{p q:Nat}{w:Wd}(h:Rn F lab p w q):w≠[]:=by
 rintro rfl;exact h
theorem Rn.inv{I:Nat→Prop}(hF:∀p q,I p→F p q→I q):∀ {w:Wd} {p q:Nat},I p→Rn F lab p w q→I q
 | [],_,_,_,h=>h.elim
 | c::w,p,q,hp,h=>by
  rcases h.2 with⟨_,rfl⟩ | ⟨p',h3,h4⟩
  ·exact hp
  ·exact Rn.inv hF (hF _ _ hp h3) h4
theorem Rn.in(hF:∀p q,F p q→(p=p∧F1 p q)){w:Wd}{p q:Nat}(h:Rn F lab p w q):Rn F1 lab p w q:=h.mono fun p q h=>(hF p q h).2
theorem Rn.on{I:Nat→Prop}(hI:∀p q,I p→F p q→I q∧F1 p q):∀ {w:Wd} {p q:Nat},I p→Rn F lab p w q→Rn F1 lab p w q
 | [],_,_,_,h=>h.elim
 | c::w,p,q,hp,h=>by
  refine⟨h.1,h.2.imp id ?_⟩
  rintro⟨p',h3,h4⟩
  obtain⟨h5,h6⟩:=hI _ _ hp h3
  exact⟨p',h6,Rn.on hI h5 h4⟩
theorem Rn.app:∀ {u v:Wd} {p l p' q:Nat},Rn F lab p u l→F l p'→Rn F lab p' v q→Rn F lab p (u++v) q
 | [],_,_,_,_,_,h,_,_=>h.elim
 | c::u,v,p,l,p',q,h,he,hv=>by
  refine⟨h.1,.inr ?_⟩
  rcases h.2 with⟨rfl,rfl⟩ | ⟨r,h3,h4⟩
  ·exact⟨p',he,hv⟩
  ·exact⟨r,h3,Rn.app h4 he hv⟩
theorem Rn.snoc:∀ {u:Wd} {p q:Nat} {c:Int},Rn F lab p (u++[c]) q↔(u=[]∧p=q∧lab q c)∨∃r,Rn F lab p u r∧F r q∧lab q c
 | [],p,q,c=>by
  simp only[List.nil_append,Rn,true_and,and_false,exists_false,or_false,false_and]
  exact⟨fun⟨h1,h2⟩=>h2 ▸ ⟨rfl,h1⟩,fun⟨h1,h2⟩=>h1 ▸ ⟨h1 ▸ h2,rfl⟩⟩
 | d::u,p,q,c=>by
  have ih:=fun p'=>Rn.snoc (u:=u) (p:=p') (q:=q) (c:=c)
  simp only[List.cons_append,Rn,List.append_eq_nil_iff,List.cons_ne_nil,and_false,false_and,false_or,ih,reduceCtorEq]
  constructor
  ·rintro⟨h1,p',h2,⟨rfl,rfl,h3⟩ | ⟨r,h3,h4,h5⟩⟩
   ·exact⟨p,⟨h1,.inl ⟨rfl,rfl⟩⟩,h2,h3⟩
   ·exact⟨r,⟨h1,.inr ⟨p',h2,h3⟩⟩,h4,h5⟩
  ·rintro⟨r,⟨h1,⟨rfl,rfl⟩ | ⟨p',h2,h3⟩⟩,h4,h5⟩
   ·exact⟨h1,q,h4,.inl ⟨rfl,rfl,h5⟩⟩
   ·exact⟨h1,p',h2,.inr ⟨r,h3,h4,h5⟩⟩
end
structure Gl(lab:Nat→Int→Prop)(F:Nat→Nat→Prop)(nu:Prop)(Fi La:Nat→Prop)(a b:Nat)(A:Wd→Prop):Prop where
 fi:∀p,Fi p→a≤p∧p<b
 la:∀p,La p→a≤p∧p<b
 ff:∀p q,F p q→(a≤p∧p<b)∧a≤q∧q<b
 nl:nu↔A []
 wd:∀w,w≠[]→(A w↔∃p q,Fi p∧La q∧Rn F lab p w q)
section
variable{lab:Nat→Int→Prop}{F F1 F2:Nat→Nat→Prop}{nu nu1 nu2:Prop}{Fi La Fi1 La1 Fi2 La2:Nat→Prop}{a b c:Nat}{A A1 A2:Wd→Prop}
theorem Gl.congr(h:Gl lab F1 nu1 Fi1 La1 a b A1)(hF:∀p q,F p q↔F1 p q)(hn:nu↔nu1)(hf:∀p,Fi p↔Fi1 p)(hl:∀p,La p↔La1 p)(hA:∀w,A w↔A1 w):Gl lab F nu Fi La a b A:=by
 obtain rfl:F=F1:=funext fun p=>funext fun q=>propext (hF p q)
 obtain rfl:Fi=Fi1:=funext fun p=>propext (hf p)
 obtain rfl:La=La1:=funext fun p=>propext (hl p)
 obtain rfl:A=A1:=funext fun p=>propext (hA p)
 obtain rfl:nu=nu1:=propext hn
 exact h
theorem Gl.eps:Gl lab (fun _ _=>False) True (fun _=>False) (fun _=>False) a a (fun w=>w=[]) :=
 ⟨fun _ h=>h.elim,fun _ h=>h.elim,fun _ _ h=>h.elim,⟨fun _=>rfl,fun _=>trivial⟩,fun w hw=>⟨fun h=>(hw h).elim,fun⟨_,_,h,_⟩=>h.elim⟩⟩
theorem Gl.none:Gl lab (fun _ _=>False) False (fun _=>False) (fun _=>False) a a (fun _=>False) :=
 ⟨fun _ h=>h.elim,fun _ h=>h.elim,fun _ _ h=>h.elim,⟨fun h=>h,fun h=>h⟩,fun w hw=>⟨fun h=>h.elim,fun⟨_,_,h,_⟩=>h.elim⟩⟩
theorem Gl.set{s:Int}(hl:∀x,lab a x↔P5 s x):Gl lab (fun _ _=>False) False (fun p=>p=a) (fun p=>p=a) a (a+1) (fun w=>∃x,w=[x]∧P5 s x):=by
 refine⟨fun p h=>by omega,fun p h=>by omega,fun _ _ h=>h.elim,⟨fun h=>h.elim,fun⟨_,h,_⟩=>by cases h⟩,fun w hw=>⟨?_,?_⟩⟩
 ·rintro⟨x,rfl,hx⟩
  exact⟨a,a,rfl,rfl,(hl x).2 hx,.inl ⟨rfl,rfl⟩⟩
 ·rintro⟨p,q,rfl,rfl,h⟩
  cases w with
  | nil=>exact h.elim
  | cons x w =>
   rcases h.2 with⟨rfl,_⟩ | ⟨_,h,_⟩
   ·exact⟨x,rfl,(hl x).1 h.1⟩
   ·exact h.elim
theorem Gl.alt(h1:Gl lab F1 nu1 Fi1 La1 a b A1)(h2:Gl lab F2 nu2 Fi2 La2 b c A2)(hab:a≤b)(hbc:b≤c):
  Gl lab (fun p q=>F1 p q∨F2 p q) (nu1∨nu2) (fun p=>Fi1 p∨Fi2 p) (fun p=>La1 p∨La2 p) a c (fun w=>A1 w∨A2 w):=by
 refine⟨fun p h=> ?_,fun p h=> ?_,fun p q h=> ?_,or_congr h1.nl h2.nl,fun w hw=>⟨?_,?_⟩⟩
 ·rcases h with h | h
  ·have:=h1.fi p h;omega
  ·have:=h2.fi p h;omega
 ·rcases h with h | h
  ·have:=h1.la p h;omega
  ·have:=h2.la p h;omega
 ·rcases h with h | h
  ·have:=h1.ff p q h;omega
  ·have:=h2.ff p q h;omega
 ·rintro(h | h)
  ·obtain⟨p,q,k1,k2,k3⟩:=(h1.wd w hw).1 h
   exact⟨p,q,.inl k1,.inl k2,k3.mono fun _ _ h=> .inl h⟩
  ·obtain⟨p,q,k1,k2,k3⟩:=(h2.wd w hw).1 h
   exact⟨p,q,.inr k1,.inr k2,k3.mono fun _ _ h=> .inr h⟩
 ·rintro⟨p,q,hp | hp,hq,h⟩
  ·have e1:=h1.fi p hp
   have hr:=h.on (I:=fun p=>a≤p∧p<b) (F1:=F1) (fun p q hi he=>by
    rcases he with he | he
    ·exact⟨(h1.ff p q he).2,he⟩
    ·have:=h2.ff p q he;omega) e1
   have e2:=hr.inv (I:=fun p=>a≤p∧p<b) (fun p q _ he=>(h1.ff p q he).2) e1
   rcases hq with hq | hq
   ·exact .inl ((h1.wd w hw).2 ⟨p,q,hp,hq,hr⟩)
   ·have:=h2.la q hq;omega
  ·have e1:=h2.fi p hp
   have hr:=h.on (I:=fun p=>b≤p∧p<c) (F1:=F2) (fun p q hi he=>by
    rcases he with he | he
    ·have:=h1.ff p q he;omega
    ·exact⟨(h2.ff p q he).2,he⟩) e1
   have e2:=hr.inv (I:=fun p=>b≤p∧p<c) (fun p q _ he=>(h2.ff p q he).2) e1
   rcases hq with hq | hq
   ·have:=h1.la q hq;omega
   ·exact .inr ((h2.wd w hw).2 ⟨p,q,hp,hq,hr⟩)
theorem Gl.seq(h1:Gl lab F1 nu1 Fi1 La1 a b A1)(h2:Gl lab F2 nu2 Fi2 La2 b c A2)(hab:a≤b)(hbc:b≤c):
  Gl lab (fun p q=>F1 p q∨F2 p q∨La1 p∧Fi2 q) (nu1∧nu2) (fun p=>Fi1 p∨nu1∧Fi2 p) (fun p=>La2 p∨nu2∧La1 p) a c (Cat A1 A2):=by
 refine⟨fun p h=> ?_,fun p h=> ?_,fun p q h=> ?_,?_,fun w hw=>⟨?_,?_⟩⟩
 ·rcases h with h | h
  ·have:=h1.fi p h;omega
  ·have:=h2.fi p h.2;omega
 ·rcases h with h | h
  ·have:=h2.la p h;omega
  ·have:=h1.la p h.2;omega
 ·rcases h with h | h | h
  ·have:=h1.ff p q h;omega
  ·have:=h2.ff p q h;omega
  ·have:=h1.la p h.1
   have:=h2.fi q h.2
   omega
 ·rw[h1.nl,h2.nl]
  exact⟨fun⟨x,y⟩=>⟨[],[],rfl,x,y⟩,fun⟨u,v,e,x,y⟩=>by
   obtain⟨rfl,rfl⟩:=List.append_eq_nil_iff.1 e.symm
   exact⟨x,y⟩⟩
 ·rintro⟨u,v,rfl,hu,hv⟩
  by_cases eu:u=[]
  ·subst eu
   have hv0:v≠[]:=hw
   obtain⟨p,q,k1,k2,k3⟩:=(h2.wd v hv0).1 hv
   exact⟨p,q,.inr ⟨h1.nl.2 hu,k1⟩,.inl k2,k3.mono fun _ _ h=> .inr (.inl h)⟩
  ·obtain⟨p,q,k1,k2,k3⟩:=(h1.wd u eu).1 hu
   by_cases ev:v=[]
   ·subst ev
    rw[List.append_nil]
    exact⟨p,q,.inl k1,.inr ⟨h2.nl.2 hv,k2⟩,k3.mono fun _ _ h=> .inl h⟩
   ·obtain⟨p',q',l1,l2,l3⟩:=(h2.wd v ev).1 hv
    exact⟨p,q',.inl k1,.inl l2,(k3.mono fun _ _ h=> .inl h).app (.inr (.inr ⟨k2,l1⟩)) (l3.mono fun _ _ h=> .inr (.inl h))⟩
 ·have right:∀ {w:Wd} {p q:Nat},(b≤p∧p<c)→Rn (fun p q=>F1 p q∨F2 p q∨La1 p∧Fi2 q) lab p w q→Rn F2 lab p w q∧b≤q∧q<c:=fun {w p q} hp h=>by
   have hr:=h.on (I:=fun p=>b≤p∧p<c) (F1:=F2) (fun p q hi he=>by
    rcases he with he | he | he
    ·have:=h1.ff p q he;omega
    ·exact⟨(h2.ff p q he).2,he⟩
    ·have:=h1.la p he.1;omega) hp
   exact⟨hr,hr.inv (I:=fun p=>b≤p∧p<c) (fun p q _ he=>(h2.ff p q he).2) hp⟩
  have split:∀ {w:Wd} {p q:Nat},(a≤p∧p<b)→Rn (fun p q=>F1 p q∨F2 p q∨La1 p∧Fi2 q) lab p w q →
    (Rn F1 lab p w q∧a≤q∧q<b)∨∃u v l p',w=u++v∧Rn F1 lab p u l∧La1 l∧Fi2 p'∧Rn F2 lab p' v q∧b≤q∧q<c:=by
   intro w
   induction w with
   | nil=>exact fun _ h=>h.elim
   | cons x w ih =>
    intro p q hp h
    rcases h.2 with⟨rfl,rfl⟩ | ⟨p',he,hr⟩
    ·exact .inl ⟨⟨h.1,.inl ⟨rfl,rfl⟩⟩,hp⟩
    ·rcases he with he | he | he
     ·rcases ih (h1.ff p p' he).2 hr with⟨k1,k2⟩ | ⟨u,v,l,p2,rfl,k1,k2⟩
      ·exact .inl ⟨⟨h.1,.inr ⟨p',he,k1⟩⟩,k2⟩
      ·exact .inr ⟨x::u,v,l,p2,rfl,⟨h.1,.inr ⟨p',he,k1⟩⟩,k2⟩
     ·have:=h2.ff p p' he;omega
     ·obtain⟨k1,k2⟩:=right (h2.fi p' he.2) hr
      exact .inr ⟨[x],w,p,p',rfl,⟨h.1,.inl ⟨rfl,rfl⟩⟩,he.1,he.2,k1,k2⟩
  rintro⟨p,q,hp | hp,hq,h⟩
  ·rcases split (h1.fi p hp) h with⟨k1,k2⟩ | ⟨u,v,l,p',rfl,k1,k2,k3,k4,k5⟩
   ·rcases hq with hq | hq
    ·have:=h2.la q hq;omega
    ·exact⟨w,[],by simp,(h1.wd w hw).2 ⟨p,q,hp,hq.2,k1⟩,h2.nl.1 hq.1⟩
   ·rcases hq with hq | hq
    ·exact⟨u,v,rfl,(h1.wd u k1.ne).2 ⟨p,l,hp,k2,k1⟩,(h2.wd v k4.ne).2 ⟨p',q,k3,hq,k4⟩⟩
    ·have:=h1.la q hq.2;omega
  ·obtain⟨k1,k2⟩:=right (h2.fi p hp.2) h
   rcases hq with hq | hq
   ·exact⟨[],w,rfl,h1.nl.1 hp.1,(h2.wd w hw).2 ⟨p,q,hp.2,hq,k1⟩⟩
   ·have:=h1.la q hq.2;omega
theorem Star.one{u:Wd}(h:A u):Star A u:=by have:=Star.app h Star.nil;rwa [List.append_nil]at this
theorem Star.append{u v:Wd}(h:Star A u)(k:Star A v):Star A (u++v):=by
 induction h with
 | nil=>exact k
 | app h _ ih=>rw[List.append_assoc];exact .app h ih
theorem Star.split{w:Wd}(h:Star A w):w≠[]→∃u v,w=u++v∧u≠[]∧A u∧Star A v:=by
 induction h with
 | nil=>exact fun h=>(h rfl).elim
 | @app u v hu hv ih =>
  intro hw
  by_cases e:u=[]
  ·subst e;exact ih hw
  ·exact⟨u,v,rfl,e,hu,hv⟩
theorem xR{w:Wd}(hw:w≠[]):Plus A w↔Star A w:=by
 constructor
 ·rintro⟨u,v,rfl,hu,hv⟩;exact .app hu hv
 ·intro h
  obtain⟨u,v,rfl,_,hu,hv⟩:=h.split hw
  exact⟨u,v,rfl,hu,hv⟩
theorem Gl.star0(h:Gl lab F nu Fi La a b A){w:Wd}(hw:w≠[]):Star A w↔∃p q,Fi p∧La q∧Rn (fun p q=>F p q∨La p∧Fi q) lab p w q:=by
 constructor
 ·intro hs
  suffices hh:∀n (w:Wd),w.length≤n→w≠[]→Star A w→∃p q,Fi p∧La q∧Rn (fun p q=>F p q∨La p∧Fi q) lab p w q from hh w.length w (Nat.le_refl _) hw hs
  intro n
  induction n with
  | zero=>exact fun w hl hw=>(hw (List.eq_nil_of_length_eq_zero (by omega))).elim
  | succ n ih =>
   intro w hl hw hs
   obtain⟨u,v,rfl,hu,hA,hv⟩:=hs.split hw
   obtain⟨p,q,k1,k2,k3⟩:=(h.wd u hu).1 hA
   have k3':Rn (fun p q=>F p q∨La p∧Fi q) lab p u q:=k3.mono fun _ _ h=> .inl h
   by_cases ev:v=[]
   ·subst ev;rw[List.append_nil];exact⟨p,q,k1,k2,k3'⟩
   ·have:0<u.length:=List.length_pos_iff.2 hu
    obtain⟨p',q',l1,l2,l3⟩:=ih v (by simp only[List.length_append]at hl;omega) ev hv
    exact⟨p,q',k1,l2,k3'.app (.inr ⟨k2,l1⟩) l3⟩
 ·have split:∀ {w:Wd} {p q:Nat},Rn (fun p q=>F p q∨La p∧Fi q) lab p w q →
    Rn F lab p w q∨∃u v l p',w=u++v∧Rn F lab p u l∧La l∧Fi p'∧Rn (fun p q=>F p q∨La p∧Fi q) lab p' v q:=by
   intro w
   induction w with
   | nil=>exact fun h=>h.elim
   | cons x w ih =>
    intro p q h
    rcases h.2 with⟨rfl,rfl⟩ | ⟨p',he,hr⟩
    ·exact .inl ⟨h.1,.inl ⟨rfl,rfl⟩⟩
    ·rcases he with he | he
     ·rcases ih hr with k1 | ⟨u,v,l,p2,rfl,k1,k2⟩
      ·exact .inl ⟨h.1,.inr ⟨p',he,k1⟩⟩
      ·exact .inr ⟨x::u,v,l,p2,rfl,⟨h.1,.inr ⟨p',he,k1⟩⟩,k2⟩
     ·exact .inr ⟨[x],w,p,p',rfl,⟨h.1,.inl ⟨rfl,rfl⟩⟩,he.1,he.2,hr⟩
  suffices hh:∀n (w:Wd),w.length≤n→∀p q,Fi p→La q→Rn (fun p q=>F p q∨La p∧Fi q) lab p w q→Star A w from fun⟨p,q,hp,hq,hr⟩=>hh w.length w (Nat.le_refl _) p q hp hq hr
  intro n
  induction n with
  | zero=>exact fun w hl p q _ _ hr=>(hr.ne (List.eq_nil_of_length_eq_zero (by omega))).elim
  | succ n ih =>
   intro w hl p q hp hq hr
   rcases split hr with k1 | ⟨u,v,l,p',rfl,k1,k2,k3,k4⟩
   ·exact .one ((h.wd w hr.ne).2 ⟨p,q,hp,hq,k1⟩)
   ·have:0<u.length:=List.length_pos_iff.2 k1.ne
    exact .app ((h.wd u k1.ne).2 ⟨p,l,hp,k2,k1⟩) (ih v (by simp only[List.length_append]at hl;omega) p' q k3 hq k4)
theorem Gl.star(h:Gl lab F nu Fi La a b A):Gl lab (fun p q=>F p q∨La p∧Fi q) True Fi La a b (Star A):=by
 refine⟨h.fi,h.la,fun p q hh=> ?_,⟨fun _=> .nil,fun _=>trivial⟩,fun w hw=>h.star0 hw⟩
 rcases hh with hh | hh
 ·exact h.ff p q hh
 ·exact⟨h.la p hh.1,h.fi q hh.2⟩
theorem Gl.plus(h:Gl lab F nu Fi La a b A):Gl lab (fun p q=>F p q∨La p∧Fi q) nu Fi La a b (Plus A):=by
 refine⟨h.fi,h.la,fun p q hh=> ?_,?_,fun w hw=>(xR hw).trans (h.star0 hw)⟩
 ·rcases hh with hh | hh
  ·exact h.ff p q hh
  ·exact⟨h.la p hh.1,h.fi q hh.2⟩
 ·rw[h.nl]
  refine⟨fun hA=>⟨[],[],rfl,hA,.nil⟩,?_⟩
  rintro⟨u,v,e,hu,_⟩
  obtain⟨rfl,rfl⟩:=List.append_eq_nil_iff.1 e.symm
  exact hu
theorem Gl.opt(h:Gl lab F nu Fi La a b A):Gl lab F True Fi La a b (fun w=>w=[]∨A w) :=
 ⟨h.fi,h.la,h.ff,⟨fun _=> .inl rfl,fun _=>trivial⟩,fun w hw=>⟨fun hh=>(h.wd w hw).1 (hh.resolve_left hw),fun hh=> .inr ((h.wd w hw).2 hh)⟩⟩
end
/-! ### All expressions together -/
def Sx(F:Nat→Nat→Prop)(lab:Nat→Int→Prop)(Fst:Nat→Prop)(w:Wd)(q:Nat):Prop:=∃k p,Fst p∧Rn F lab p (w.drop k) q
section
variable{lab:Nat→Int→Prop}{F F1:Nat→Nat→Prop}{Fst:Nat→Prop}
theorem Sx.nil{q:Nat}:¬Sx F lab Fst [] q:=by
 rintro⟨k,p,_,h⟩
 rw[List.drop_nil]at h
 exact h
theorem Sx.snoc{w:Wd}{c:Int}{q:Nat}:Sx F lab Fst (w++[c]) q↔lab q c∧(Fst q∨∃p,Sx F lab Fst w p∧F p q):=by
 constructor
 ·rintro⟨k,p,hp,hr⟩
  rcases Nat.lt_or_ge w.length k with hk | hk
  ·rw[List.drop_eq_nil_of_le (by simp;omega)]at hr
   exact hr.elim
  ·rw[List.drop_append_of_le_length hk,Rn.snoc]at hr
   rcases hr with⟨_,rfl,h⟩ | ⟨r,h1,h2,h3⟩
   ·exact⟨h,.inl hp⟩
   ·exact⟨h3,.inr ⟨r,⟨k,p,hp,h1⟩,h2⟩⟩
 ·rintro⟨hl,hf | ⟨p,⟨k,p0,hp0,hr⟩,he⟩⟩
  ·exact⟨w.length,q,hf,by rw[List.drop_append_of_le_length (Nat.le_refl _),Rn.snoc];exact .inl ⟨by simp,rfl,hl⟩⟩
  ·have hk:k≤w.length:=by
    rcases Nat.lt_or_ge w.length k with h | h
    ·rw[List.drop_eq_nil_of_le (by omega)]at hr;exact hr.elim
    ·exact h
   exact⟨k,p0,hp0,by rw[List.drop_append_of_le_length hk,Rn.snoc];exact .inr ⟨p,hr,he,hl⟩⟩
theorem Sx.ends{nu:Prop}{Fi La:Nat→Prop}{a b:Nat}{A:Wd→Prop}(h:Gl lab F1 nu Fi La a b A)(hF:∀p q,a≤p→p<b→(F p q↔F1 p q))(hB:∀p q,F p q→a≤q→q<b→a≤p∧p<b)
  (hf:∀p,a≤p→p<b→(Fst p↔Fi p)) (w:Wd):(nu∨∃q,Sx F lab Fst w q∧La q)↔∃k,k≤w.length∧A (w.drop k):=by
 have back:∀ {w:Wd} {p q:Nat},(a≤q∧q<b)→Rn F lab p w q→a≤p∧p<b:=by
  intro w
  induction w with
  | nil=>exact fun _ h=>h.elim
  | cons x w ih =>
   intro p q hq hr
   rcases hr.2 with⟨_,rfl⟩ | ⟨p',he,hr⟩
   ·exact hq
   ·have:=ih hq hr;exact hB p p' he this.1 this.2
 constructor
 ·rintro(hn | ⟨q,⟨k,p,hp,hr⟩,hq⟩)
  ·exact⟨w.length,Nat.le_refl _,by rw[List.drop_length];exact h.nl.1 hn⟩
  ·have hpr:=back (h.la q hq) hr
   have hk:k≤w.length:=by
    rcases Nat.lt_or_ge w.length k with h' | h'
    ·rw[List.drop_eq_nil_of_le (by omega)]at hr;exact hr.elim
    ·exact h'
   refine⟨k,hk,(h.wd _ hr.ne).2 ⟨p,q,(hf p hpr.1 hpr.2).1 hp,hq,hr.on (I:=fun p=>a≤p∧p<b) (fun p q hi he=> ?_) hpr⟩⟩
   have:=(hF p q hi.1 hi.2).1 he
   exact⟨(h.ff p q this).2,this⟩
 ·rintro⟨k,hk,hA⟩
  by_cases e:w.drop k=[]
  ·rw[e]at hA;exact .inl (h.nl.2 hA)
  ·obtain⟨p,q,hp,hq,hr⟩:=(h.wd _ e).1 hA
   have hpr:=h.fi p hp
   exact .inr ⟨q,⟨k,p,(hf p hpr.1 hpr.2).2 hp,hr.mono fun p q he=>(hF p q (h.ff p q he).1.1 (h.ff p q he).1.2).2 he⟩,hq⟩
end
end Go.Tv
