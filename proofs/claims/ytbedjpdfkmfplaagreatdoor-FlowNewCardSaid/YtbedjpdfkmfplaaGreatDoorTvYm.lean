/- Loops in plain laws. -/
import Derived.Test.YtbedjpdfkmfplaaGreatDoorTvR
namespace Go.Tv
open Go
section
variable{S T S' T':Type}
theorem hN{body:S→Option (S⊕T)}(st:Nat→S)(n:Nat){r:T}(h:∀k,k<n→body (st k)=some (.inl (st (k+1))))(he:body (st n)=some (.inr r)):iter body (st 0)=some r:=by
 have key:∀m k,k+m=n→iter body (st k)=some r:=fun m=>by
  induction m with
  | zero =>
   intro k hk
   obtain rfl:k=n:=by omega
   rw[qG,he]
  | succ m ih =>
   intro k hk
   rw[qG,h k (by omega)]
   exact ih (k+1) (by omega)
 exact key n 0 (by omega)
theorem eL{body:S→Option (S⊕T)}(I:S→Prop)(μ:S→Nat)(Q:T→Prop)(step:∀s,I s→(∃y,body s=some (.inl y)∧I y∧μ y<μ s)∨∃r,body s=some (.inr r)∧Q r){s:S}(h:I s):∃r,iter body s=some r∧Q r:=by
 have key:∀m s,I s→μ s≤m→∃r,iter body s=some r∧Q r:=fun m=>by
  induction m with
  | zero =>
   intro s hs hm
   rcases step s hs with⟨y,_,_,h3⟩ | ⟨r,h1,h2⟩
   ·omega
   ·exact⟨r,by rw[qG,h1],h2⟩
  | succ m ih =>
   intro s hs hm
   rcases step s hs with⟨y,h1,h2,h3⟩ | ⟨r,h1,h2⟩
   ·obtain⟨r,h4,h5⟩:=ih y h2 (by omega)
    exact⟨r,by rw[qG,h1];exact h4,h5⟩
   ·exact⟨r,by rw[qG,h1],h2⟩
 exact key (μ s) s h (Nat.le_refl _)
end
theorem wrap_i64{x:Int}(h1 : -9223372036854775808≤x)(h2:x≤9223372036854775807):IntKind.i64.wrap x=x:=by
 simp only[IntKind.wrap,IntKind.min,IntKind.max]
 first | omega | (simp[IntKind.bits,IntKind.signed];omega)
end Go.Tv
namespace Go.Tv
open Go
end Go.Tv
namespace Go.Tv
open Go
theorem iU{x:Int}(h1 : -2147483648≤x)(h2:x≤2147483647):IntKind.i32.wrap x=x:=by
 simp[IntKind.wrap,IntKind.bits,IntKind.signed];omega
theorem aFd{x:Int}(h1:0≤x)(h2:x≤255):IntKind.u8.wrap x=x:=by
 simp[IntKind.wrap,IntKind.bits,IntKind.signed];omega
theorem mO{n:Nat}{x:Int}(h1:0≤x)(h2:x<2 ^ n):(BitVec.ofInt n x).toNat=x.toNat:=by
 rw[BitVec.toNat_ofInt]
 have e:x % ((2 ^ n:Nat):Int)=x:=Int.emod_eq_of_lt h1 (by exact_mod_cast h2)
 rw[e]
theorem aE3{x:Int}(h1:0≤x)(h2:x≤2147483647){k:Nat}(hk:k≤31):aU .and .i32 x ((2 ^ k - 1:Nat):Int)=x % ((2 ^ k:Nat):Int):=by
 have hk2:(2:Nat) ^ k≤2 ^ 31:=Nat.pow_le_pow_right (by decide) hk
 have hp:0<(2:Nat) ^ k:=Nat.pow_pos (by decide)
 have e31:(2:Nat) ^ 31=2147483648:=by decide
 have e32:(2:Int) ^ 32=4294967296:=by decide
 show IntKind.i32.wrap ((BitVec.ofInt IntKind.i32.bits x &&& BitVec.ofInt IntKind.i32.bits ((2 ^ k - 1:Nat):Int)).toNat:Int)=_
 rw[BitVec.toNat_and,mO h1 (by show x<(2:Int) ^ 32;omega),mO (by omega) (by show((2 ^ k - 1:Nat):Int)<(2:Int) ^ 32;omega),Int.toNat_natCast,Nat.and_two_pow_sub_one_eq_mod]
 have hm:=Nat.mod_lt x.toNat hp
 have hm2:=Nat.mod_le x.toNat (2 ^ k)
 rw[iU (by omega) (by omega)]
 have:((x.toNat:Nat):Int)=x:=by omega
 rw[Int.natCast_emod,this]
theorem aJz{x:Int}(h1:0≤x)(h2:x≤255){k:Nat}(hk:k≤8):aU .and .u8 x ((2 ^ k - 1:Nat):Int)=x % ((2 ^ k:Nat):Int):=by
 have hk2:(2:Nat) ^ k≤2 ^ 8:=Nat.pow_le_pow_right (by decide) hk
 have hp:0<(2:Nat) ^ k:=Nat.pow_pos (by decide)
 have e8:(2:Nat) ^ 8=256:=by decide
 have e8':(2:Int) ^ 8=256:=by decide
 show IntKind.u8.wrap ((BitVec.ofInt IntKind.u8.bits x &&& BitVec.ofInt IntKind.u8.bits ((2 ^ k - 1:Nat):Int)).toNat:Int)=_
 rw[BitVec.toNat_and,mO h1 (by show x<(2:Int) ^ 8;omega),mO (by omega) (by show((2 ^ k - 1:Nat):Int)<(2:Int) ^ 8;omega),Int.toNat_natCast,Nat.and_two_pow_sub_one_eq_mod]
 have hm:=Nat.mod_lt x.toNat hp
 have hm2:=Nat.mod_le x.toNat (2 ^ k)
 rw[aFd (by omega) (by omega)]
 have:((x.toNat:Nat):Int)=x:=by omega
 rw[Int.natCast_emod,this]
theorem aJp{a y:Int}{k:Nat}(ha:0≤a)(hy:0≤y)(hyk:y<((2 ^ k:Nat):Int))(hs:a*((2 ^ k:Nat):Int)+y≤2147483647):aU .or .i32 (a*((2 ^ k:Nat):Int)) y=a*((2 ^ k:Nat):Int)+y:=by
 have e32:(2:Int) ^ 32=4294967296:=by decide
 have hnn:0≤a*((2 ^ k:Nat):Int):=Int.mul_nonneg ha (by omega)
 show IntKind.i32.wrap ((BitVec.ofInt IntKind.i32.bits (a*((2 ^ k:Nat):Int)) ||| BitVec.ofInt IntKind.i32.bits y).toNat:Int)=_
 rw[BitVec.toNat_or,mO hnn (by show a*((2 ^ k:Nat):Int)<(2:Int) ^ 32;omega),mO hy (by show y<(2:Int) ^ 32;omega)]
 have e1:(a*((2 ^ k:Nat):Int)).toNat=a.toNat <<< k:=by
  rw[Nat.shiftLeft_eq,Int.toNat_mul ha (by omega),Int.toNat_natCast]
 rw[e1,←Nat.shiftLeft_add_eq_or_of_lt (show y.toNat<2 ^ k by omega),←e1]
 rw[iU (by omega) (by omega)]
 omega
def oS(P:Nat→Bool):Nat→Nat
 | 0=>0
 | n+1=>if P 0 then 0 else oS (fun x=>P (x+1)) n+1
theorem aAX:∀(P:Nat→Bool) (n:Nat),oS P n≤n
 | _,0=>Nat.le_refl _
 | P,n+1=>by
  have:=aAX (fun x=>P (x+1)) n
  simp only[oS]
  split <;> omega
theorem aA1:∀(P:Nat→Bool) (n:Nat) {j:Nat},j<oS P n→P j=false
 | _,0,j,h=>absurd h (by simp[oS])
 | P,n+1,j,h=>by
  simp only[oS]at h
  split at h
  ·omega
  ·rename_i h0
   cases j with
   | zero=>simpa using h0
   | succ j=>exact aA1 (fun x=>P (x+1)) n (j:=j) (by omega)
theorem aAQ:∀(P:Nat→Bool) (n:Nat),oS P n<n→P (oS P n)=true
 | _,0,h=>absurd h (by simp)
 | P,n+1,h=>by
  simp only[oS]at h ⊢
  split
  ·assumption
  ·rename_i h0
   rw[if_neg h0]at h
   exact aAQ (fun x=>P (x+1)) n (by omega)
theorem l4{α:Type}{l:List α}{i:Nat}{d:α}(h:i<l.length):l.getD i d=l[i]:=by
 rw[List.getD_eq_getElem?_getD,List.getElem?_eq_getElem h];rfl
theorem B9{α:Type}{l:List α}{i:Nat}{d:α}(h:i<l.length):l.getD i d∈l:=by
 rw[l4 h];exact List.getElem_mem h
theorem qS{α:Type}{l:List α}{i:Nat}{d:α}(h:i<l.length):l.take (i+1)=l.take i++[l.getD i d]:=by
 rw[List.take_add_one,List.getElem?_eq_getElem h,l4 h];rfl
theorem O5{α:Type}{l:List α}{i:Nat}{d:α}(h:i<l.length):l.drop i=l.getD i d::l.drop (i+1):=by
 rw[l4 h];exact List.drop_eq_getElem_cons h
end Go.Tv
