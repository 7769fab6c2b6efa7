/- Loops in plain laws. -/
import Derived.Test.YtflahpmlcfhpcaaGreatDoorTvR
namespace Go.Tv
open Go
section
variable{S T S' T':Type}
theorem dK{body:S→Option (S⊕T)}(st:Nat→S)(n:Nat){r:T}(h:∀k,k<n→body (st k)=some (.inl (st (k+1))))(he:body (st n)=some (.inr r)):iter body (st 0)=some r:=by
 have key:∀m k,k+m=n→iter body (st k)=some r:=fun m=>by
  induction m with
  | zero =>
   intro k hk
   obtain rfl:k=n:=by omega
   rw[nP,he]
  | succ m ih =>
   intro k hk
   rw[nP,h k (by omega)]
   exact ih (k+1) (by omega)
 exact key n 0 (by omega)
theorem mI{body:S→Option (S⊕T)}(I:S→Prop)(μ:S→Nat)(Q:T→Prop)(step:∀s,I s→(∃y,body s=some (.inl y)∧I y∧μ y<μ s)∨∃r,body s=some (.inr r)∧Q r){s:S}(h:I s):∃r,iter body s=some r∧Q r:=by
 have key:∀m s,I s→μ s≤m→∃r,iter body s=some r∧Q r:=fun m=>by
  induction m with
  | zero =>
   intro s hs hm
   rcases step s hs with⟨y,_,_,h3⟩ | ⟨r,h1,h2⟩
   ·omega
   ·exact⟨r,by rw[nP,h1],h2⟩
  | succ m ih =>
   intro s hs hm
   rcases step s hs with⟨y,h1,h2,h3⟩ | ⟨r,h1,h2⟩
   ·obtain⟨r,h4,h5⟩:=ih y h2 (by omega)
    exact⟨r,by rw[nP,h1];exact h4,h5⟩
   ·exact⟨r,by rw[nP,h1],h2⟩
 exact key (μ s) s h (Nat.le_refl _)
end
theorem bV{x:Int}(h1 : -9223372036854775808≤x)(h2:x≤9223372036854775807):IntKind.i64.wrap x=x:=by
 simp only[IntKind.wrap,IntKind.min,IntKind.max]
 first | omega | (simp[IntKind.bits,IntKind.signed];omega)
end Go.Tv
namespace Go.Tv
open Go
end Go.Tv
namespace Go.Tv
open Go
theorem pZ{x:Int}(h1 : -2147483648≤x)(h2:x≤2147483647):IntKind.i32.wrap x=x:=by
 simp[IntKind.wrap,IntKind.bits,IntKind.signed];omega
theorem aC8{x:Int}(h1:0≤x)(h2:x≤255):IntKind.u8.wrap x=x:=by
 simp[IntKind.wrap,IntKind.bits,IntKind.signed];omega
theorem E0{n:Nat}{x:Int}(h1:0≤x)(h2:x<2 ^ n):(BitVec.ofInt n x).toNat=x.toNat:=by
 rw[BitVec.toNat_ofInt]
 have e:x % ((2 ^ n:Nat):Int)=x:=Int.emod_eq_of_lt h1 (by exact_mod_cast h2)
 rw[e]
theorem aCV{x:Int}(h1:0≤x)(h2:x≤2147483647){k:Nat}(hk:k≤31):aZ .and .i32 x ((2 ^ k - 1:Nat):Int)=x % ((2 ^ k:Nat):Int):=by
 have hk2:(2:Nat) ^ k≤2 ^ 31:=Nat.pow_le_pow_right (by decide) hk
 have hp:0<(2:Nat) ^ k:=Nat.pow_pos (by decide)
 have e31:(2:Nat) ^ 31=2147483648:=by decide
 have e32:(2:Int) ^ 32=4294967296:=by decide
 show IntKind.i32.wrap ((BitVec.ofInt IntKind.i32.bits x &&& BitVec.ofInt IntKind.i32.bits ((2 ^ k - 1:Nat):Int)).toNat:Int)=_
 rw[BitVec.toNat_and,E0 h1 (by show x<(2:Int) ^ 32;omega),E0 (by omega) (by show((2 ^ k - 1:Nat):Int)<(2:Int) ^ 32;omega),Int.toNat_natCast,Nat.and_two_pow_sub_one_eq_mod]
 have hm:=Nat.mod_lt x.toNat hp
 have hm2:=Nat.mod_le x.toNat (2 ^ k)
 rw[pZ (by omega) (by omega)]
 have:((x.toNat:Nat):Int)=x:=by omega
 rw[Int.natCast_emod,this]
end Go.Tv
