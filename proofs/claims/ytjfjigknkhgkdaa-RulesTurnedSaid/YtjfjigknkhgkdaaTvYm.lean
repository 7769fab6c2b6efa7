/- Loops in plain laws. -/
import Derived.Test.YtjfjigknkhgkdaaTvR
namespace Go.Tv
open Go
section
variable{S T S' T':Type}
theorem cC{body:S→Option (S⊕T)}(st:Nat→S)(n:Nat){r:T}(h:∀k,k<n→body (st k)=some (.inl (st (k+1))))(he:body (st n)=some (.inr r)):iter body (st 0)=some r:=by
 have key:∀m k,k+m=n→iter body (st k)=some r:=fun m=>by
  induction m with
  | zero =>
   intro k hk
   obtain rfl:k=n:=by omega
   rw[mU,he]
  | succ m ih =>
   intro k hk
   rw[mU,h k (by omega)]
   exact ih (k+1) (by omega)
 exact key n 0 (by omega)
theorem P9{body:S→Option (S⊕T)}(I:S→Prop)(μ:S→Nat)(Q:T→Prop)(step:∀s,I s→(∃y,body s=some (.inl y)∧I y∧μ y<μ s)∨∃r,body s=some (.inr r)∧Q r){s:S}(h:I s):∃r,iter body s=some r∧Q r:=by
 have key:∀m s,I s→μ s≤m→∃r,iter body s=some r∧Q r:=fun m=>by
  induction m with
  | zero =>
   intro s hs hm
   rcases step s hs with⟨y,_,_,h3⟩ | ⟨r,h1,h2⟩
   ·omega
   ·exact⟨r,by rw[mU,h1],h2⟩
  | succ m ih =>
   intro s hs hm
   rcases step s hs with⟨y,h1,h2,h3⟩ | ⟨r,h1,h2⟩
   ·obtain⟨r,h4,h5⟩:=ih y h2 (by omega)
    exact⟨r,by rw[mU,h1];exact h4,h5⟩
   ·exact⟨r,by rw[mU,h1],h2⟩
 exact key (μ s) s h (Nat.le_refl _)
end
theorem aP{x:Int}(h1 : -9223372036854775808≤x)(h2:x≤9223372036854775807):IntKind.i64.wrap x=x:=by
 simp only[IntKind.wrap,IntKind.min,IntKind.max]
 first | omega | (simp[IntKind.bits,IntKind.signed];omega)
end Go.Tv
namespace Go.Tv
open Go
end Go.Tv
namespace Go.Tv
open Go
theorem N5{x:Int}(h1:0≤x)(h2:x≤255):IntKind.u8.wrap x=x:=by
 simp[IntKind.wrap,IntKind.bits,IntKind.signed];omega
theorem V6{x:Int}(h1:0≤x)(h2:x≤18446744073709551615):IntKind.u64.wrap x=x:=by
 simp[IntKind.wrap,IntKind.bits,IntKind.signed];omega
theorem P6(x:Int):IntKind.u64.wrap x=x % 18446744073709551616:=by
 simp[IntKind.wrap,IntKind.bits,IntKind.signed]
theorem W9(x:Int):IntKind.u8.wrap x=x % 256:=by
 simp[IntKind.wrap,IntKind.bits,IntKind.signed]
def gN(P:Nat→Bool):Nat→Nat
 | 0=>0
 | n+1=>if P 0 then 0 else gN (fun x=>P (x+1)) n+1
theorem j5:∀(P:Nat→Bool) (n:Nat),gN P n≤n
 | _,0=>Nat.le_refl _
 | P,n+1=>by
  have:=j5 (fun x=>P (x+1)) n
  simp only[gN]
  split <;> omega
theorem lJ:∀(P:Nat→Bool) (n:Nat) {j:Nat},j<gN P n→P j=false
 | _,0,j,h=>absurd h (by simp[gN])
 | P,n+1,j,h=>by
  simp only[gN]at h
  split at h
  ·omega
  ·rename_i h0
   cases j with
   | zero=>simpa using h0
   | succ j=>exact lJ (fun x=>P (x+1)) n (j:=j) (by omega)
theorem lI:∀(P:Nat→Bool) (n:Nat),gN P n<n→P (gN P n)=true
 | _,0,h=>absurd h (by simp)
 | P,n+1,h=>by
  simp only[gN]at h ⊢
  split
  ·assumption
  ·rename_i h0
   rw[if_neg h0]at h
   exact lI (fun x=>P (x+1)) n (by omega)
theorem L7{α:Type}{l:List α}{i:Nat}{d:α}(h:i<l.length):l.getD i d=l[i]:=by
 rw[List.getD_eq_getElem?_getD,List.getElem?_eq_getElem h];rfl
theorem lW{α:Type}{l:List α}{i:Nat}{d:α}(h:i<l.length):l.getD i d∈l:=by
 rw[L7 h];exact List.getElem_mem h
theorem iK{α:Type}{l:List α}{i:Nat}{d:α}(h:i<l.length):l.drop i=l.getD i d::l.drop (i+1):=by
 rw[L7 h];exact List.drop_eq_getElem_cons h
end Go.Tv
