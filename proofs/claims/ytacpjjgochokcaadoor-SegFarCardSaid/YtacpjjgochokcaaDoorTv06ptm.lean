/- A plan's text as pieces. -/
import Derived.Test.YtacpjjgochokcaaDoorTv06pdm
import Derived.Test.YtacpjjgochokcaaDoorTv06pqm
import Derived.Test.YtacpjjgochokcaaDoorTv06pf
namespace Go.Proofs.YtacpjjgochokcaaDoor.T
open Go Go.Tv Go.Proofs
inductive K where
 | w (x:List UInt8)
 | s (c:Nat)
def Kd:Toks→List K→Prop
 | .eof _,[]=>True
 | .wd w _ r,.w x::l=>w=x∧Kd r l
 | .sg c _ r,.s d::l=>c=d∧Kd r l
 | _,_=>False
def Lx(l:List UInt8)(ks:List K):Prop:=∀n,Kd (tk (some 0) l n) ks
def NL(l:List UInt8):Prop:=∀c r,l=c::r→lD c.toNat=false
def Px(x:List UInt8)(ks:List K):Prop:=∀r ls,Lx r ls→Lx (x++r) (ks++ls)
def Qx(x:List UInt8)(ks:List K):Prop:=∀r ls,NL r→Lx r ls→Lx (x++r) (ks++ls)
theorem Px.app{x y ks ls}(h1:Px x ks)(h2:Px y ls):Px (x++y) (ks++ls):=fun r ms h=>by
 rw[List.append_assoc,List.append_assoc];exact h1 _ _ (h2 _ _ h)
theorem Px.q{x y ks ls}(h1:Px x ks)(h2:Qx y ls):Qx (x++y) (ks++ls):=fun r ms hn h=>by
 rw[List.append_assoc,List.append_assoc];exact h1 _ _ (h2 _ _ hn h)
theorem Qx.app{x y ks ls}{c:UInt8}{y':List UInt8}(h1:Qx x ks)(hy:y=c::y')(hc:lD c.toNat=false)(h2:Px y ls):Px (x++y) (ks++ls):=fun r ms h=>by
 rw[List.append_assoc,List.append_assoc]
 exact h1 _ _ (fun d q hd=>by rw[hy,List.cons_append]at hd;cases hd;exact hc) (h2 _ _ h)
def X9(n b:Nat):Nat→List (List UInt8)
 | 0=>[]
 | k+1=>X9 n b k++(if b / 2 ^ k % 2=1 then[[nmB n k]]else[])
end Go.Proofs.YtacpjjgochokcaaDoor.T
namespace Go.Proofs.YtacpjjgochokcaaDoor.T
open Go Go.Tv Go.Proofs
theorem Kd.wd{ts:Toks}{x ks}(h:Kd ts (.w x::ks)):∃n r,ts = .wd x n r∧Kd r ks:=by
 cases ts with
 | bad n=>exact h.elim
 | eof n=>exact h.elim
 | wd w n r=>obtain⟨h1,h2⟩:=h;subst h1;exact⟨n,r,rfl,h2⟩
 | sg c n r=>exact h.elim
theorem Kd.sg{ts:Toks}{c ks}(h:Kd ts (.s c::ks)):∃n r,ts = .sg c n r∧Kd r ks:=by
 cases ts with
 | bad n=>exact h.elim
 | eof n=>exact h.elim
 | wd w n r=>exact h.elim
 | sg d n r=>obtain⟨h1,h2⟩:=h;subst h1;exact⟨n,r,rfl,h2⟩
theorem Kd.nil{ts:Toks}(h:Kd ts []):∃n,ts = .eof n:=by
 cases ts with
 | bad n=>exact h.elim
 | eof n=>exact⟨n,rfl⟩
 | wd w n r=>exact h.elim
 | sg d n r=>exact h.elim
section
variable{n:Nat}{wh:Int}{sets:P1}
end
end Go.Proofs.YtacpjjgochokcaaDoor.T
