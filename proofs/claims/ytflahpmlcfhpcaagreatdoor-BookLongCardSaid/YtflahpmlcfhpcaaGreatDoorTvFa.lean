/- Floating-point numbers: what is no number is one datum. -/
import GoSem.Claims
import Derived.WalkKit
namespace Go.Tv
open Go
def dS(n:Nat):Option Nat:=if(FloatKind.f64.decode n).isNaN then none else some n
def fOp(op:BinOp)(x y:Nat):Option Nat :=
 match op with
 | .add=>FloatKind.f64.format.add x y
 | .sub=>FloatKind.f64.format.sub x y
 | .mul=>FloatKind.f64.format.mul x y
 | _=>FloatKind.f64.format.div x y
def nX(op:BinOp)(a b:Option Nat):Option Nat :=
 match a,b with
 | some x,some y=>(fOp op x y).bind dS
 | _,_=>none
def B9(a b:Option Nat):Option Ordering :=
 match a,b with
 | some x,some y=>FloatKind.f64.format.order x y
 | _,_=>none
def fEq(a b:Option Nat):Bool:=B9 a b == some .eq
def fLt(a b:Option Nat):Bool:=B9 a b == some .lt
def fGt(a b:Option Nat):Bool:=B9 a b == some .gt
def fLe(a b:Option Nat):Bool:=B9 a b == some .lt || B9 a b == some .eq
def fGe(a b:Option Nat):Bool:=B9 a b == some .gt || B9 a b == some .eq
def wX(a:Option Nat):Option Int:=a.bind fun n=>(FloatKind.f64.decode n).toInt .zero
def ofInt(n:Int):Option Nat:=dS (FloatKind.f64.nearest n)
theorem s0{n:Nat}(h:dS n=none):∃s t,FloatKind.f64.format.read n = .nan s t:=by
 unfold dS at h
 split at h
 ·rename_i hn
  unfold Ieee.Datum.isNaN FloatKind.decode at hn
  cases hd:FloatKind.f64.format.read n with
  | nan s t=>exact⟨s,t,rfl⟩
  | number _ _ _=>rw[hd]at hn;cases hn
  | infinity _=>rw[hd]at hn;cases hn
 ·cases h
theorem mK{n m:Nat}(h:dS n=some m):m=n:=by
 unfold dS at h
 split at h
 ·cases h
 ·exact(Option.some.inj h).symm
theorem aAs(x y:Nat):B9 (dS x) (dS y)=FloatKind.f64.format.order x y:=by
 cases hx:dS x with
 | none =>
  obtain⟨s,t,e⟩:=s0 hx
  simp only[B9,Ieee.Format.order,e]
  rfl
 | some a =>
  obtain rfl:=mK hx
  cases hy:dS y with
  | none =>
   obtain⟨s,t,e⟩:=s0 hy
   simp only[B9,Ieee.Format.order,e]
   cases FloatKind.f64.format.read a <;> rfl
  | some b =>
   obtain rfl:=mK hy
   rfl
theorem aAM(op:BinOp)(x y:Nat):nX op (dS x) (dS y)=(fOp op x y).bind dS:=by
 cases hx:dS x with
 | none =>
  obtain⟨s,t,e⟩:=s0 hx
  cases op <;> simp only[nX,fOp,Ieee.Format.add,Ieee.Format.sub,Ieee.Format.mul,Ieee.Format.div,e] <;> rfl
 | some a =>
  obtain rfl:=mK hx
  cases hy:dS y with
  | none =>
   obtain⟨s,t,e⟩:=s0 hy
   cases op <;> simp only[nX,fOp,Ieee.Format.add,Ieee.Format.sub,Ieee.Format.mul,Ieee.Format.div,e] <;> cases FloatKind.f64.format.read a <;> rfl
  | some b =>
   obtain rfl:=mK hy
   rfl
theorem V3(n:Nat)(h:FloatKind.f64.format.infRung<n % FloatKind.f64.format.signWeight):dS n=none:=by
 have hb:FloatKind.f64.format.binade≤FloatKind.f64.format.infRung:=by decide
 unfold dS FloatKind.decode Ieee.Format.read
 rw[if_pos]
 rw[if_neg (by omega),if_neg (by omega),if_neg (by omega)]
 rfl
theorem aCE(x y t:Nat):dS (Question.cut (.nanBits .f64 x y) t)=none:=by
 refine V3 _ ?_
 have e1:FloatKind.f64.format.infRung=0x7ff0000000000000:=by decide
 have e2:FloatKind.f64.format.signWeight=2 ^ 63:=by decide
 have e3:Question.cut (.nanBits .f64 x y) t=t % 2*2 ^ 63+0x7ff0000000000000+1+t / 2 % (2 ^ 52 - 1):=rfl
 rw[e1,e2,e3]
 have hr:t / 2 % (2 ^ 52 - 1)<2 ^ 52 - 1:=Nat.mod_lt _ (by decide)
 generalize t / 2 % (2 ^ 52 - 1)=r at hr ⊢
 rcases Nat.mod_two_eq_zero_or_one t with e | e <;> rw[e] <;> omega
section
variable{P:Program}{w:World}
theorem V4{op:BinOp}(ho:op = .add∨op = .sub∨op = .mul∨op = .quo)(x y:Nat):
  ∃n w',(Op.floatArith op .f64 x y).run P w = .ok (.float .f64 n) w'∧(w'=w∨w'=w.drew)∧dS n=nX op (dS x) (dS y):=by
 rw[aAM]
 have key:∀(r:Option Nat),∃n w',(match r with
   | some r=>pure (.float .f64 r)
   | none=>do pure (.float .f64 (←choose (.nanBits .f64 x y))):Sem Value).run P w = .ok (.float .f64 n) w'∧(w'=w∨w'=w.drew)∧dS n=r.bind dS:=fun r=>by
  cases r with
  | some r=>exact⟨r,w,rfl,.inl rfl,rfl⟩
  | none=>exact⟨_,w.drew,by simp only[Sem.run_bind,run_choose_drew,Question.forced];rfl,.inr rfl,aCE x y _⟩
 rcases ho with rfl | rfl | rfl | rfl <;> exact key _
end
end Go.Tv
