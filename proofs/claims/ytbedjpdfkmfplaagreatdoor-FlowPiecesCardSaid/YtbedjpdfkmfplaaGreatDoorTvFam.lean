import GoSem.Claims
import Derived.WalkKit
import Derived.Below
namespace Go
abbrev Qx:=List (Int×Int×Int)
abbrev Qq:=List (Int×Int)
abbrev QU:=Array Value
abbrev QY:=List Value
abbrev QW:=Option Value
abbrev QV:=List Nat
abbrev QJ:=Option Nat
abbrev QK:=List Int
abbrev QZ:=List QK
abbrev QX:=List UInt8
abbrev QQ:=List QX
end Go
namespace Go.Tv
open Go
def dO(n:Nat):QJ:=if(FloatKind.f64.decode n).isNaN then none else some n
def NA(op:BinOp)(x y:Nat):QJ :=
 match op with
 | .add=>FloatKind.f64.format.add x y
 | .sub=>FloatKind.f64.format.sub x y
 | .mul=>FloatKind.f64.format.mul x y
 | _=>FloatKind.f64.format.div x y
def bX(op:BinOp)(a b:QJ):QJ :=
 match a,b with
 | some x,some y=>(NA op x y).bind dO
 | _,_=>none
def vU(a b:QJ):Option Ordering :=
 match a,b with
 | some x,some y=>FloatKind.f64.format.order x y
 | _,_=>none
def L1(a b:QJ):Bool:=vU a b == some .eq
def LL(a b:QJ):Bool:=vU a b == some .lt
def NU(a b:QJ):Bool:=vU a b == some .gt
def OP(a b:QJ):Bool:=vU a b == some .lt || vU a b == some .eq
def OO(a b:QJ):Bool:=vU a b == some .gt || vU a b == some .eq
def pf(a:QJ):Option Int:=a.bind fun n=>(FloatKind.f64.decode n).toInt .zero
def ofInt(n:Int):QJ:=dO (FloatKind.f64.nearest n)
theorem se{n:Nat}(h:dO n=none):∃s t,FloatKind.f64.format.read n = .nan s t:=by
 unfold dO at h;split at h
 ·rename_i hn;unfold Ieee.Datum.isNaN FloatKind.decode at hn;cases hd:FloatKind.f64.format.read n with
  | nan s t=>exact⟨s,t,rfl⟩
  | number _ _ _=>rw[hd]at hn;cases hn
  | infinity _=>rw[hd]at hn;cases hn
 ·cases h
theorem ky{n m:Nat}(h:dO n=some m):m=n:=by
 unfold dO at h;split at h
 ·cases h
 ·exact(Option.some.inj h).symm
theorem FQ(x y:Nat):vU (dO x) (dO y)=FloatKind.f64.format.order x y:=by
 cases f:dO x with
 | none =>
  obtain⟨s,t,e⟩:=se f;simp only[vU,Ieee.Format.order,e];rfl
 | some a =>
  obtain rfl:=ky f;cases j:dO y with
  | none =>
   obtain⟨s,t,e⟩:=se j;simp only[vU,Ieee.Format.order,e];cases FloatKind.f64.format.read a <;> rfl
  | some b =>
   obtain rfl:=ky j;rfl
theorem G8(op:BinOp)(x y:Nat):bX op (dO x) (dO y)=(NA op x y).bind dO:=by
 cases f:dO x with
 | none =>
  obtain⟨s,t,e⟩:=se f;cases op <;> simp only[bX,NA,Ieee.Format.add,Ieee.Format.sub,Ieee.Format.mul,Ieee.Format.div,e] <;> rfl
 | some a =>
  obtain rfl:=ky f;cases j:dO y with
  | none =>
   obtain⟨s,t,e⟩:=se j;cases op <;> simp only[bX,NA,Ieee.Format.add,Ieee.Format.sub,Ieee.Format.mul,Ieee.Format.div,e] <;> cases FloatKind.f64.format.read a <;> rfl
  | some b =>
   obtain rfl:=ky j;rfl
theorem EH(n:Nat)(h:FloatKind.f64.format.infRung<n % FloatKind.f64.format.signWeight):dO n=none:=by
 have hb:FloatKind.f64.format.binade≤FloatKind.f64.format.infRung:=by decide
 unfold dO FloatKind.decode Ieee.Format.read;rw[if_pos];rw[if_neg (by omega),if_neg (by omega),if_neg (by omega)];rfl
theorem Kl(x y t:Nat):dO (Question.cut (.nanBits .f64 x y) t)=none:=by
 refine EH _ ?_;have f:FloatKind.f64.format.infRung=0x7ff0000000000000:=by decide
 have j:FloatKind.f64.format.signWeight=2 ^ 63:=by decide
 have q:Question.cut (.nanBits .f64 x y) t=t % 2*2 ^ 63+0x7ff0000000000000+1+t / 2 % (2 ^ 52 - 1):=rfl;rw[f,j,q];have u:t / 2 % (2 ^ 52 - 1)<2 ^ 52 - 1:=Nat.mod_lt _ (by decide);generalize t / 2 % (2 ^ 52 - 1)=r at u ⊢;rcases Nat.mod_two_eq_zero_or_one t with e | e <;> rw[e] <;> omega
section
variable{P:Program}{w:World}
theorem EU{op:BinOp}(f:op = .add∨op = .sub∨op = .mul∨op = .quo)(x y:Nat):
  ∃n e,(Op.floatArith op .f64 x y).run P w = .ok (.float .f64 n) e∧(e=w∨e=w.drew)∧dO n=bX op (dO x) (dO y):=by
 rw[G8];have key:∀(r:QJ),∃n e,(match r with
   | some r=>pure (.float .f64 r)
   | none=>do pure (.float .f64 (←choose (.nanBits .f64 x y))):Sem Value).run P w = .ok (.float .f64 n) e∧(e=w∨e=w.drew)∧dO n=r.bind dO:=fun r=>by
  cases r with
  | some r=>exact⟨r,w,rfl,.inl rfl,rfl⟩
  | none=>exact⟨_,w.drew,by simp only[Sem.run_bind,run_choose_drew,Question.forced];rfl,.inr rfl,Kl x y _⟩
 rcases f with rfl | rfl | rfl | rfl <;> exact key _
end
end Go.Tv
namespace Go.Tv
open Go Go.RowKit
inductive Tree where
 | node (op set:Int) (kids:List Tree)
abbrev XZ:=List Tree
def Tree.op:Tree→Int
 | .node o _ _=>o
def Tree.set:Tree→Int
 | .node _ s _=>s
def Tree.kids:Tree→XZ
 | .node _ _ e=>e
abbrev fG(n:Nat):= { e:QK // e.length=n }
def fR{n:Nat}(x:fG n)(i:Nat):Int:=x.1.getD i 0
def uh{n:Nat}(x:fG n)(i:Nat)(v:Int):fG n:=⟨x.1.set i v,by rw[List.length_set];exact x.2⟩
def dC(n:Nat):fG n:=⟨List.replicate n 0,List.length_replicate⟩
def JN{n:Nat}(x y:fG n):Bool:=x.1 == y.1
def LA(f j:IntKind)(q:Qq):Value:= .tuple (q.map fun p=>Value.tuple #[.int f p.1,.int j p.2]).toArray
inductive Ty where
 | int (k:IntKind)
 | bool
 | str
 | flt
 | unit
 | prod (a b:Ty)
 | slice (a:Ty)
 | ptr (a:Ty)
 | tree (k1 k2:IntKind)
 | arr (k:IntKind) (n:Nat)
 | mapi (k1 k2:IntKind)
 deriving DecidableEq
@[reducible] def Ty.den:Ty→Type
 | .int _=>Int
 | .bool=>Bool
 | .str=>QX
 | .flt=>QJ
 | .unit=>Unit
 | .prod a b=>a.den×b.den
 | .slice a=>List a.den
 | .ptr a=>Option a.den
 | .tree _ _=>Tree
 | .arr _ n=>fG n
 | .mapi _ _=>Qq
def Ty.size:Ty→Nat
 | .unit=>0
 | .prod a b=>a.size+b.size
 | .tree _ _=>3
 | .arr _ n=>n
 | _=>1
def Ty.scalar:Ty→Bool
 | .unit=>false
 | .prod _ _=>false
 | .tree _ _=>false
 | .arr _ _=>false
 | _=>true
def Ty.isRef:Ty→Bool
 | .slice _=>true
 | .ptr _=>true
 | .mapi _ _=>true
 | _=>false
def Ty.zero:(T:Ty)→T.den
 | .int _=>(0:Int)
 | .bool=>false
 | .str=>([]:QX)
 | .flt=>(some 0:QJ)
 | .unit=>()
 | .prod a b=>(a.zero,b.zero)
 | .slice a=>([]:List a.den)
 | .ptr a=>(none:Option a.den)
 | .tree _ _=>Tree.node 0 0 []
 | .arr _ n=>dC n
 | .mapi _ _=>([]:Qq)
theorem Ty.fT{T:Ty}(h:T.scalar=true):T.size=1:=by cases T <;> simp[Ty.scalar,Ty.size]at *
mutual
def gX(F:Addr→Value→Prop)(e f:IntKind):Tree→(Nat→Value→Prop)→Prop
 | .node o s j,g=>g 0 (.int e o)∧g 1 (.int f s)∧∃(q:Option Addr) (len cap:Nat),g 2 (.slice q len cap)∧(len=j.length∧len≤cap)∧fF F e f j (fun i k v=>∃b,q=some b∧F (b.add (i*3+k)) v)
def fF(F:Addr→Value→Prop)(e f:IntKind):XZ→(Nat→Nat→Value→Prop)→Prop
 | [],_=>True
 | t::u,G=>gX F e f t (G 0)∧fF F e f u (fun i=>G (i+1))
end
mutual
theorem gX.mono{F F':Addr→Value→Prop}{j z:IntKind}(B:∀a v,F a v→F' a v):∀ {t:Tree} {g g':Nat→Value→Prop},(∀k v,k<3→g k v→g' k v)→gX F j z t g→gX F' j z t g'
 | .node o s Y,g,g',D,h=>by simp only[gX]at h ⊢;obtain⟨J,L,ad,len,cap,M,N,O⟩:=h;exact⟨D _ _ (by decide) J,D _ _ (by decide) L,ad,len,cap,D _ _ (by decide) M,N,fF.mono B (fun i k v _ ⟨b,e,V⟩=>⟨b,e,B _ _ V⟩) O⟩
theorem fF.mono{F F':Addr→Value→Prop}{j z:IntKind}(B:∀a v,F a v→F' a v):∀ {ts:XZ} {G E:Nat→Nat→Value→Prop},(∀i k v,k<3→G i k v→E i k v)→fF F j z ts G→fF F' j z ts E
 | [],_,_,_,_=>by simp only[fF]
 | t::ts,G,E,I,h=>by simp only[fF]at h ⊢;exact⟨gX.mono B (I 0) h.1,fF.mono B (fun i=>I (i+1)) h.2⟩
end
theorem fF.get{F:Addr→Value→Prop}{j q:IntKind}:∀ {e:XZ} {G:Nat→Nat→Value→Prop},fF F j q e G→∀i (h:i<e.length),gX F j q e[i] (G i)
 | [],_,_,i,h=>absurd h (by simp)
 | t::e,G,f,0,_=>by simp only[fF]at f;exact f.1
 | t::e,G,f,i+1,h=>by simp only[fF]at f;exact fF.get f.2 i (by simpa using h)
theorem fF.mk{F:Addr→Value→Prop}{j q:IntKind}:∀ {e:XZ} {G:Nat→Nat→Value→Prop},(∀i (h:i<e.length),gX F j q e[i] (G i))→fF F j q e G
 | [],_,_=>by simp only[fF]
 | t::e,G,u=>by
  simp only[fF];exact⟨u 0 (by simp),fF.mk fun i h=>u (i+1) (by simpa using h)⟩
theorem gX.pull{F:Addr→Value→Prop}{f j:IntKind}{t:Tree}{q:Option Addr}{i:Nat}(h:gX F f j t (fun k v=>∃b,q=some b∧F (b.add (i*3+k)) v)):∃b,q=some b∧gX F f j t (fun k v=>F (b.add (i*3+k)) v):=by
 have h':=h;match t with
 | .node o s A =>
  simp only[gX]at h;obtain⟨⟨b,e,_⟩,_⟩:=h;refine⟨b,e,gX.mono (fun _ _ h=>h) (fun k v _ ⟨B,u,z⟩=>?_) h'⟩;rw[e]at u;cases u;exact z
def ai(F:Addr→Value→Prop):(T:Ty)→T.den→(Nat→Value→Prop)→Prop
 | .int k,n,g=>g 0 (.int k n)
 | .bool,b,g=>g 0 (.bool b)
 | .str,s,g=>g 0 (.string ⟨s.toArray⟩)
 | .flt,n,g=>∃m,g 0 (.float .f64 m)∧dO m=n
 | .unit,_,_=>True
 | .prod a b,x,g=>ai F a x.1 g∧ai F b x.2 (fun k v=>g (a.size+k) v)
 | .slice a,xs,g=>∃(ad:Option Addr) (len cap:Nat),g 0 (.slice ad len cap)∧(len=xs.length∧len≤cap) ∧
   ∀i (h:i<xs.length),∃b,ad=some b∧ai F a xs[i] (fun k v=>F (b.add (i*a.size+k)) v)
 | .ptr a,x,g=>match x with
  | none=>g 0 (.pointer none)
  | some y=>∃b:Addr,g 0 (.pointer (some b))∧ai F a y (fun k v=>F (b.add k) v)
 | .tree f j,t,g=>gX F f j t g
 | .arr k _,xs,g=>∀i (h:i<xs.1.length),g i (.int k xs.1[i])
 | .mapi f j,q,g=>∃r:QJ,g 0 (.map r)∧(match r with
  | none=>q=[]
  | some b=>F ⟨b,0,some 0⟩ (LA f j q)∧(q.map (·.1)).Nodup)
theorem ai.mono{F F':Addr→Value→Prop}(B:∀a v,F a v→F' a v):
  ∀ {T:Ty} {x:T.den} {g g':Nat→Value→Prop},(∀k v,g k v→g' k v)→ai F T x g→ai F' T x g'
 | .int _,_,_,_,j,h=>j _ _ h
 | .bool,_,_,_,j,h=>j _ _ h
 | .str,_,_,_,j,h=>j _ _ h
 | .flt,_,_,_,j,⟨m,h,e⟩=>⟨m,j _ _ h,e⟩
 | .unit,_,_,_,_,_=>trivial
 | .prod a b,x,_,_,j,h=>⟨ai.mono B (T:=a) j h.1,ai.mono B (T:=b) (fun k v z=>j _ v z) h.2⟩
 | .slice a,xs,_,_,j,⟨ad,len,cap,D,hl,h⟩=>⟨ad,len,cap,j _ _ D,hl,fun i hi =>
   let ⟨b,hb,z⟩:=h i hi
   ⟨b,hb,ai.mono B (T:=a) (fun _ v z=>B _ v z) z⟩⟩
 | .ptr a,none,_,_,j,h=>j _ _ h
 | .ptr a,some y,_,_,j,⟨b,D,z⟩=>⟨b,j _ _ D,ai.mono B (T:=a) (fun _ v z=>B _ v z) z⟩
 | .tree _ _,t,_,_,j,h=>gX.mono B (fun k v _=>j k v) h
 | .arr _ _,_,_,_,j,h=>fun i hi=>j _ _ (h i hi)
 | .mapi _ _,_,_,_,j,⟨none,D,h⟩=>⟨none,j _ _ D,h⟩
 | .mapi _ _,_,_,_,j,⟨some b,D,h,hd⟩=>⟨some b,j _ _ D,B _ _ h,hd⟩
inductive ag where
 | p (β:Bool) (T:Ty) (x:T.den)
 | nils
 | nilp
 | lit (v:Value)
 | sl (id:Nat)
 | adr (id idx sz off:Nat)
 | ada (id base n i:Nat)
 | fad (β:Bool) (cs:List ag) (off:Nat)
 | agg (cs:List ag)
 | tup (cs:List ag)
 | fn (f:Nat) (caps:List ag)
 | mp (id:Nat)
 | lag (k:IntKind) (n:Nat) (xs:fG n) (cs:List ag)
 | suf (id lo sz:Nat)
 | bfn (f:Nat) (cs:List ag)
 | loc (β:Bool) (T:Ty) (x:T.den)
 | unk
mutual
def V(F:Bool→Addr→Value→Prop)(ρ:Nat→QW):ag→Value→Prop
 | .p β T x,v=>T.scalar=true∧ai (F β) T x (fun _ u=>u=v)
 | .nils,v=>v = .slice none 0 0
 | .nilp,v=>v = .pointer none
 | .lit u,v=>v=u
 | .sl id,v=>ρ id=some v∧∃a n c,v = .slice a n c
 | .mp id,v=>ρ id=some v∧∃r,v = .map r
 | .adr id i sz off,v=>∃g,(ρ id=some (.pointer (some ⟨g,0,none⟩))∨∃n c,ρ id=some (.slice (some ⟨g,0,none⟩) n c))∧v = .pointer (some ⟨g,i*sz+off,none⟩)
 | .ada id base n i,v=>∃g,ρ id=some (.pointer (some ⟨g,0,none⟩))∧v = .pointer (some ⟨g,base+i,none⟩)∧i<n
 | .fad β cs off,v=>∃ad:Addr,v = .pointer (some (ad.add off))∧VL F ρ cs (fun k u=>F β (ad.add k) u)
 | .agg cs,v=>∃vs:QU,v = .agg vs∧vs.size=cs.length∧VL F ρ cs (fun k u=>vs[k]? = some u)
 | .tup cs,v=>∃vs:QU,v = .tuple vs∧vs.size=cs.length∧VL F ρ cs (fun k u=>vs[k]? = some u)
 | .fn f z,v=>∃vs:QU,v = .func (.func f) #[] vs∧vs.size=z.length∧VL F ρ z (fun k u=>vs[k]? = some u)
 | .lag k _ xs cs,v=>∃vs:QY,v = .agg (xs.1.map (Value.int k)++vs).toArray∧vs.length=cs.length∧VL F ρ cs (fun j u=>vs[j]? = some u)
 | .suf id lo sz,v=>∃ad n c,ρ id=some (.slice ad n c)∧lo≤n∧n≤c∧v = .slice (if c=lo then ad else ad.map (fun x=>x.add (lo*sz))) (n - lo) (c - lo)
 | .bfn f cs,v=>∃vs:QU,v = .func (.func f) vs #[]∧vs.size=cs.length∧VL F ρ cs (fun k u=>vs[k]? = some u)
 | .loc β T x,v=>∃ad:Addr,v = .pointer (some ad)∧ai (F β) T x (fun k u=>F β (ad.add k) u)
 | .unk,_=>True
def VL(F:Bool→Addr→Value→Prop)(ρ:Nat→QW):List ag→(Nat→Value→Prop)→Prop
 | [],_=>True
 | x::xs,g=>(∃u,g 0 u∧V F ρ x u)∧VL F ρ xs (fun k u=>g (k+1) u)
end
mutual
theorem V.mono{F F':Bool→Addr→Value→Prop}{ρ ρ':Nat→QW}(D:∀β a v,F β a v→F' β a v)(j:∀i u,ρ i=some u→ρ' i=some u):
  ∀ {x:ag} {v:Value},V F ρ x v→V F' ρ' x v
 | .p _ _ _,_,h=>by
  simp only[V]at h ⊢;exact⟨h.1,ai.mono (D _) (fun _ _ h=>h) h.2⟩
 | .nils,_,h=>by simpa only [V]using h
 | .nilp,_,h=>by simpa only [V]using h
 | .lit _,_,h=>by simpa only [V]using h
 | .sl _,_,h=>by simp only[V]at h ⊢;exact⟨j _ _ h.1,h.2⟩
 | .mp _,_,h=>by simp only[V]at h ⊢;exact⟨j _ _ h.1,h.2⟩
 | .adr _ _ _ _,_,h=>by
  simp only[V]at h ⊢;obtain⟨g,z,B⟩:=h;exact⟨g,z.imp (j _ _) (fun⟨n,c,h⟩=>⟨n,c,j _ _ h⟩),B⟩
 | .ada _ _ _ _,_,h=>by
  simp only[V]at h ⊢;obtain⟨g,z,B⟩:=h;exact⟨g,j _ _ z,B⟩
 | .fad _ cs _,_,h=>by
  simp only[V]at h ⊢;obtain⟨ad,z,B⟩:=h;exact⟨ad,z,VL.mono D j (fun _ _ h=>D _ _ _ h) B⟩
 | .agg cs,_,h=>by
  simp only[V]at h ⊢;obtain⟨vs,z,B,E⟩:=h;exact⟨vs,z,B,VL.mono D j (fun _ _ h=>h) E⟩
 | .tup cs,_,h=>by
  simp only[V]at h ⊢;obtain⟨vs,z,B,E⟩:=h;exact⟨vs,z,B,VL.mono D j (fun _ _ h=>h) E⟩
 | .fn _ cs,_,h=>by
  simp only[V]at h ⊢;obtain⟨vs,z,B,E⟩:=h;exact⟨vs,z,B,VL.mono D j (fun _ _ h=>h) E⟩
 | .lag _ _ _ cs,_,h=>by
  simp only[V]at h ⊢;obtain⟨vs,z,B,E⟩:=h;exact⟨vs,z,B,VL.mono D j (fun _ _ h=>h) E⟩
 | .suf _ _ _,_,h=>by
  simp only[V]at h ⊢;obtain⟨ad,n,c,z,B⟩:=h;exact⟨ad,n,c,j _ _ z,B⟩
 | .bfn _ cs,_,h=>by
  simp only[V]at h ⊢;obtain⟨vs,z,B,E⟩:=h;exact⟨vs,z,B,VL.mono D j (fun _ _ h=>h) E⟩
 | .loc β _ _,_,h=>by
  simp only[V]at h ⊢;obtain⟨ad,z,B⟩:=h;exact⟨ad,z,ai.mono (D _) (fun _ _ h=>D _ _ _ h) B⟩
 | .unk,_,_=>by simp only[V]
theorem VL.mono{F F':Bool→Addr→Value→Prop}{ρ ρ':Nat→QW}(D:∀β a v,F β a v→F' β a v)(j:∀i u,ρ i=some u→ρ' i=some u):
  ∀ {xs:List ag} {g g':Nat→Value→Prop},(∀k u,g k u→g' k u)→VL F ρ xs g→VL F' ρ' xs g'
 | [],_,_,_,_=>by simp only[VL]
 | x::xs,_,_,I,h=>by simp only[VL]at h ⊢;obtain⟨⟨u,z,B⟩,E⟩:=h;exact⟨⟨u,I _ _ z,V.mono D j B⟩,VL.mono D j (fun _ _ h=>I _ _ h) E⟩
end
section
variable{F:Bool→Addr→Value→Prop}{ρ:Nat→QW}
theorem VL.get:∀ {xs:List ag} {g:Nat→Value→Prop},VL F ρ xs g→∀ {k:Nat} {x:ag},xs[k]? = some x→∃u,g k u∧V F ρ x u
 | [],_,_,_,_,hk=>by simp at hk
 | y::e,g,h,0,x,hk=>by
  simp only[VL]at h;simp at hk;subst hk;exact h.1
 | y::e,g,h,k+1,x,hk=>by
  simp only[VL]at h;exact VL.get h.2 (by simpa using hk)
theorem VL.mk:∀ {xs:List ag} {g:Nat→Value→Prop},(∀k x,xs[k]? = some x→∃u,g k u∧V F ρ x u)→VL F ρ xs g
 | [],_,_=>by simp only[VL]
 | y::e,g,h=>by
  simp only[VL];exact⟨h 0 y (by simp),VL.mk fun k x hk=>h (k+1) x (by simpa using hk)⟩
theorem VL.append{xs ys:List ag}{g:Nat→Value→Prop}(e:VL F ρ xs g)(j:VL F ρ ys (fun k u=>g (xs.length+k) u)):VL F ρ (xs++ys) g:=by
 refine VL.mk fun k x hk=>?_
 rcases Nat.lt_or_ge k xs.length with h | h
 ·rw[List.getElem?_append_left h]at hk;exact VL.get e hk
 ·rw[List.getElem?_append_right h]at hk;obtain⟨u,a,b⟩:=VL.get j hk;exact⟨u,by rwa [Nat.add_sub_cancel' h]at a,b⟩
end
def flat(β:Bool):(T:Ty)→T.den→List ag
 | .unit,_=>[]
 | .prod a b,x=>flat β a x.1++flat β b x.2
 | .int k,n=>[.p false (.int k) n]
 | .bool,n=>[.p false .bool n]
 | .str,n=>[.p false .str n]
 | .flt,n=>[.p false .flt n]
 | .slice a,n=>[.p β (.slice a) n]
 | .ptr a,n=>[.p β (.ptr a) n]
 | .tree e f,t=>[.p false (.int e) t.op,.p false (.int f) t.set,.p β (.slice (.tree e f)) t.kids]
 | .arr k _,j=>j.1.map fun i=> .p false (.int k) i
 | .mapi e f,q=>[.p β (.mapi e f) q]
theorem eW(β:Bool):∀(T:Ty) (x:T.den),(flat β T x).length=T.size
 | .unit,_=>rfl
 | .prod a b,x=>by simp[flat,Ty.size,eW β a,eW β b]
 | .int _,_=>rfl
 | .bool,_=>rfl
 | .str,_=>rfl
 | .flt,_=>rfl
 | .slice _,_=>rfl
 | .ptr _,_=>rfl
 | .tree _ _,_=>rfl
 | .arr _ _,x=>by simp[flat,Ty.size,x.2]
 | .mapi _ _,_=>rfl
theorem jX{F:Bool→Addr→Value→Prop}{ρ:Nat→QW}(β:Bool):∀(T:Ty) (x:T.den) (g:Nat→Value→Prop),ai (F β) T x g→VL F ρ (flat β T x) g
 | .unit,_,_,_=>by simp only[flat,VL]
 | .prod a b,x,g,h=>by
  simp only[flat];exact VL.append (jX β a _ _ h.1) (by rw[eW];exact jX β b _ _ h.2)
 | .int k,n,g,h=>by simp only[flat,VL,V];exact⟨⟨_,h,rfl,rfl⟩,trivial⟩
 | .bool,n,g,h=>by simp only[flat,VL,V];exact⟨⟨_,h,rfl,rfl⟩,trivial⟩
 | .str,n,g,h=>by simp only[flat,VL,V];exact⟨⟨_,h,rfl,rfl⟩,trivial⟩
 | .flt,n,g,⟨m,h,e⟩=>by simp only[flat,VL,V];exact⟨⟨_,h,rfl,m,rfl,e⟩,trivial⟩
 | .slice a,n,g,⟨ad,len,cap,j,f,u⟩=>by simp only[flat,VL,V];exact⟨⟨_,j,rfl,⟨ad,len,cap,rfl,f,u⟩⟩,trivial⟩
 | .ptr a,none,g,h=>by simp only[flat,VL,V];exact⟨⟨_,h,rfl,rfl⟩,trivial⟩
 | .ptr a,some y,g,⟨b,j,f⟩=>by simp only[flat,VL,V];exact⟨⟨_,j,rfl,⟨b,rfl,f⟩⟩,trivial⟩
 | .tree D E,.node o s I,g,h=>by
  simp only[ai,gX]at h;obtain⟨f,u,ad,len,cap,z,B,C⟩:=h;simp only[flat,VL,V,Tree.op,Tree.set,Tree.kids];exact⟨⟨_,f,rfl,rfl⟩,⟨_,u,rfl,rfl⟩,⟨_,z,rfl,⟨ad,len,cap,rfl,B,fun i hi=>(fF.get C i hi).pull⟩⟩,trivial⟩
 | .arr k n,x,g,h=>by
  simp only[flat];refine VL.mk fun i y q=>?_
  rw[List.getElem?_map]at q;rcases Nat.lt_or_ge i x.1.length with hi | hi
  ·rw[List.getElem?_eq_getElem hi]at q;cases q;exact⟨_,h i hi,by simp only[V,ai];exact⟨rfl,trivial⟩⟩
  ·rw[List.getElem?_eq_none hi]at q;cases q
 | .mapi _ _,_,g,⟨r,j,f⟩=>by simp only[flat,VL,V];exact⟨⟨_,j,rfl,⟨r,rfl,f⟩⟩,trivial⟩
def Gj(k:IntKind):List ag→Option QK
 | []=>some []
 | .p _ (.int e) x::r=>if e=k then(match Gj k r with
  | some l=>some (x::l)
  | none=>none)else none
 | _=>none
theorem uY{F:Bool→Addr→Value→Prop}{ρ:Nat→QW}{k:IntKind}:∀ {j:List ag} {l:QK},Gj k j=some l→l.length=j.length∧∀ {g:Nat→Value→Prop},VL F ρ j g→∀i (h:i<l.length),g i (.int k l[i])
 | [],l,h=>by
  cases h;exact⟨rfl,fun _ i hi=>absurd hi (by simp)⟩
 | c::r,l,h=>by
  unfold Gj at h;split at h
  ·rename_i e;cases e
  ·rename_i β D x E e;cases e;split at h
   ·rename_i z;subst z;split at h
    ·rename_i I A;cases h;obtain⟨B,C⟩:=uY A;refine⟨by simp[B],fun {g} f i hi=>?_⟩;simp only[VL]at f;obtain⟨⟨u,q,v⟩,f⟩:=f;cases i with
     | zero =>
      simp only[V,ai]at v;rw[←v.2]at q;exact q
     | succ i=>exact C f i (by simpa using hi)
    ·cases h
   ·cases h
  ·cases h
def LD(T:Ty):ag→Option T.den
 | .p β S x=>if h:S=T then(if S.isRef && β then none else some (h ▸ x))else none
 | .nils=>match T with
  | .slice _=>some []
  | _=>none
 | .nilp=>match T with
  | .ptr _=>some none
  | _=>none
 | .lit (.map none)=>match T with
  | .mapi _ _=>some []
  | _=>none
 | _=>none
def one(T:Ty):List ag→Option (T.den×List ag)
 | c::e=>match LD T c with
  | some x=>some (x,e)
  | none=>none
 | []=>none
def iO:(T:Ty)→List ag→Option (T.den×List ag)
 | .unit,e=>some ((),e)
 | .prod a b,e=>match iO a e with
  | some (x,e)=>match iO b e with
   | some (y,e)=>some ((x,y),e)
   | none=>none
  | none=>none
 | .int k,e=>one (.int k) e
 | .bool,e=>one .bool e
 | .str,e=>one .str e
 | .flt,e=>one .flt e
 | .slice a,e=>one (.slice a) e
 | .ptr a,e=>one (.ptr a) e
 | .tree f j,e=>match one (.int f) e with
  | some (o,e)=>match one (.int j) e with
   | some (s,e)=>match one (.slice (.tree f j)) e with
    | some (q,e)=>some (Tree.node o s q,e)
    | none=>none
   | none=>none
  | none=>none
 | .arr k n,e=>match Gj k (e.take n)with
  | some l=>if h:l.length=n then some (⟨l,h⟩,e.drop n)else none
  | none=>none
 | .mapi f j,e=>one (.mapi f j) e
end Go.Tv
