import GoSem.Claims
import Derived.WalkKit
import Derived.Below
namespace Go
abbrev Qx:=List (Int×Int×Int)
abbrev Qq:=List (Int×Int)
abbrev QU:=Array Value
abbrev QY:=List Value
abbrev QW:=Option Value
abbrev QV:=List Nat
abbrev QJ:=Option Nat
abbrev QK:=List Int
abbrev QZ:=List QK
abbrev QX:=List UInt8
abbrev QQ:=List QX
end Go
namespace Go.Tv
open Go
def eD(n:Nat):QJ:=if(FloatKind.f64.decode n).isNaN then none else some n
def Mi(op:BinOp)(x y:Nat):QJ :=
 match op with
 | .add=>FloatKind.f64.format.add x y
 | .sub=>FloatKind.f64.format.sub x y
 | .mul=>FloatKind.f64.format.mul x y
 | _=>FloatKind.f64.format.div x y
def bR(op:BinOp)(a b:QJ):QJ :=
 match a,b with
 | some x,some y=>(Mi op x y).bind eD
 | _,_=>none
def uM(a b:QJ):Option Ordering :=
 match a,b with
 | some x,some y=>FloatKind.f64.format.order x y
 | _,_=>none
def Lf(a b:QJ):Bool:=uM a b == some .eq
def KQ(a b:QJ):Bool:=uM a b == some .lt
def Md(a b:QJ):Bool:=uM a b == some .gt
def Nf(a b:QJ):Bool:=uM a b == some .lt || uM a b == some .eq
def No(a b:QJ):Bool:=uM a b == some .gt || uM a b == some .eq
def ox(a:QJ):Option Int:=a.bind fun n=>(FloatKind.f64.decode n).toInt .zero
def ofInt(n:Int):QJ:=eD (FloatKind.f64.nearest n)
theorem qX{n:Nat}(h:eD n=none):∃s t,FloatKind.f64.format.read n = .nan s t:=by
 unfold eD at h;split at h
 ·rename_i hn;unfold Ieee.Datum.isNaN FloatKind.decode at hn;cases hd:FloatKind.f64.format.read n with
  | nan s t=>exact⟨s,t,rfl⟩
  | number _ _ _=>rw[hd]at hn;cases hn
  | infinity _=>rw[hd]at hn;cases hn
 ·cases h
theorem j5{n m:Nat}(h:eD n=some m):m=n:=by
 unfold eD at h;split at h
 ·cases h
 ·exact(Option.some.inj h).symm
theorem DU(x y:Nat):uM (eD x) (eD y)=FloatKind.f64.format.order x y:=by
 cases f:eD x with
 | none =>
  obtain⟨s,t,e⟩:=qX f;simp only[uM,Ieee.Format.order,e];rfl
 | some a =>
  obtain rfl:=j5 f;cases j:eD y with
  | none =>
   obtain⟨s,t,e⟩:=qX j;simp only[uM,Ieee.Format.order,e];cases FloatKind.f64.format.read a <;> rfl
  | some b =>
   obtain rfl:=j5 j;rfl
theorem Ft(op:BinOp)(x y:Nat):bR op (eD x) (eD y)=(Mi op x y).bind eD:=by
 cases f:eD x with
 | none =>
  obtain⟨s,t,e⟩:=qX f;cases op <;> simp only[bR,Mi,Ieee.Format.add,Ieee.Format.sub,Ieee.Format.mul,Ieee.Format.div,e] <;> rfl
 | some a =>
  obtain rfl:=j5 f;cases j:eD y with
  | none =>
   obtain⟨s,t,e⟩:=qX j;cases op <;> simp only[bR,Mi,Ieee.Format.add,Ieee.Format.sub,Ieee.Format.mul,Ieee.Format.div,e] <;> cases FloatKind.f64.format.read a <;> rfl
  | some b =>
   obtain rfl:=j5 j;rfl
theorem Du(n:Nat)(h:FloatKind.f64.format.infRung<n % FloatKind.f64.format.signWeight):eD n=none:=by
 have hb:FloatKind.f64.format.binade≤FloatKind.f64.format.infRung:=by decide
 unfold eD FloatKind.decode Ieee.Format.read;rw[if_pos];rw[if_neg (by omega),if_neg (by omega),if_neg (by omega)];rfl
theorem Jh(x y t:Nat):eD (Question.cut (.nanBits .f64 x y) t)=none:=by
 refine Du _ ?_;have f:FloatKind.f64.format.infRung=0x7ff0000000000000:=by decide
 have j:FloatKind.f64.format.signWeight=2 ^ 63:=by decide
 have p:Question.cut (.nanBits .f64 x y) t=t % 2*2 ^ 63+0x7ff0000000000000+1+t / 2 % (2 ^ 52 - 1):=rfl;rw[f,j,p];have q:t / 2 % (2 ^ 52 - 1)<2 ^ 52 - 1:=Nat.mod_lt _ (by decide);generalize t / 2 % (2 ^ 52 - 1)=r at q ⊢;rcases Nat.mod_two_eq_zero_or_one t with e | e <;> rw[e] <;> omega
section
variable{P:Program}{w:World}
theorem Dv{op:BinOp}(ho:op = .add∨op = .sub∨op = .mul∨op = .quo)(x y:Nat):
  ∃n f,(Op.floatArith op .f64 x y).run P w = .ok (.float .f64 n) f∧(f=w∨f=w.drew)∧eD n=bR op (eD x) (eD y):=by
 rw[Ft];have key:∀(r:QJ),∃n f,(match r with
   | some r=>pure (.float .f64 r)
   | none=>do pure (.float .f64 (←choose (.nanBits .f64 x y))):Sem Value).run P w = .ok (.float .f64 n) f∧(f=w∨f=w.drew)∧eD n=r.bind eD:=fun r=>by
  cases r with
  | some r=>exact⟨r,w,rfl,.inl rfl,rfl⟩
  | none=>exact⟨_,w.drew,by simp only[Sem.run_bind,run_choose_drew,Question.forced];rfl,.inr rfl,Jh x y _⟩
 rcases ho with rfl | rfl | rfl | rfl <;> exact key _
end
end Go.Tv
namespace Go.Tv
open Go Go.RowKit
inductive Tree where
 | node (op set:Int) (kids:List Tree)
abbrev XZ:=List Tree
def Tree.op:Tree→Int
 | .node o _ _=>o
def Tree.set:Tree→Int
 | .node _ s _=>s
def Tree.kids:Tree→XZ
 | .node _ _ f=>f
abbrev ff(n:Nat):= { f:QK // f.length=n }
def fE{n:Nat}(x:ff n)(i:Nat):Int:=x.1.getD i 0
def sf{n:Nat}(x:ff n)(i:Nat)(v:Int):ff n:=⟨x.1.set i v,by rw[List.length_set];exact x.2⟩
def dq(n:Nat):ff n:=⟨List.replicate n 0,List.length_replicate⟩
def Im{n:Nat}(x y:ff n):Bool:=x.1 == y.1
def Kp(f j:IntKind)(q:Qq):Value:= .tuple (q.map fun p=>Value.tuple #[.int f p.1,.int j p.2]).toArray
inductive Ty where
 | int (k:IntKind)
 | bool
 | str
 | flt
 | unit
 | prod (a b:Ty)
 | slice (a:Ty)
 | ptr (a:Ty)
 | tree (k1 k2:IntKind)
 | arr (k:IntKind) (n:Nat)
 | mapi (k1 k2:IntKind)
 deriving DecidableEq
@[reducible] def Ty.den:Ty→Type
 | .int _=>Int
 | .bool=>Bool
 | .str=>QX
 | .flt=>QJ
 | .unit=>Unit
 | .prod a b=>a.den×b.den
 | .slice a=>List a.den
 | .ptr a=>Option a.den
 | .tree _ _=>Tree
 | .arr _ n=>ff n
 | .mapi _ _=>Qq
def Ty.size:Ty→Nat
 | .unit=>0
 | .prod a b=>a.size+b.size
 | .tree _ _=>3
 | .arr _ n=>n
 | _=>1
def Ty.scalar:Ty→Bool
 | .unit=>false
 | .prod _ _=>false
 | .tree _ _=>false
 | .arr _ _=>false
 | _=>true
def Ty.isRef:Ty→Bool
 | .slice _=>true
 | .ptr _=>true
 | .mapi _ _=>true
 | _=>false
def Ty.zero:(T:Ty)→T.den
 | .int _=>(0:Int)
 | .bool=>false
 | .str=>([]:QX)
 | .flt=>(some 0:QJ)
 | .unit=>()
 | .prod a b=>(a.zero,b.zero)
 | .slice a=>([]:List a.den)
 | .ptr a=>(none:Option a.den)
 | .tree _ _=>Tree.node 0 0 []
 | .arr _ n=>dq n
 | .mapi _ _=>([]:Qq)
theorem Ty.fF{T:Ty}(h:T.scalar=true):T.size=1:=by cases T <;> simp[Ty.scalar,Ty.size]at *
mutual
def gy(F:Addr→Value→Prop)(f j:IntKind):Tree→(Nat→Value→Prop)→Prop
 | .node o s p,g=>g 0 (.int f o)∧g 1 (.int j s)∧∃(q:Option Addr) (len cap:Nat),g 2 (.slice q len cap)∧(len=p.length∧len≤cap)∧eY F f j p (fun i k v=>∃b,q=some b∧F (b.add (i*3+k)) v)
def eY(F:Addr→Value→Prop)(f j:IntKind):XZ→(Nat→Nat→Value→Prop)→Prop
 | [],_=>True
 | t::u,G=>gy F f j t (G 0)∧eY F f j u (fun i=>G (i+1))
end
mutual
theorem gy.mono{F F':Addr→Value→Prop}{j z:IntKind}(B:∀a v,F a v→F' a v):∀ {t:Tree} {g g':Nat→Value→Prop},(∀k v,k<3→g k v→g' k v)→gy F j z t g→gy F' j z t g'
 | .node o s O,g,g',D,h=>by simp only[gy]at h ⊢;obtain⟨h1,h2,ad,len,cap,J,L,M⟩:=h;exact⟨D _ _ (by decide) h1,D _ _ (by decide) h2,ad,len,cap,D _ _ (by decide) J,L,eY.mono B (fun i k v _ ⟨b,e,N⟩=>⟨b,e,B _ _ N⟩) M⟩
theorem eY.mono{F F':Addr→Value→Prop}{j z:IntKind}(B:∀a v,F a v→F' a v):∀ {ts:XZ} {G E:Nat→Nat→Value→Prop},(∀i k v,k<3→G i k v→E i k v)→eY F j z ts G→eY F' j z ts E
 | [],_,_,_,_=>by simp only[eY]
 | t::ts,G,E,I,h=>by simp only[eY]at h ⊢;exact⟨gy.mono B (I 0) h.1,eY.mono B (fun i=>I (i+1)) h.2⟩
end
theorem eY.get{F:Addr→Value→Prop}{q u:IntKind}:∀ {f:XZ} {G:Nat→Nat→Value→Prop},eY F q u f G→∀i (h:i<f.length),gy F q u f[i] (G i)
 | [],_,_,i,h=>absurd h (by simp)
 | t::f,G,j,0,_=>by simp only[eY]at j;exact j.1
 | t::f,G,j,i+1,h=>by simp only[eY]at j;exact eY.get j.2 i (by simpa using h)
theorem eY.mk{F:Addr→Value→Prop}{q u:IntKind}:∀ {j:XZ} {G:Nat→Nat→Value→Prop},(∀i (h:i<j.length),gy F q u j[i] (G i))→eY F q u j G
 | [],_,_=>by simp only[eY]
 | t::j,G,x=>by
  simp only[eY];exact⟨x 0 (by simp),eY.mk fun i h=>x (i+1) (by simpa using h)⟩
theorem gy.pull{F:Addr→Value→Prop}{f j:IntKind}{t:Tree}{p:Option Addr}{i:Nat}(h:gy F f j t (fun k v=>∃b,p=some b∧F (b.add (i*3+k)) v)):∃b,p=some b∧gy F f j t (fun k v=>F (b.add (i*3+k)) v):=by
 have h':=h;match t with
 | .node o s x =>
  simp only[gy]at h;obtain⟨⟨b,e,_⟩,_⟩:=h;refine⟨b,e,gy.mono (fun _ _ h=>h) (fun k v _ ⟨z,q,u⟩=>?_) h'⟩;rw[e]at q;cases q;exact u
def ah(F:Addr→Value→Prop):(T:Ty)→T.den→(Nat→Value→Prop)→Prop
 | .int k,n,g=>g 0 (.int k n)
 | .bool,b,g=>g 0 (.bool b)
 | .str,s,g=>g 0 (.string ⟨s.toArray⟩)
 | .flt,n,g=>∃m,g 0 (.float .f64 m)∧eD m=n
 | .unit,_,_=>True
 | .prod a b,x,g=>ah F a x.1 g∧ah F b x.2 (fun k v=>g (a.size+k) v)
 | .slice a,xs,g=>∃(ad:Option Addr) (len cap:Nat),g 0 (.slice ad len cap)∧(len=xs.length∧len≤cap) ∧
   ∀i (h:i<xs.length),∃b,ad=some b∧ah F a xs[i] (fun k v=>F (b.add (i*a.size+k)) v)
 | .ptr a,x,g=>match x with
  | none=>g 0 (.pointer none)
  | some y=>∃b:Addr,g 0 (.pointer (some b))∧ah F a y (fun k v=>F (b.add k) v)
 | .tree f j,t,g=>gy F f j t g
 | .arr k _,xs,g=>∀i (h:i<xs.1.length),g i (.int k xs.1[i])
 | .mapi f j,q,g=>∃r:QJ,g 0 (.map r)∧(match r with
  | none=>q=[]
  | some b=>F ⟨b,0,some 0⟩ (Kp f j q)∧(q.map (·.1)).Nodup)
theorem ah.mono{F F':Addr→Value→Prop}(B:∀a v,F a v→F' a v):
  ∀ {T:Ty} {x:T.den} {g g':Nat→Value→Prop},(∀k v,g k v→g' k v)→ah F T x g→ah F' T x g'
 | .int _,_,_,_,j,h=>j _ _ h
 | .bool,_,_,_,j,h=>j _ _ h
 | .str,_,_,_,j,h=>j _ _ h
 | .flt,_,_,_,j,⟨m,h,e⟩=>⟨m,j _ _ h,e⟩
 | .unit,_,_,_,_,_=>trivial
 | .prod a b,x,_,_,j,h=>⟨ah.mono B (T:=a) j h.1,ah.mono B (T:=b) (fun k v z=>j _ v z) h.2⟩
 | .slice a,xs,_,_,j,⟨ad,len,cap,D,hl,h⟩=>⟨ad,len,cap,j _ _ D,hl,fun i hi =>
   let ⟨b,hb,z⟩:=h i hi
   ⟨b,hb,ah.mono B (T:=a) (fun _ v z=>B _ v z) z⟩⟩
 | .ptr a,none,_,_,j,h=>j _ _ h
 | .ptr a,some y,_,_,j,⟨b,D,z⟩=>⟨b,j _ _ D,ah.mono B (T:=a) (fun _ v z=>B _ v z) z⟩
 | .tree _ _,t,_,_,j,h=>gy.mono B (fun k v _=>j k v) h
 | .arr _ _,_,_,_,j,h=>fun i hi=>j _ _ (h i hi)
 | .mapi _ _,_,_,_,j,⟨none,D,h⟩=>⟨none,j _ _ D,h⟩
 | .mapi _ _,_,_,_,j,⟨some b,D,h,hd⟩=>⟨some b,j _ _ D,B _ _ h,hd⟩
inductive af where
 | p (β:Bool) (T:Ty) (x:T.den)
 | nils
 | nilp
 | lit (v:Value)
 | sl (id:Nat)
 | adr (id idx sz off:Nat)
 | ada (id base n i:Nat)
 | fad (β:Bool) (cs:List af) (off:Nat)
 | agg (cs:List af)
 | tup (cs:List af)
 | fn (f:Nat) (caps:List af)
 | mp (id:Nat)
 | lag (k:IntKind) (n:Nat) (xs:ff n) (cs:List af)
 | suf (id lo sz:Nat)
 | bfn (f:Nat) (cs:List af)
 | loc (β:Bool) (T:Ty) (x:T.den)
 | unk
mutual
def V(F:Bool→Addr→Value→Prop)(ρ:Nat→QW):af→Value→Prop
 | .p β T x,v=>T.scalar=true∧ah (F β) T x (fun _ u=>u=v)
 | .nils,v=>v = .slice none 0 0
 | .nilp,v=>v = .pointer none
 | .lit u,v=>v=u
 | .sl id,v=>ρ id=some v∧∃a n c,v = .slice a n c
 | .mp id,v=>ρ id=some v∧∃r,v = .map r
 | .adr id i sz off,v=>∃g,(ρ id=some (.pointer (some ⟨g,0,none⟩))∨∃n c,ρ id=some (.slice (some ⟨g,0,none⟩) n c))∧v = .pointer (some ⟨g,i*sz+off,none⟩)
 | .ada id base n i,v=>∃g,ρ id=some (.pointer (some ⟨g,0,none⟩))∧v = .pointer (some ⟨g,base+i,none⟩)∧i<n
 | .fad β cs off,v=>∃ad:Addr,v = .pointer (some (ad.add off))∧VL F ρ cs (fun k u=>F β (ad.add k) u)
 | .agg cs,v=>∃vs:QU,v = .agg vs∧vs.size=cs.length∧VL F ρ cs (fun k u=>vs[k]? = some u)
 | .tup cs,v=>∃vs:QU,v = .tuple vs∧vs.size=cs.length∧VL F ρ cs (fun k u=>vs[k]? = some u)
 | .fn f z,v=>∃vs:QU,v = .func (.func f) #[] vs∧vs.size=z.length∧VL F ρ z (fun k u=>vs[k]? = some u)
 | .lag k _ xs cs,v=>∃vs:QY,v = .agg (xs.1.map (Value.int k)++vs).toArray∧vs.length=cs.length∧VL F ρ cs (fun j u=>vs[j]? = some u)
 | .suf id lo sz,v=>∃ad n c,ρ id=some (.slice ad n c)∧lo≤n∧n≤c∧v = .slice (if c=lo then ad else ad.map (fun x=>x.add (lo*sz))) (n - lo) (c - lo)
 | .bfn f cs,v=>∃vs:QU,v = .func (.func f) vs #[]∧vs.size=cs.length∧VL F ρ cs (fun k u=>vs[k]? = some u)
 | .loc β T x,v=>∃ad:Addr,v = .pointer (some ad)∧ah (F β) T x (fun k u=>F β (ad.add k) u)
 | .unk,_=>True
def VL(F:Bool→Addr→Value→Prop)(ρ:Nat→QW):List af→(Nat→Value→Prop)→Prop
 | [],_=>True
 | x::xs,g=>(∃u,g 0 u∧V F ρ x u)∧VL F ρ xs (fun k u=>g (k+1) u)
end
mutual
theorem V.mono{F F':Bool→Addr→Value→Prop}{ρ ρ':Nat→QW}(z:∀β a v,F β a v→F' β a v)(j:∀i u,ρ i=some u→ρ' i=some u):
  ∀ {x:af} {v:Value},V F ρ x v→V F' ρ' x v
 | .p _ _ _,_,h=>by
  simp only[V]at h ⊢;exact⟨h.1,ah.mono (z _) (fun _ _ h=>h) h.2⟩
 | .nils,_,h=>by simpa only [V]using h
 | .nilp,_,h=>by simpa only [V]using h
 | .lit _,_,h=>by simpa only [V]using h
 | .sl _,_,h=>by simp only[V]at h ⊢;exact⟨j _ _ h.1,h.2⟩
 | .mp _,_,h=>by simp only[V]at h ⊢;exact⟨j _ _ h.1,h.2⟩
 | .adr _ _ _ _,_,h=>by
  simp only[V]at h ⊢;obtain⟨g,h1,h2⟩:=h;exact⟨g,h1.imp (j _ _) (fun⟨n,c,h⟩=>⟨n,c,j _ _ h⟩),h2⟩
 | .ada _ _ _ _,_,h=>by
  simp only[V]at h ⊢;obtain⟨g,h1,h2⟩:=h;exact⟨g,j _ _ h1,h2⟩
 | .fad _ cs _,_,h=>by
  simp only[V]at h ⊢;obtain⟨ad,h1,h2⟩:=h;exact⟨ad,h1,VL.mono z j (fun _ _ h=>z _ _ _ h) h2⟩
 | .agg cs,_,h=>by
  simp only[V]at h ⊢;obtain⟨vs,h1,h2,B⟩:=h;exact⟨vs,h1,h2,VL.mono z j (fun _ _ h=>h) B⟩
 | .tup cs,_,h=>by
  simp only[V]at h ⊢;obtain⟨vs,h1,h2,B⟩:=h;exact⟨vs,h1,h2,VL.mono z j (fun _ _ h=>h) B⟩
 | .fn _ cs,_,h=>by
  simp only[V]at h ⊢;obtain⟨vs,h1,h2,B⟩:=h;exact⟨vs,h1,h2,VL.mono z j (fun _ _ h=>h) B⟩
 | .lag _ _ _ cs,_,h=>by
  simp only[V]at h ⊢;obtain⟨vs,h1,h2,B⟩:=h;exact⟨vs,h1,h2,VL.mono z j (fun _ _ h=>h) B⟩
 | .suf _ _ _,_,h=>by
  simp only[V]at h ⊢;obtain⟨ad,n,c,h1,h2⟩:=h;exact⟨ad,n,c,j _ _ h1,h2⟩
 | .bfn _ cs,_,h=>by
  simp only[V]at h ⊢;obtain⟨vs,h1,h2,B⟩:=h;exact⟨vs,h1,h2,VL.mono z j (fun _ _ h=>h) B⟩
 | .loc β _ _,_,h=>by
  simp only[V]at h ⊢;obtain⟨ad,h1,h2⟩:=h;exact⟨ad,h1,ah.mono (z _) (fun _ _ h=>z _ _ _ h) h2⟩
 | .unk,_,_=>by simp only[V]
theorem VL.mono{F F':Bool→Addr→Value→Prop}{ρ ρ':Nat→QW}(z:∀β a v,F β a v→F' β a v)(j:∀i u,ρ i=some u→ρ' i=some u):
  ∀ {xs:List af} {g g':Nat→Value→Prop},(∀k u,g k u→g' k u)→VL F ρ xs g→VL F' ρ' xs g'
 | [],_,_,_,_=>by simp only[VL]
 | x::xs,_,_,D,h=>by simp only[VL]at h ⊢;obtain⟨⟨u,h1,h2⟩,B⟩:=h;exact⟨⟨u,D _ _ h1,V.mono z j h2⟩,VL.mono z j (fun _ _ h=>D _ _ h) B⟩
end
section
variable{F:Bool→Addr→Value→Prop}{ρ:Nat→QW}
theorem VL.get:∀ {xs:List af} {g:Nat→Value→Prop},VL F ρ xs g→∀ {k:Nat} {x:af},xs[k]? = some x→∃u,g k u∧V F ρ x u
 | [],_,_,_,_,hk=>by simp at hk
 | y::j,g,h,0,x,hk=>by
  simp only[VL]at h;simp at hk;subst hk;exact h.1
 | y::j,g,h,k+1,x,hk=>by
  simp only[VL]at h;exact VL.get h.2 (by simpa using hk)
theorem VL.mk:∀ {xs:List af} {g:Nat→Value→Prop},(∀k x,xs[k]? = some x→∃u,g k u∧V F ρ x u)→VL F ρ xs g
 | [],_,_=>by simp only[VL]
 | y::j,g,h=>by
  simp only[VL];exact⟨h 0 y (by simp),VL.mk fun k x hk=>h (k+1) x (by simpa using hk)⟩
theorem VL.append{xs ys:List af}{g:Nat→Value→Prop}(h1:VL F ρ xs g)(h2:VL F ρ ys (fun k u=>g (xs.length+k) u)):VL F ρ (xs++ys) g:=by
 refine VL.mk fun k x hk=>?_
 rcases Nat.lt_or_ge k xs.length with h | h
 ·rw[List.getElem?_append_left h]at hk;exact VL.get h1 hk
 ·rw[List.getElem?_append_right h]at hk;obtain⟨u,a,b⟩:=VL.get h2 hk;exact⟨u,by rwa [Nat.add_sub_cancel' h]at a,b⟩
end
def flat(β:Bool):(T:Ty)→T.den→List af
 | .unit,_=>[]
 | .prod a b,x=>flat β a x.1++flat β b x.2
 | .int k,n=>[.p false (.int k) n]
 | .bool,n=>[.p false .bool n]
 | .str,n=>[.p false .str n]
 | .flt,n=>[.p false .flt n]
 | .slice a,n=>[.p β (.slice a) n]
 | .ptr a,n=>[.p β (.ptr a) n]
 | .tree f j,t=>[.p false (.int f) t.op,.p false (.int j) t.set,.p β (.slice (.tree f j)) t.kids]
 | .arr k _,q=>q.1.map fun i=> .p false (.int k) i
 | .mapi f j,u=>[.p β (.mapi f j) u]
theorem eQ(β:Bool):∀(T:Ty) (x:T.den),(flat β T x).length=T.size
 | .unit,_=>rfl
 | .prod a b,x=>by simp[flat,Ty.size,eQ β a,eQ β b]
 | .int _,_=>rfl
 | .bool,_=>rfl
 | .str,_=>rfl
 | .flt,_=>rfl
 | .slice _,_=>rfl
 | .ptr _,_=>rfl
 | .tree _ _,_=>rfl
 | .arr _ _,x=>by simp[flat,Ty.size,x.2]
 | .mapi _ _,_=>rfl
theorem jN{F:Bool→Addr→Value→Prop}{ρ:Nat→QW}(β:Bool):∀(T:Ty) (x:T.den) (g:Nat→Value→Prop),ah (F β) T x g→VL F ρ (flat β T x) g
 | .unit,_,_,_=>by simp only[flat,VL]
 | .prod a b,x,g,h=>by
  simp only[flat];exact VL.append (jN β a _ _ h.1) (by rw[eQ];exact jN β b _ _ h.2)
 | .int k,n,g,h=>by simp only[flat,VL,V];exact⟨⟨_,h,rfl,rfl⟩,trivial⟩
 | .bool,n,g,h=>by simp only[flat,VL,V];exact⟨⟨_,h,rfl,rfl⟩,trivial⟩
 | .str,n,g,h=>by simp only[flat,VL,V];exact⟨⟨_,h,rfl,rfl⟩,trivial⟩
 | .flt,n,g,⟨m,h,e⟩=>by simp only[flat,VL,V];exact⟨⟨_,h,rfl,m,rfl,e⟩,trivial⟩
 | .slice a,n,g,⟨ad,len,cap,f,h1,h2⟩=>by simp only[flat,VL,V];exact⟨⟨_,f,rfl,⟨ad,len,cap,rfl,h1,h2⟩⟩,trivial⟩
 | .ptr a,none,g,h=>by simp only[flat,VL,V];exact⟨⟨_,h,rfl,rfl⟩,trivial⟩
 | .ptr a,some y,g,⟨b,f,h1⟩=>by simp only[flat,VL,V];exact⟨⟨_,f,rfl,⟨b,rfl,h1⟩⟩,trivial⟩
 | .tree z B,.node o s C,g,h=>by
  simp only[ah,gy]at h;obtain⟨h1,h2,ad,len,cap,p,q,u⟩:=h;simp only[flat,VL,V,Tree.op,Tree.set,Tree.kids];exact⟨⟨_,h1,rfl,rfl⟩,⟨_,h2,rfl,rfl⟩,⟨_,p,rfl,⟨ad,len,cap,rfl,q,fun i hi=>(eY.get u i hi).pull⟩⟩,trivial⟩
 | .arr k n,x,g,h=>by
  simp only[flat];refine VL.mk fun i y j=>?_
  rw[List.getElem?_map]at j;rcases Nat.lt_or_ge i x.1.length with hi | hi
  ·rw[List.getElem?_eq_getElem hi]at j;cases j;exact⟨_,h i hi,by simp only[V,ah];exact⟨rfl,trivial⟩⟩
  ·rw[List.getElem?_eq_none hi]at j;cases j
 | .mapi _ _,_,g,⟨r,f,h1⟩=>by simp only[flat,VL,V];exact⟨⟨_,f,rfl,⟨r,rfl,h1⟩⟩,trivial⟩
def Eb(k:IntKind):List af→Option QK
 | []=>some []
 | .p _ (.int f) x::r=>if f=k then(match Eb k r with
  | some l=>some (x::l)
  | none=>none)else none
 | _=>none
theorem tI{F:Bool→Addr→Value→Prop}{ρ:Nat→QW}{k:IntKind}:∀ {j:List af} {l:QK},Eb k j=some l→l.length=j.length∧∀ {g:Nat→Value→Prop},VL F ρ j g→∀i (h:i<l.length),g i (.int k l[i])
 | [],l,h=>by
  cases h;exact⟨rfl,fun _ i hi=>absurd hi (by simp)⟩
 | c::r,l,h=>by
  unfold Eb at h;split at h
  ·rename_i e;cases e
  ·rename_i β B x C e;cases e;split at h
   ·rename_i v;subst v;split at h
    ·rename_i D h1;cases h;obtain⟨z,A⟩:=tI h1;refine⟨by simp[z],fun {g} f i hi=>?_⟩;simp only[VL]at f;obtain⟨⟨u,p,q⟩,f⟩:=f;cases i with
     | zero =>
      simp only[V,ah]at q;rw[←q.2]at p;exact p
     | succ i=>exact A f i (by simpa using hi)
    ·cases h
   ·cases h
  ·cases h
def Lc(T:Ty):af→Option T.den
 | .p β S x=>if h:S=T then(if S.isRef && β then none else some (h ▸ x))else none
 | .nils=>match T with
  | .slice _=>some []
  | _=>none
 | .nilp=>match T with
  | .ptr _=>some none
  | _=>none
 | .lit (.map none)=>match T with
  | .mapi _ _=>some []
  | _=>none
 | _=>none
def one(T:Ty):List af→Option (T.den×List af)
 | c::f=>match Lc T c with
  | some x=>some (x,f)
  | none=>none
 | []=>none
def iB:(T:Ty)→List af→Option (T.den×List af)
 | .unit,f=>some ((),f)
 | .prod a b,f=>match iB a f with
  | some (x,f)=>match iB b f with
   | some (y,f)=>some ((x,y),f)
   | none=>none
  | none=>none
 | .int k,f=>one (.int k) f
 | .bool,f=>one .bool f
 | .str,f=>one .str f
 | .flt,f=>one .flt f
 | .slice a,f=>one (.slice a) f
 | .ptr a,f=>one (.ptr a) f
 | .tree j p,f=>match one (.int j) f with
  | some (o,f)=>match one (.int p) f with
   | some (s,f)=>match one (.slice (.tree j p)) f with
    | some (q,f)=>some (Tree.node o s q,f)
    | none=>none
   | none=>none
  | none=>none
 | .arr k n,f=>match Eb k (f.take n)with
  | some l=>if h:l.length=n then some (⟨l,h⟩,f.drop n)else none
  | none=>none
 | .mapi j p,f=>one (.mapi j p) f
end Go.Tv
