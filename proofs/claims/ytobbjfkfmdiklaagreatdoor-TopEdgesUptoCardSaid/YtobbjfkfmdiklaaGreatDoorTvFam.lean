import GoSem.Claims
import Derived.WalkKit
import Derived.Below
namespace Go
abbrev Qx:=List (Int×Int×Int)
abbrev Qq:=List (Int×Int)
abbrev QU:=Array Value
abbrev QY:=List Value
abbrev QW:=Option Value
abbrev QV:=List Nat
abbrev QJ:=Option Nat
abbrev QK:=List Int
abbrev QZ:=List QK
abbrev QX:=List UInt8
abbrev QQ:=List QX
end Go
namespace Go.Tv
open Go
def cj(n:Nat):QJ:=if(FloatKind.f64.decode n).isNaN then none else some n
def Jg(op:BinOp)(x y:Nat):QJ :=
 match op with
 | .add=>FloatKind.f64.format.add x y
 | .sub=>FloatKind.f64.format.sub x y
 | .mul=>FloatKind.f64.format.mul x y
 | _=>FloatKind.f64.format.div x y
def bN(op:BinOp)(a b:QJ):QJ :=
 match a,b with
 | some x,some y=>(Jg op x y).bind cj
 | _,_=>none
def qH(a b:QJ):Option Ordering :=
 match a,b with
 | some x,some y=>FloatKind.f64.format.order x y
 | _,_=>none
def Lv(a b:QJ):Bool:=qH a b == some .eq
def Lf(a b:QJ):Bool:=qH a b == some .lt
def xP(a b:QJ):Bool:=qH a b == some .gt
def NP(a b:QJ):Bool:=qH a b == some .lt || qH a b == some .eq
def NX(a b:QJ):Bool:=qH a b == some .gt || qH a b == some .eq
def ov(a:QJ):Option Int:=a.bind fun n=>(FloatKind.f64.decode n).toInt .zero
def ofInt(n:Int):QJ:=cj (FloatKind.f64.nearest n)
theorem rm{n:Nat}(h:cj n=none):∃s t,FloatKind.f64.format.read n = .nan s t:=by
 unfold cj at h;split at h
 ·rename_i hn;unfold Ieee.Datum.isNaN FloatKind.decode at hn;cases hd:FloatKind.f64.format.read n with
  | nan s t=>exact⟨s,t,rfl⟩
  | number _ _ _=>rw[hd]at hn;cases hn
  | infinity _=>rw[hd]at hn;cases hn
 ·cases h
theorem hJ{n m:Nat}(h:cj n=some m):m=n:=by
 unfold cj at h;split at h
 ·cases h
 ·exact(Option.some.inj h).symm
theorem Eb(x y:Nat):qH (cj x) (cj y)=FloatKind.f64.format.order x y:=by
 cases j:cj x with
 | none =>
  obtain⟨s,t,e⟩:=rm j;simp only[qH,Ieee.Format.order,e];rfl
 | some a =>
  obtain rfl:=hJ j;cases p:cj y with
  | none =>
   obtain⟨s,t,e⟩:=rm p;simp only[qH,Ieee.Format.order,e];cases FloatKind.f64.format.read a <;> rfl
  | some b =>
   obtain rfl:=hJ p;rfl
theorem Fk(op:BinOp)(x y:Nat):bN op (cj x) (cj y)=(Jg op x y).bind cj:=by
 cases j:cj x with
 | none =>
  obtain⟨s,t,e⟩:=rm j;cases op <;> simp only[bN,Jg,Ieee.Format.add,Ieee.Format.sub,Ieee.Format.mul,Ieee.Format.div,e] <;> rfl
 | some a =>
  obtain rfl:=hJ j;cases p:cj y with
  | none =>
   obtain⟨s,t,e⟩:=rm p;cases op <;> simp only[bN,Jg,Ieee.Format.add,Ieee.Format.sub,Ieee.Format.mul,Ieee.Format.div,e] <;> cases FloatKind.f64.format.read a <;> rfl
  | some b =>
   obtain rfl:=hJ p;rfl
theorem C9(n:Nat)(h:FloatKind.f64.format.infRung<n % FloatKind.f64.format.signWeight):cj n=none:=by
 have hb:FloatKind.f64.format.binade≤FloatKind.f64.format.infRung:=by decide
 unfold cj FloatKind.decode Ieee.Format.read;rw[if_pos];rw[if_neg (by omega),if_neg (by omega),if_neg (by omega)];rfl
theorem JZ(x y t:Nat):cj (Question.cut (.nanBits .f64 x y) t)=none:=by
 refine C9 _ ?_;have j:FloatKind.f64.format.infRung=0x7ff0000000000000:=by decide
 have p:FloatKind.f64.format.signWeight=2 ^ 63:=by decide
 have q:Question.cut (.nanBits .f64 x y) t=t % 2*2 ^ 63+0x7ff0000000000000+1+t / 2 % (2 ^ 52 - 1):=rfl;rw[j,p,q];have u:t / 2 % (2 ^ 52 - 1)<2 ^ 52 - 1:=Nat.mod_lt _ (by decide);generalize t / 2 % (2 ^ 52 - 1)=r at u ⊢;rcases Nat.mod_two_eq_zero_or_one t with e | e <;> rw[e] <;> omega
section
variable{P:Program}{w:World}
theorem D6{op:BinOp}(p:op = .add∨op = .sub∨op = .mul∨op = .quo)(x y:Nat):
  ∃n j,(Op.floatArith op .f64 x y).run P w = .ok (.float .f64 n) j∧(j=w∨j=w.drew)∧cj n=bN op (cj x) (cj y):=by
 rw[Fk];have key:∀(r:QJ),∃n j,(match r with
   | some r=>pure (.float .f64 r)
   | none=>do pure (.float .f64 (←choose (.nanBits .f64 x y))):Sem Value).run P w = .ok (.float .f64 n) j∧(j=w∨j=w.drew)∧cj n=r.bind cj:=fun r=>by
  cases r with
  | some r=>exact⟨r,w,rfl,.inl rfl,rfl⟩
  | none=>exact⟨_,w.drew,by simp only[Sem.run_bind,run_choose_drew,Question.forced];rfl,.inr rfl,JZ x y _⟩
 rcases p with rfl | rfl | rfl | rfl <;> exact key _
end
end Go.Tv
namespace Go.Tv
open Go Go.RowKit
inductive Tree where
 | node (op set:Int) (kids:List Tree)
abbrev XX:=List Tree
def Tree.op:Tree→Int
 | .node o _ _=>o
def Tree.set:Tree→Int
 | .node _ s _=>s
def Tree.kids:Tree→XX
 | .node _ _ j=>j
abbrev fh(n:Nat):= { j:QK // j.length=n }
def fF{n:Nat}(x:fh n)(i:Nat):Int:=x.1.getD i 0
def rW{n:Nat}(x:fh n)(i:Nat)(v:Int):fh n:=⟨x.1.set i v,by rw[List.length_set];exact x.2⟩
def dx(n:Nat):fh n:=⟨List.replicate n 0,List.length_replicate⟩
def IJ{n:Nat}(x y:fh n):Bool:=x.1 == y.1
def Ls(j q:IntKind)(u:Qq):Value:= .tuple (u.map fun p=>Value.tuple #[.int j p.1,.int q p.2]).toArray
inductive Ty where
 | int (k:IntKind)
 | bool
 | str
 | flt
 | unit
 | prod (a b:Ty)
 | slice (a:Ty)
 | ptr (a:Ty)
 | tree (k1 k2:IntKind)
 | arr (k:IntKind) (n:Nat)
 | mapi (k1 k2:IntKind)
 deriving DecidableEq
@[reducible] def Ty.den:Ty→Type
 | .int _=>Int
 | .bool=>Bool
 | .str=>QX
 | .flt=>QJ
 | .unit=>Unit
 | .prod a b=>a.den×b.den
 | .slice a=>List a.den
 | .ptr a=>Option a.den
 | .tree _ _=>Tree
 | .arr _ n=>fh n
 | .mapi _ _=>Qq
def Ty.size:Ty→Nat
 | .unit=>0
 | .prod a b=>a.size+b.size
 | .tree _ _=>3
 | .arr _ n=>n
 | _=>1
def Ty.scalar:Ty→Bool
 | .unit=>false
 | .prod _ _=>false
 | .tree _ _=>false
 | .arr _ _=>false
 | _=>true
def Ty.isRef:Ty→Bool
 | .slice _=>true
 | .ptr _=>true
 | .mapi _ _=>true
 | _=>false
def Ty.zero:(T:Ty)→T.den
 | .int _=>(0:Int)
 | .bool=>false
 | .str=>([]:QX)
 | .flt=>(some 0:QJ)
 | .unit=>()
 | .prod a b=>(a.zero,b.zero)
 | .slice a=>([]:List a.den)
 | .ptr a=>(none:Option a.den)
 | .tree _ _=>Tree.node 0 0 []
 | .arr _ n=>dx n
 | .mapi _ _=>([]:Qq)
theorem Ty.fG{T:Ty}(h:T.scalar=true):T.size=1:=by cases T <;> simp[Ty.scalar,Ty.size]at *
mutual
def gF(F:Addr→Value→Prop)(j p:IntKind):Tree→(Nat→Value→Prop)→Prop
 | .node o s q,g=>g 0 (.int j o)∧g 1 (.int p s)∧∃(u:Option Addr) (len cap:Nat),g 2 (.slice u len cap)∧(len=q.length∧len≤cap)∧fe F j p q (fun i k v=>∃b,u=some b∧F (b.add (i*3+k)) v)
def fe(F:Addr→Value→Prop)(j p:IntKind):XX→(Nat→Nat→Value→Prop)→Prop
 | [],_=>True
 | t::x,G=>gF F j p t (G 0)∧fe F j p x (fun i=>G (i+1))
end
mutual
theorem gF.mono{F F':Addr→Value→Prop}{j z:IntKind}(B:∀a v,F a v→F' a v):∀ {t:Tree} {g g':Nat→Value→Prop},(∀k v,k<3→g k v→g' k v)→gF F j z t g→gF F' j z t g'
 | .node o s O,g,g',D,h=>by simp only[gF]at h ⊢;obtain⟨h1,h2,ad,len,cap,J,L,M⟩:=h;exact⟨D _ _ (by decide) h1,D _ _ (by decide) h2,ad,len,cap,D _ _ (by decide) J,L,fe.mono B (fun i k v _ ⟨b,e,N⟩=>⟨b,e,B _ _ N⟩) M⟩
theorem fe.mono{F F':Addr→Value→Prop}{j z:IntKind}(B:∀a v,F a v→F' a v):∀ {ts:XX} {G E:Nat→Nat→Value→Prop},(∀i k v,k<3→G i k v→E i k v)→fe F j z ts G→fe F' j z ts E
 | [],_,_,_,_=>by simp only[fe]
 | t::ts,G,E,I,h=>by simp only[fe]at h ⊢;exact⟨gF.mono B (I 0) h.1,fe.mono B (fun i=>I (i+1)) h.2⟩
end
theorem fe.get{F:Addr→Value→Prop}{u z:IntKind}:∀ {j:XX} {G:Nat→Nat→Value→Prop},fe F u z j G→∀i (h:i<j.length),gF F u z j[i] (G i)
 | [],_,_,i,h=>absurd h (by simp)
 | t::j,G,q,0,_=>by simp only[fe]at q;exact q.1
 | t::j,G,q,i+1,h=>by simp only[fe]at q;exact fe.get q.2 i (by simpa using h)
theorem fe.mk{F:Addr→Value→Prop}{q u:IntKind}:∀ {j:XX} {G:Nat→Nat→Value→Prop},(∀i (h:i<j.length),gF F q u j[i] (G i))→fe F q u j G
 | [],_,_=>by simp only[fe]
 | t::j,G,x=>by
  simp only[fe];exact⟨x 0 (by simp),fe.mk fun i h=>x (i+1) (by simpa using h)⟩
theorem gF.pull{F:Addr→Value→Prop}{j p:IntKind}{t:Tree}{q:Option Addr}{i:Nat}(h:gF F j p t (fun k v=>∃b,q=some b∧F (b.add (i*3+k)) v)):∃b,q=some b∧gF F j p t (fun k v=>F (b.add (i*3+k)) v):=by
 have h':=h;match t with
 | .node o s z =>
  simp only[gF]at h;obtain⟨⟨b,e,_⟩,_⟩:=h;refine⟨b,e,gF.mono (fun _ _ h=>h) (fun k v _ ⟨A,u,x⟩=>?_) h'⟩;rw[e]at u;cases u;exact x
def ai(F:Addr→Value→Prop):(T:Ty)→T.den→(Nat→Value→Prop)→Prop
 | .int k,n,g=>g 0 (.int k n)
 | .bool,b,g=>g 0 (.bool b)
 | .str,s,g=>g 0 (.string ⟨s.toArray⟩)
 | .flt,n,g=>∃m,g 0 (.float .f64 m)∧cj m=n
 | .unit,_,_=>True
 | .prod a b,x,g=>ai F a x.1 g∧ai F b x.2 (fun k v=>g (a.size+k) v)
 | .slice a,xs,g=>∃(ad:Option Addr) (len cap:Nat),g 0 (.slice ad len cap)∧(len=xs.length∧len≤cap) ∧
   ∀i (h:i<xs.length),∃b,ad=some b∧ai F a xs[i] (fun k v=>F (b.add (i*a.size+k)) v)
 | .ptr a,x,g=>match x with
  | none=>g 0 (.pointer none)
  | some y=>∃b:Addr,g 0 (.pointer (some b))∧ai F a y (fun k v=>F (b.add k) v)
 | .tree j q,t,g=>gF F j q t g
 | .arr k _,xs,g=>∀i (h:i<xs.1.length),g i (.int k xs.1[i])
 | .mapi j q,z,g=>∃r:QJ,g 0 (.map r)∧(match r with
  | none=>z=[]
  | some b=>F ⟨b,0,some 0⟩ (Ls j q z)∧(z.map (·.1)).Nodup)
theorem ai.mono{F F':Addr→Value→Prop}(B:∀a v,F a v→F' a v):
  ∀ {T:Ty} {x:T.den} {g g':Nat→Value→Prop},(∀k v,g k v→g' k v)→ai F T x g→ai F' T x g'
 | .int _,_,_,_,j,h=>j _ _ h
 | .bool,_,_,_,j,h=>j _ _ h
 | .str,_,_,_,j,h=>j _ _ h
 | .flt,_,_,_,j,⟨m,h,e⟩=>⟨m,j _ _ h,e⟩
 | .unit,_,_,_,_,_=>trivial
 | .prod a b,x,_,_,j,h=>⟨ai.mono B (T:=a) j h.1,ai.mono B (T:=b) (fun k v z=>j _ v z) h.2⟩
 | .slice a,xs,_,_,j,⟨ad,len,cap,D,hl,h⟩=>⟨ad,len,cap,j _ _ D,hl,fun i hi =>
   let ⟨b,hb,z⟩:=h i hi
   ⟨b,hb,ai.mono B (T:=a) (fun _ v z=>B _ v z) z⟩⟩
 | .ptr a,none,_,_,j,h=>j _ _ h
 | .ptr a,some y,_,_,j,⟨b,D,z⟩=>⟨b,j _ _ D,ai.mono B (T:=a) (fun _ v z=>B _ v z) z⟩
 | .tree _ _,t,_,_,j,h=>gF.mono B (fun k v _=>j k v) h
 | .arr _ _,_,_,_,j,h=>fun i hi=>j _ _ (h i hi)
 | .mapi _ _,_,_,_,j,⟨none,D,h⟩=>⟨none,j _ _ D,h⟩
 | .mapi _ _,_,_,_,j,⟨some b,D,h,hd⟩=>⟨some b,j _ _ D,B _ _ h,hd⟩
inductive ag where
 | p (β:Bool) (T:Ty) (x:T.den)
 | nils
 | nilp
 | lit (v:Value)
 | sl (id:Nat)
 | adr (id idx sz off:Nat)
 | ada (id base n i:Nat)
 | fad (β:Bool) (cs:List ag) (off:Nat)
 | agg (cs:List ag)
 | tup (cs:List ag)
 | fn (f:Nat) (caps:List ag)
 | mp (id:Nat)
 | lag (k:IntKind) (n:Nat) (xs:fh n) (cs:List ag)
 | suf (id lo sz:Nat)
 | bfn (f:Nat) (cs:List ag)
 | loc (β:Bool) (T:Ty) (x:T.den)
 | unk
mutual
def V(F:Bool→Addr→Value→Prop)(ρ:Nat→QW):ag→Value→Prop
 | .p β T x,v=>T.scalar=true∧ai (F β) T x (fun _ u=>u=v)
 | .nils,v=>v = .slice none 0 0
 | .nilp,v=>v = .pointer none
 | .lit u,v=>v=u
 | .sl id,v=>ρ id=some v∧∃a n c,v = .slice a n c
 | .mp id,v=>ρ id=some v∧∃r,v = .map r
 | .adr id i sz off,v=>∃g,(ρ id=some (.pointer (some ⟨g,0,none⟩))∨∃n c,ρ id=some (.slice (some ⟨g,0,none⟩) n c))∧v = .pointer (some ⟨g,i*sz+off,none⟩)
 | .ada id base n i,v=>∃g,ρ id=some (.pointer (some ⟨g,0,none⟩))∧v = .pointer (some ⟨g,base+i,none⟩)∧i<n
 | .fad β cs off,v=>∃ad:Addr,v = .pointer (some (ad.add off))∧VL F ρ cs (fun k u=>F β (ad.add k) u)
 | .agg cs,v=>∃vs:QU,v = .agg vs∧vs.size=cs.length∧VL F ρ cs (fun k u=>vs[k]? = some u)
 | .tup cs,v=>∃vs:QU,v = .tuple vs∧vs.size=cs.length∧VL F ρ cs (fun k u=>vs[k]? = some u)
 | .fn f z,v=>∃vs:QU,v = .func (.func f) #[] vs∧vs.size=z.length∧VL F ρ z (fun k u=>vs[k]? = some u)
 | .lag k _ xs cs,v=>∃vs:QY,v = .agg (xs.1.map (Value.int k)++vs).toArray∧vs.length=cs.length∧VL F ρ cs (fun j u=>vs[j]? = some u)
 | .suf id lo sz,v=>∃ad n c,ρ id=some (.slice ad n c)∧lo≤n∧n≤c∧v = .slice (if c=lo then ad else ad.map (fun x=>x.add (lo*sz))) (n - lo) (c - lo)
 | .bfn f cs,v=>∃vs:QU,v = .func (.func f) vs #[]∧vs.size=cs.length∧VL F ρ cs (fun k u=>vs[k]? = some u)
 | .loc β T x,v=>∃ad:Addr,v = .pointer (some ad)∧ai (F β) T x (fun k u=>F β (ad.add k) u)
 | .unk,_=>True
def VL(F:Bool→Addr→Value→Prop)(ρ:Nat→QW):List ag→(Nat→Value→Prop)→Prop
 | [],_=>True
 | x::xs,g=>(∃u,g 0 u∧V F ρ x u)∧VL F ρ xs (fun k u=>g (k+1) u)
end
mutual
theorem V.mono{F F':Bool→Addr→Value→Prop}{ρ ρ':Nat→QW}(z:∀β a v,F β a v→F' β a v)(j:∀i u,ρ i=some u→ρ' i=some u):
  ∀ {x:ag} {v:Value},V F ρ x v→V F' ρ' x v
 | .p _ _ _,_,h=>by
  simp only[V]at h ⊢;exact⟨h.1,ai.mono (z _) (fun _ _ h=>h) h.2⟩
 | .nils,_,h=>by simpa only [V]using h
 | .nilp,_,h=>by simpa only [V]using h
 | .lit _,_,h=>by simpa only [V]using h
 | .sl _,_,h=>by simp only[V]at h ⊢;exact⟨j _ _ h.1,h.2⟩
 | .mp _,_,h=>by simp only[V]at h ⊢;exact⟨j _ _ h.1,h.2⟩
 | .adr _ _ _ _,_,h=>by
  simp only[V]at h ⊢;obtain⟨g,h1,h2⟩:=h;exact⟨g,h1.imp (j _ _) (fun⟨n,c,h⟩=>⟨n,c,j _ _ h⟩),h2⟩
 | .ada _ _ _ _,_,h=>by
  simp only[V]at h ⊢;obtain⟨g,h1,h2⟩:=h;exact⟨g,j _ _ h1,h2⟩
 | .fad _ cs _,_,h=>by
  simp only[V]at h ⊢;obtain⟨ad,h1,h2⟩:=h;exact⟨ad,h1,VL.mono z j (fun _ _ h=>z _ _ _ h) h2⟩
 | .agg cs,_,h=>by
  simp only[V]at h ⊢;obtain⟨vs,h1,h2,B⟩:=h;exact⟨vs,h1,h2,VL.mono z j (fun _ _ h=>h) B⟩
 | .tup cs,_,h=>by
  simp only[V]at h ⊢;obtain⟨vs,h1,h2,B⟩:=h;exact⟨vs,h1,h2,VL.mono z j (fun _ _ h=>h) B⟩
 | .fn _ cs,_,h=>by
  simp only[V]at h ⊢;obtain⟨vs,h1,h2,B⟩:=h;exact⟨vs,h1,h2,VL.mono z j (fun _ _ h=>h) B⟩
 | .lag _ _ _ cs,_,h=>by
  simp only[V]at h ⊢;obtain⟨vs,h1,h2,B⟩:=h;exact⟨vs,h1,h2,VL.mono z j (fun _ _ h=>h) B⟩
 | .suf _ _ _,_,h=>by
  simp only[V]at h ⊢;obtain⟨ad,n,c,h1,h2⟩:=h;exact⟨ad,n,c,j _ _ h1,h2⟩
 | .bfn _ cs,_,h=>by
  simp only[V]at h ⊢;obtain⟨vs,h1,h2,B⟩:=h;exact⟨vs,h1,h2,VL.mono z j (fun _ _ h=>h) B⟩
 | .loc β _ _,_,h=>by
  simp only[V]at h ⊢;obtain⟨ad,h1,h2⟩:=h;exact⟨ad,h1,ai.mono (z _) (fun _ _ h=>z _ _ _ h) h2⟩
 | .unk,_,_=>by simp only[V]
theorem VL.mono{F F':Bool→Addr→Value→Prop}{ρ ρ':Nat→QW}(z:∀β a v,F β a v→F' β a v)(j:∀i u,ρ i=some u→ρ' i=some u):
  ∀ {xs:List ag} {g g':Nat→Value→Prop},(∀k u,g k u→g' k u)→VL F ρ xs g→VL F' ρ' xs g'
 | [],_,_,_,_=>by simp only[VL]
 | x::xs,_,_,D,h=>by simp only[VL]at h ⊢;obtain⟨⟨u,h1,h2⟩,B⟩:=h;exact⟨⟨u,D _ _ h1,V.mono z j h2⟩,VL.mono z j (fun _ _ h=>D _ _ h) B⟩
end
section
variable{F:Bool→Addr→Value→Prop}{ρ:Nat→QW}
theorem VL.get:∀ {xs:List ag} {g:Nat→Value→Prop},VL F ρ xs g→∀ {k:Nat} {x:ag},xs[k]? = some x→∃u,g k u∧V F ρ x u
 | [],_,_,_,_,hk=>by simp at hk
 | y::j,g,h,0,x,hk=>by
  simp only[VL]at h;simp at hk;subst hk;exact h.1
 | y::j,g,h,k+1,x,hk=>by
  simp only[VL]at h;exact VL.get h.2 (by simpa using hk)
theorem VL.mk:∀ {xs:List ag} {g:Nat→Value→Prop},(∀k x,xs[k]? = some x→∃u,g k u∧V F ρ x u)→VL F ρ xs g
 | [],_,_=>by simp only[VL]
 | y::j,g,h=>by
  simp only[VL];exact⟨h 0 y (by simp),VL.mk fun k x hk=>h (k+1) x (by simpa using hk)⟩
theorem VL.append{xs ys:List ag}{g:Nat→Value→Prop}(h1:VL F ρ xs g)(h2:VL F ρ ys (fun k u=>g (xs.length+k) u)):VL F ρ (xs++ys) g:=by
 refine VL.mk fun k x hk=>?_
 rcases Nat.lt_or_ge k xs.length with h | h
 ·rw[List.getElem?_append_left h]at hk;exact VL.get h1 hk
 ·rw[List.getElem?_append_right h]at hk;obtain⟨u,a,b⟩:=VL.get h2 hk;exact⟨u,by rwa [Nat.add_sub_cancel' h]at a,b⟩
end
def flat(β:Bool):(T:Ty)→T.den→List ag
 | .unit,_=>[]
 | .prod a b,x=>flat β a x.1++flat β b x.2
 | .int k,n=>[.p false (.int k) n]
 | .bool,n=>[.p false .bool n]
 | .str,n=>[.p false .str n]
 | .flt,n=>[.p false .flt n]
 | .slice a,n=>[.p β (.slice a) n]
 | .ptr a,n=>[.p β (.ptr a) n]
 | .tree j q,t=>[.p false (.int j) t.op,.p false (.int q) t.set,.p β (.slice (.tree j q)) t.kids]
 | .arr k _,u=>u.1.map fun i=> .p false (.int k) i
 | .mapi j q,z=>[.p β (.mapi j q) z]
theorem eP(β:Bool):∀(T:Ty) (x:T.den),(flat β T x).length=T.size
 | .unit,_=>rfl
 | .prod a b,x=>by simp[flat,Ty.size,eP β a,eP β b]
 | .int _,_=>rfl
 | .bool,_=>rfl
 | .str,_=>rfl
 | .flt,_=>rfl
 | .slice _,_=>rfl
 | .ptr _,_=>rfl
 | .tree _ _,_=>rfl
 | .arr _ _,x=>by simp[flat,Ty.size,x.2]
 | .mapi _ _,_=>rfl
theorem jL{F:Bool→Addr→Value→Prop}{ρ:Nat→QW}(β:Bool):∀(T:Ty) (x:T.den) (g:Nat→Value→Prop),ai (F β) T x g→VL F ρ (flat β T x) g
 | .unit,_,_,_=>by simp only[flat,VL]
 | .prod a b,x,g,h=>by
  simp only[flat];exact VL.append (jL β a _ _ h.1) (by rw[eP];exact jL β b _ _ h.2)
 | .int k,n,g,h=>by simp only[flat,VL,V];exact⟨⟨_,h,rfl,rfl⟩,trivial⟩
 | .bool,n,g,h=>by simp only[flat,VL,V];exact⟨⟨_,h,rfl,rfl⟩,trivial⟩
 | .str,n,g,h=>by simp only[flat,VL,V];exact⟨⟨_,h,rfl,rfl⟩,trivial⟩
 | .flt,n,g,⟨m,h,e⟩=>by simp only[flat,VL,V];exact⟨⟨_,h,rfl,m,rfl,e⟩,trivial⟩
 | .slice a,n,g,⟨ad,len,cap,j,h1,h2⟩=>by simp only[flat,VL,V];exact⟨⟨_,j,rfl,⟨ad,len,cap,rfl,h1,h2⟩⟩,trivial⟩
 | .ptr a,none,g,h=>by simp only[flat,VL,V];exact⟨⟨_,h,rfl,rfl⟩,trivial⟩
 | .ptr a,some y,g,⟨b,j,h1⟩=>by simp only[flat,VL,V];exact⟨⟨_,j,rfl,⟨b,rfl,h1⟩⟩,trivial⟩
 | .tree B C,.node o s D,g,h=>by
  simp only[ai,gF]at h;obtain⟨h1,h2,ad,len,cap,q,u,z⟩:=h;simp only[flat,VL,V,Tree.op,Tree.set,Tree.kids];exact⟨⟨_,h1,rfl,rfl⟩,⟨_,h2,rfl,rfl⟩,⟨_,q,rfl,⟨ad,len,cap,rfl,u,fun i hi=>(fe.get z i hi).pull⟩⟩,trivial⟩
 | .arr k n,x,g,h=>by
  simp only[flat];refine VL.mk fun i y p=>?_
  rw[List.getElem?_map]at p;rcases Nat.lt_or_ge i x.1.length with hi | hi
  ·rw[List.getElem?_eq_getElem hi]at p;cases p;exact⟨_,h i hi,by simp only[V,ai];exact⟨rfl,trivial⟩⟩
  ·rw[List.getElem?_eq_none hi]at p;cases p
 | .mapi _ _,_,g,⟨r,j,h1⟩=>by simp only[flat,VL,V];exact⟨⟨_,j,rfl,⟨r,rfl,h1⟩⟩,trivial⟩
def EA(k:IntKind):List ag→Option QK
 | []=>some []
 | .p _ (.int j) x::r=>if j=k then(match EA k r with
  | some l=>some (x::l)
  | none=>none)else none
 | _=>none
theorem uD{F:Bool→Addr→Value→Prop}{ρ:Nat→QW}{k:IntKind}:∀ {p:List ag} {l:QK},EA k p=some l→l.length=p.length∧∀ {g:Nat→Value→Prop},VL F ρ p g→∀i (h:i<l.length),g i (.int k l[i])
 | [],l,h=>by
  cases h;exact⟨rfl,fun _ i hi=>absurd hi (by simp)⟩
 | c::r,l,h=>by
  unfold EA at h;split at h
  ·rename_i e;cases e
  ·rename_i β C x D e;cases e;split at h
   ·rename_i z;subst z;split at h
    ·rename_i E h1;cases h;obtain⟨A,B⟩:=uD h1;refine⟨by simp[A],fun {g} j i hi=>?_⟩;simp only[VL]at j;obtain⟨⟨u,q,v⟩,j⟩:=j;cases i with
     | zero =>
      simp only[V,ai]at v;rw[←v.2]at q;exact q
     | succ i=>exact B j i (by simpa using hi)
    ·cases h
   ·cases h
  ·cases h
def K9(T:Ty):ag→Option T.den
 | .p β S x=>if h:S=T then(if S.isRef && β then none else some (h ▸ x))else none
 | .nils=>match T with
  | .slice _=>some []
  | _=>none
 | .nilp=>match T with
  | .ptr _=>some none
  | _=>none
 | .lit (.map none)=>match T with
  | .mapi _ _=>some []
  | _=>none
 | _=>none
def one(T:Ty):List ag→Option (T.den×List ag)
 | c::j=>match K9 T c with
  | some x=>some (x,j)
  | none=>none
 | []=>none
def iD:(T:Ty)→List ag→Option (T.den×List ag)
 | .unit,j=>some ((),j)
 | .prod a b,j=>match iD a j with
  | some (x,j)=>match iD b j with
   | some (y,j)=>some ((x,y),j)
   | none=>none
  | none=>none
 | .int k,j=>one (.int k) j
 | .bool,j=>one .bool j
 | .str,j=>one .str j
 | .flt,j=>one .flt j
 | .slice a,j=>one (.slice a) j
 | .ptr a,j=>one (.ptr a) j
 | .tree p q,j=>match one (.int p) j with
  | some (o,j)=>match one (.int q) j with
   | some (s,j)=>match one (.slice (.tree p q)) j with
    | some (u,j)=>some (Tree.node o s u,j)
    | none=>none
   | none=>none
  | none=>none
 | .arr k n,j=>match EA k (j.take n)with
  | some l=>if h:l.length=n then some (⟨l,h⟩,j.drop n)else none
  | none=>none
 | .mapi p q,j=>one (.mapi p q) j
end Go.Tv
