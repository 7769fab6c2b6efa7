import GoSem.Claims
import Derived.WalkKit
import Derived.Below
namespace Go
abbrev Qx:=List (Int×Int×Int)
abbrev Qq:=List (Int×Int)
abbrev QU:=Array Value
abbrev QY:=List Value
abbrev QW:=Option Value
abbrev QV:=List Nat
abbrev QJ:=Option Nat
abbrev QK:=List Int
abbrev QZ:=List QK
abbrev QX:=List UInt8
abbrev QQ:=List QX
end Go
namespace Go.Tv
open Go
def eG(n:Nat):QJ:=if(FloatKind.f64.decode n).isNaN then none else some n
def KI(op:BinOp)(x y:Nat):QJ :=
 match op with
 | .add=>FloatKind.f64.format.add x y
 | .sub=>FloatKind.f64.format.sub x y
 | .mul=>FloatKind.f64.format.mul x y
 | _=>FloatKind.f64.format.div x y
def cb(op:BinOp)(a b:QJ):QJ :=
 match a,b with
 | some x,some y=>(KI op x y).bind eG
 | _,_=>none
def ud(a b:QJ):Option Ordering :=
 match a,b with
 | some x,some y=>FloatKind.f64.format.order x y
 | _,_=>none
def Jw(a b:QJ):Bool:=ud a b == some .eq
def JV(a b:QJ):Bool:=ud a b == some .lt
def Lo(a b:QJ):Bool:=ud a b == some .gt
def Mj(a b:QJ):Bool:=ud a b == some .lt || ud a b == some .eq
def Mf(a b:QJ):Bool:=ud a b == some .gt || ud a b == some .eq
def n4(a:QJ):Option Int:=a.bind fun n=>(FloatKind.f64.decode n).toInt .zero
def ofInt(n:Int):QJ:=eG (FloatKind.f64.nearest n)
theorem rM{n:Nat}(h:eG n=none):∃s t,FloatKind.f64.format.read n = .nan s t:=by
 unfold eG at h;split at h
 ·rename_i hn;unfold Ieee.Datum.isNaN FloatKind.decode at hn;cases hd:FloatKind.f64.format.read n with
  | nan s t=>exact⟨s,t,rfl⟩
  | number _ _ _=>rw[hd]at hn;cases hn
  | infinity _=>rw[hd]at hn;cases hn
 ·cases h
theorem jM{n m:Nat}(h:eG n=some m):m=n:=by
 unfold eG at h;split at h
 ·cases h
 ·exact(Option.some.inj h).symm
theorem DF(x y:Nat):ud (eG x) (eG y)=FloatKind.f64.format.order x y:=by
 cases f:eG x with
 | none =>
  obtain⟨s,t,e⟩:=rM f;simp only[ud,Ieee.Format.order,e];rfl
 | some a =>
  obtain rfl:=jM f;cases j:eG y with
  | none =>
   obtain⟨s,t,e⟩:=rM j;simp only[ud,Ieee.Format.order,e];cases FloatKind.f64.format.read a <;> rfl
  | some b =>
   obtain rfl:=jM j;rfl
theorem D8(op:BinOp)(x y:Nat):cb op (eG x) (eG y)=(KI op x y).bind eG:=by
 cases f:eG x with
 | none =>
  obtain⟨s,t,e⟩:=rM f;cases op <;> simp only[cb,KI,Ieee.Format.add,Ieee.Format.sub,Ieee.Format.mul,Ieee.Format.div,e] <;> rfl
 | some a =>
  obtain rfl:=jM f;cases j:eG y with
  | none =>
   obtain⟨s,t,e⟩:=rM j;cases op <;> simp only[cb,KI,Ieee.Format.add,Ieee.Format.sub,Ieee.Format.mul,Ieee.Format.div,e] <;> cases FloatKind.f64.format.read a <;> rfl
  | some b =>
   obtain rfl:=jM j;rfl
theorem CJ(n:Nat)(h:FloatKind.f64.format.infRung<n % FloatKind.f64.format.signWeight):eG n=none:=by
 have hb:FloatKind.f64.format.binade≤FloatKind.f64.format.infRung:=by decide
 unfold eG FloatKind.decode Ieee.Format.read;rw[if_pos];rw[if_neg (by omega),if_neg (by omega),if_neg (by omega)];rfl
theorem HA(x y t:Nat):eG (Question.cut (.nanBits .f64 x y) t)=none:=by
 refine CJ _ ?_;have f:FloatKind.f64.format.infRung=0x7ff0000000000000:=by decide
 have j:FloatKind.f64.format.signWeight=2 ^ 63:=by decide
 have p:Question.cut (.nanBits .f64 x y) t=t % 2*2 ^ 63+0x7ff0000000000000+1+t / 2 % (2 ^ 52 - 1):=rfl;rw[f,j,p];have q:t / 2 % (2 ^ 52 - 1)<2 ^ 52 - 1:=Nat.mod_lt _ (by decide);generalize t / 2 % (2 ^ 52 - 1)=r at q ⊢;rcases Nat.mod_two_eq_zero_or_one t with e | e <;> rw[e] <;> omega
section
variable{P:Program}{w:World}
theorem BZ{op:BinOp}(f:op = .add∨op = .sub∨op = .mul∨op = .quo)(x y:Nat):
  ∃n e,(Op.floatArith op .f64 x y).run P w = .ok (.float .f64 n) e∧(e=w∨e=w.drew)∧eG n=cb op (eG x) (eG y):=by
 rw[D8];have key:∀(r:QJ),∃n e,(match r with
   | some r=>pure (.float .f64 r)
   | none=>do pure (.float .f64 (←choose (.nanBits .f64 x y))):Sem Value).run P w = .ok (.float .f64 n) e∧(e=w∨e=w.drew)∧eG n=r.bind eG:=fun r=>by
  cases r with
  | some r=>exact⟨r,w,rfl,.inl rfl,rfl⟩
  | none=>exact⟨_,w.drew,by simp only[Sem.run_bind,run_choose_drew,Question.forced];rfl,.inr rfl,HA x y _⟩
 rcases f with rfl | rfl | rfl | rfl <;> exact key _
end
end Go.Tv
namespace Go.Tv
open Go Go.RowKit
inductive Tree where
 | node (op set:Int) (kids:List Tree)
abbrev XX:=List Tree
def Tree.op:Tree→Int
 | .node o _ _=>o
def Tree.set:Tree→Int
 | .node _ s _=>s
def Tree.kids:Tree→XX
 | .node _ _ e=>e
abbrev fh(n:Nat):= { e:QK // e.length=n }
def fC{n:Nat}(x:fh n)(i:Nat):Int:=x.1.getD i 0
def qM{n:Nat}(x:fh n)(i:Nat)(v:Int):fh n:=⟨x.1.set i v,by rw[List.length_set];exact x.2⟩
def dB(n:Nat):fh n:=⟨List.replicate n 0,List.length_replicate⟩
def Hr{n:Nat}(x y:fh n):Bool:=x.1 == y.1
def I8(f j:IntKind)(q:Qq):Value:= .tuple (q.map fun p=>Value.tuple #[.int f p.1,.int j p.2]).toArray
inductive Ty where
 | int (k:IntKind)
 | bool
 | str
 | flt
 | unit
 | prod (a b:Ty)
 | slice (a:Ty)
 | ptr (a:Ty)
 | tree (k1 k2:IntKind)
 | arr (k:IntKind) (n:Nat)
 | mapi (k1 k2:IntKind)
 deriving DecidableEq
@[reducible] def Ty.den:Ty→Type
 | .int _=>Int
 | .bool=>Bool
 | .str=>QX
 | .flt=>QJ
 | .unit=>Unit
 | .prod a b=>a.den×b.den
 | .slice a=>List a.den
 | .ptr a=>Option a.den
 | .tree _ _=>Tree
 | .arr _ n=>fh n
 | .mapi _ _=>Qq
def Ty.size:Ty→Nat
 | .unit=>0
 | .prod a b=>a.size+b.size
 | .tree _ _=>3
 | .arr _ n=>n
 | _=>1
def Ty.scalar:Ty→Bool
 | .unit=>false
 | .prod _ _=>false
 | .tree _ _=>false
 | .arr _ _=>false
 | _=>true
def Ty.isRef:Ty→Bool
 | .slice _=>true
 | .ptr _=>true
 | .mapi _ _=>true
 | _=>false
def Ty.zero:(T:Ty)→T.den
 | .int _=>(0:Int)
 | .bool=>false
 | .str=>([]:QX)
 | .flt=>(some 0:QJ)
 | .unit=>()
 | .prod a b=>(a.zero,b.zero)
 | .slice a=>([]:List a.den)
 | .ptr a=>(none:Option a.den)
 | .tree _ _=>Tree.node 0 0 []
 | .arr _ n=>dB n
 | .mapi _ _=>([]:Qq)
theorem Ty.fD{T:Ty}(h:T.scalar=true):T.size=1:=by cases T <;> simp[Ty.scalar,Ty.size]at *
mutual
def gw(F:Addr→Value→Prop)(e f:IntKind):Tree→(Nat→Value→Prop)→Prop
 | .node o s j,g=>g 0 (.int e o)∧g 1 (.int f s)∧∃(p:Option Addr) (len cap:Nat),g 2 (.slice p len cap)∧(len=j.length∧len≤cap)∧fg F e f j (fun i k v=>∃b,p=some b∧F (b.add (i*3+k)) v)
def fg(F:Addr→Value→Prop)(e f:IntKind):XX→(Nat→Nat→Value→Prop)→Prop
 | [],_=>True
 | t::q,G=>gw F e f t (G 0)∧fg F e f q (fun i=>G (i+1))
end
mutual
theorem gw.mono{F F':Addr→Value→Prop}{j z:IntKind}(B:∀a v,F a v→F' a v):∀ {t:Tree} {g g':Nat→Value→Prop},(∀k v,k<3→g k v→g' k v)→gw F j z t g→gw F' j z t g'
 | .node o s Y,g,g',D,h=>by simp only[gw]at h ⊢;obtain⟨J,L,ad,len,cap,M,N,O⟩:=h;exact⟨D _ _ (by decide) J,D _ _ (by decide) L,ad,len,cap,D _ _ (by decide) M,N,fg.mono B (fun i k v _ ⟨b,e,V⟩=>⟨b,e,B _ _ V⟩) O⟩
theorem fg.mono{F F':Addr→Value→Prop}{j z:IntKind}(B:∀a v,F a v→F' a v):∀ {ts:XX} {G E:Nat→Nat→Value→Prop},(∀i k v,k<3→G i k v→E i k v)→fg F j z ts G→fg F' j z ts E
 | [],_,_,_,_=>by simp only[fg]
 | t::ts,G,E,I,h=>by simp only[fg]at h ⊢;exact⟨gw.mono B (I 0) h.1,fg.mono B (fun i=>I (i+1)) h.2⟩
end
theorem fg.get{F:Addr→Value→Prop}{j q:IntKind}:∀ {e:XX} {G:Nat→Nat→Value→Prop},fg F j q e G→∀i (h:i<e.length),gw F j q e[i] (G i)
 | [],_,_,i,h=>absurd h (by simp)
 | t::e,G,f,0,_=>by simp only[fg]at f;exact f.1
 | t::e,G,f,i+1,h=>by simp only[fg]at f;exact fg.get f.2 i (by simpa using h)
theorem fg.mk{F:Addr→Value→Prop}{j q:IntKind}:∀ {e:XX} {G:Nat→Nat→Value→Prop},(∀i (h:i<e.length),gw F j q e[i] (G i))→fg F j q e G
 | [],_,_=>by simp only[fg]
 | t::e,G,u=>by
  simp only[fg];exact⟨u 0 (by simp),fg.mk fun i h=>u (i+1) (by simpa using h)⟩
theorem gw.pull{F:Addr→Value→Prop}{f j:IntKind}{t:Tree}{p:Option Addr}{i:Nat}(h:gw F f j t (fun k v=>∃b,p=some b∧F (b.add (i*3+k)) v)):∃b,p=some b∧gw F f j t (fun k v=>F (b.add (i*3+k)) v):=by
 have h':=h;match t with
 | .node o s x =>
  simp only[gw]at h;obtain⟨⟨b,e,_⟩,_⟩:=h;refine⟨b,e,gw.mono (fun _ _ h=>h) (fun k v _ ⟨z,q,u⟩=>?_) h'⟩;rw[e]at q;cases q;exact u
def ah(F:Addr→Value→Prop):(T:Ty)→T.den→(Nat→Value→Prop)→Prop
 | .int k,n,g=>g 0 (.int k n)
 | .bool,b,g=>g 0 (.bool b)
 | .str,s,g=>g 0 (.string ⟨s.toArray⟩)
 | .flt,n,g=>∃m,g 0 (.float .f64 m)∧eG m=n
 | .unit,_,_=>True
 | .prod a b,x,g=>ah F a x.1 g∧ah F b x.2 (fun k v=>g (a.size+k) v)
 | .slice a,xs,g=>∃(ad:Option Addr) (len cap:Nat),g 0 (.slice ad len cap)∧(len=xs.length∧len≤cap) ∧
   ∀i (h:i<xs.length),∃b,ad=some b∧ah F a xs[i] (fun k v=>F (b.add (i*a.size+k)) v)
 | .ptr a,x,g=>match x with
  | none=>g 0 (.pointer none)
  | some y=>∃b:Addr,g 0 (.pointer (some b))∧ah F a y (fun k v=>F (b.add k) v)
 | .tree f j,t,g=>gw F f j t g
 | .arr k _,xs,g=>∀i (h:i<xs.1.length),g i (.int k xs.1[i])
 | .mapi f j,q,g=>∃r:QJ,g 0 (.map r)∧(match r with
  | none=>q=[]
  | some b=>F ⟨b,0,some 0⟩ (I8 f j q)∧(q.map (·.1)).Nodup)
theorem ah.mono{F F':Addr→Value→Prop}(B:∀a v,F a v→F' a v):
  ∀ {T:Ty} {x:T.den} {g g':Nat→Value→Prop},(∀k v,g k v→g' k v)→ah F T x g→ah F' T x g'
 | .int _,_,_,_,j,h=>j _ _ h
 | .bool,_,_,_,j,h=>j _ _ h
 | .str,_,_,_,j,h=>j _ _ h
 | .flt,_,_,_,j,⟨m,h,e⟩=>⟨m,j _ _ h,e⟩
 | .unit,_,_,_,_,_=>trivial
 | .prod a b,x,_,_,j,h=>⟨ah.mono B (T:=a) j h.1,ah.mono B (T:=b) (fun k v z=>j _ v z) h.2⟩
 | .slice a,xs,_,_,j,⟨ad,len,cap,D,hl,h⟩=>⟨ad,len,cap,j _ _ D,hl,fun i hi =>
   let ⟨b,hb,z⟩:=h i hi
   ⟨b,hb,ah.mono B (T:=a) (fun _ v z=>B _ v z) z⟩⟩
 | .ptr a,none,_,_,j,h=>j _ _ h
 | .ptr a,some y,_,_,j,⟨b,D,z⟩=>⟨b,j _ _ D,ah.mono B (T:=a) (fun _ v z=>B _ v z) z⟩
 | .tree _ _,t,_,_,j,h=>gw.mono B (fun k v _=>j k v) h
 | .arr _ _,_,_,_,j,h=>fun i hi=>j _ _ (h i hi)
 | .mapi _ _,_,_,_,j,⟨none,D,h⟩=>⟨none,j _ _ D,h⟩
 | .mapi _ _,_,_,_,j,⟨some b,D,h,hd⟩=>⟨some b,j _ _ D,B _ _ h,hd⟩
inductive ag where
 | p (β:Bool) (T:Ty) (x:T.den)
 | nils
 | nilp
 | lit (v:Value)
 | sl (id:Nat)
 | adr (id idx sz off:Nat)
 | ada (id base n i:Nat)
 | fad (β:Bool) (cs:List ag) (off:Nat)
 | agg (cs:List ag)
 | tup (cs:List ag)
 | fn (f:Nat) (caps:List ag)
 | mp (id:Nat)
 | lag (k:IntKind) (n:Nat) (xs:fh n) (cs:List ag)
 | suf (id lo sz:Nat)
 | bfn (f:Nat) (cs:List ag)
 | loc (β:Bool) (T:Ty) (x:T.den)
 | unk
mutual
def V(F:Bool→Addr→Value→Prop)(ρ:Nat→QW):ag→Value→Prop
 | .p β T x,v=>T.scalar=true∧ah (F β) T x (fun _ u=>u=v)
 | .nils,v=>v = .slice none 0 0
 | .nilp,v=>v = .pointer none
 | .lit u,v=>v=u
 | .sl id,v=>ρ id=some v∧∃a n c,v = .slice a n c
 | .mp id,v=>ρ id=some v∧∃r,v = .map r
 | .adr id i sz off,v=>∃g,(ρ id=some (.pointer (some ⟨g,0,none⟩))∨∃n c,ρ id=some (.slice (some ⟨g,0,none⟩) n c))∧v = .pointer (some ⟨g,i*sz+off,none⟩)
 | .ada id base n i,v=>∃g,ρ id=some (.pointer (some ⟨g,0,none⟩))∧v = .pointer (some ⟨g,base+i,none⟩)∧i<n
 | .fad β cs off,v=>∃ad:Addr,v = .pointer (some (ad.add off))∧VL F ρ cs (fun k u=>F β (ad.add k) u)
 | .agg cs,v=>∃vs:QU,v = .agg vs∧vs.size=cs.length∧VL F ρ cs (fun k u=>vs[k]? = some u)
 | .tup cs,v=>∃vs:QU,v = .tuple vs∧vs.size=cs.length∧VL F ρ cs (fun k u=>vs[k]? = some u)
 | .fn f z,v=>∃vs:QU,v = .func (.func f) #[] vs∧vs.size=z.length∧VL F ρ z (fun k u=>vs[k]? = some u)
 | .lag k _ xs cs,v=>∃vs:QY,v = .agg (xs.1.map (Value.int k)++vs).toArray∧vs.length=cs.length∧VL F ρ cs (fun j u=>vs[j]? = some u)
 | .suf id lo sz,v=>∃ad n c,ρ id=some (.slice ad n c)∧lo≤n∧n≤c∧v = .slice (if c=lo then ad else ad.map (fun x=>x.add (lo*sz))) (n - lo) (c - lo)
 | .bfn f cs,v=>∃vs:QU,v = .func (.func f) vs #[]∧vs.size=cs.length∧VL F ρ cs (fun k u=>vs[k]? = some u)
 | .loc β T x,v=>∃ad:Addr,v = .pointer (some ad)∧ah (F β) T x (fun k u=>F β (ad.add k) u)
 | .unk,_=>True
def VL(F:Bool→Addr→Value→Prop)(ρ:Nat→QW):List ag→(Nat→Value→Prop)→Prop
 | [],_=>True
 | x::xs,g=>(∃u,g 0 u∧V F ρ x u)∧VL F ρ xs (fun k u=>g (k+1) u)
end
mutual
theorem V.mono{F F':Bool→Addr→Value→Prop}{ρ ρ':Nat→QW}(D:∀β a v,F β a v→F' β a v)(j:∀i u,ρ i=some u→ρ' i=some u):
  ∀ {x:ag} {v:Value},V F ρ x v→V F' ρ' x v
 | .p _ _ _,_,h=>by
  simp only[V]at h ⊢;exact⟨h.1,ah.mono (D _) (fun _ _ h=>h) h.2⟩
 | .nils,_,h=>by simpa only [V]using h
 | .nilp,_,h=>by simpa only [V]using h
 | .lit _,_,h=>by simpa only [V]using h
 | .sl _,_,h=>by simp only[V]at h ⊢;exact⟨j _ _ h.1,h.2⟩
 | .mp _,_,h=>by simp only[V]at h ⊢;exact⟨j _ _ h.1,h.2⟩
 | .adr _ _ _ _,_,h=>by
  simp only[V]at h ⊢;obtain⟨g,z,B⟩:=h;exact⟨g,z.imp (j _ _) (fun⟨n,c,h⟩=>⟨n,c,j _ _ h⟩),B⟩
 | .ada _ _ _ _,_,h=>by
  simp only[V]at h ⊢;obtain⟨g,z,B⟩:=h;exact⟨g,j _ _ z,B⟩
 | .fad _ cs _,_,h=>by
  simp only[V]at h ⊢;obtain⟨ad,z,B⟩:=h;exact⟨ad,z,VL.mono D j (fun _ _ h=>D _ _ _ h) B⟩
 | .agg cs,_,h=>by
  simp only[V]at h ⊢;obtain⟨vs,z,B,E⟩:=h;exact⟨vs,z,B,VL.mono D j (fun _ _ h=>h) E⟩
 | .tup cs,_,h=>by
  simp only[V]at h ⊢;obtain⟨vs,z,B,E⟩:=h;exact⟨vs,z,B,VL.mono D j (fun _ _ h=>h) E⟩
 | .fn _ cs,_,h=>by
  simp only[V]at h ⊢;obtain⟨vs,z,B,E⟩:=h;exact⟨vs,z,B,VL.mono D j (fun _ _ h=>h) E⟩
 | .lag _ _ _ cs,_,h=>by
  simp only[V]at h ⊢;obtain⟨vs,z,B,E⟩:=h;exact⟨vs,z,B,VL.mono D j (fun _ _ h=>h) E⟩
 | .suf _ _ _,_,h=>by
  simp only[V]at h ⊢;obtain⟨ad,n,c,z,B⟩:=h;exact⟨ad,n,c,j _ _ z,B⟩
 | .bfn _ cs,_,h=>by
  simp only[V]at h ⊢;obtain⟨vs,z,B,E⟩:=h;exact⟨vs,z,B,VL.mono D j (fun _ _ h=>h) E⟩
 | .loc β _ _,_,h=>by
  simp only[V]at h ⊢;obtain⟨ad,z,B⟩:=h;exact⟨ad,z,ah.mono (D _) (fun _ _ h=>D _ _ _ h) B⟩
 | .unk,_,_=>by simp only[V]
theorem VL.mono{F F':Bool→Addr→Value→Prop}{ρ ρ':Nat→QW}(D:∀β a v,F β a v→F' β a v)(j:∀i u,ρ i=some u→ρ' i=some u):
  ∀ {xs:List ag} {g g':Nat→Value→Prop},(∀k u,g k u→g' k u)→VL F ρ xs g→VL F' ρ' xs g'
 | [],_,_,_,_=>by simp only[VL]
 | x::xs,_,_,I,h=>by simp only[VL]at h ⊢;obtain⟨⟨u,z,B⟩,E⟩:=h;exact⟨⟨u,I _ _ z,V.mono D j B⟩,VL.mono D j (fun _ _ h=>I _ _ h) E⟩
end
section
variable{F:Bool→Addr→Value→Prop}{ρ:Nat→QW}
theorem VL.get:∀ {xs:List ag} {g:Nat→Value→Prop},VL F ρ xs g→∀ {k:Nat} {x:ag},xs[k]? = some x→∃u,g k u∧V F ρ x u
 | [],_,_,_,_,hk=>by simp at hk
 | y::e,g,h,0,x,hk=>by
  simp only[VL]at h;simp at hk;subst hk;exact h.1
 | y::e,g,h,k+1,x,hk=>by
  simp only[VL]at h;exact VL.get h.2 (by simpa using hk)
theorem VL.mk:∀ {xs:List ag} {g:Nat→Value→Prop},(∀k x,xs[k]? = some x→∃u,g k u∧V F ρ x u)→VL F ρ xs g
 | [],_,_=>by simp only[VL]
 | y::e,g,h=>by
  simp only[VL];exact⟨h 0 y (by simp),VL.mk fun k x hk=>h (k+1) x (by simpa using hk)⟩
theorem VL.append{xs ys:List ag}{g:Nat→Value→Prop}(e:VL F ρ xs g)(j:VL F ρ ys (fun k u=>g (xs.length+k) u)):VL F ρ (xs++ys) g:=by
 refine VL.mk fun k x hk=>?_
 rcases Nat.lt_or_ge k xs.length with h | h
 ·rw[List.getElem?_append_left h]at hk;exact VL.get e hk
 ·rw[List.getElem?_append_right h]at hk;obtain⟨u,a,b⟩:=VL.get j hk;exact⟨u,by rwa [Nat.add_sub_cancel' h]at a,b⟩
end
def flat(β:Bool):(T:Ty)→T.den→List ag
 | .unit,_=>[]
 | .prod a b,x=>flat β a x.1++flat β b x.2
 | .int k,n=>[.p false (.int k) n]
 | .bool,n=>[.p false .bool n]
 | .str,n=>[.p false .str n]
 | .flt,n=>[.p false .flt n]
 | .slice a,n=>[.p β (.slice a) n]
 | .ptr a,n=>[.p β (.ptr a) n]
 | .tree e f,t=>[.p false (.int e) t.op,.p false (.int f) t.set,.p β (.slice (.tree e f)) t.kids]
 | .arr k _,j=>j.1.map fun i=> .p false (.int k) i
 | .mapi e f,q=>[.p β (.mapi e f) q]
theorem eW(β:Bool):∀(T:Ty) (x:T.den),(flat β T x).length=T.size
 | .unit,_=>rfl
 | .prod a b,x=>by simp[flat,Ty.size,eW β a,eW β b]
 | .int _,_=>rfl
 | .bool,_=>rfl
 | .str,_=>rfl
 | .flt,_=>rfl
 | .slice _,_=>rfl
 | .ptr _,_=>rfl
 | .tree _ _,_=>rfl
 | .arr _ _,x=>by simp[flat,Ty.size,x.2]
 | .mapi _ _,_=>rfl
theorem jB{F:Bool→Addr→Value→Prop}{ρ:Nat→QW}(β:Bool):∀(T:Ty) (x:T.den) (g:Nat→Value→Prop),ah (F β) T x g→VL F ρ (flat β T x) g
 | .unit,_,_,_=>by simp only[flat,VL]
 | .prod a b,x,g,h=>by
  simp only[flat];exact VL.append (jB β a _ _ h.1) (by rw[eW];exact jB β b _ _ h.2)
 | .int k,n,g,h=>by simp only[flat,VL,V];exact⟨⟨_,h,rfl,rfl⟩,trivial⟩
 | .bool,n,g,h=>by simp only[flat,VL,V];exact⟨⟨_,h,rfl,rfl⟩,trivial⟩
 | .str,n,g,h=>by simp only[flat,VL,V];exact⟨⟨_,h,rfl,rfl⟩,trivial⟩
 | .flt,n,g,⟨m,h,e⟩=>by simp only[flat,VL,V];exact⟨⟨_,h,rfl,m,rfl,e⟩,trivial⟩
 | .slice a,n,g,⟨ad,len,cap,j,f,q⟩=>by simp only[flat,VL,V];exact⟨⟨_,j,rfl,⟨ad,len,cap,rfl,f,q⟩⟩,trivial⟩
 | .ptr a,none,g,h=>by simp only[flat,VL,V];exact⟨⟨_,h,rfl,rfl⟩,trivial⟩
 | .ptr a,some y,g,⟨b,j,f⟩=>by simp only[flat,VL,V];exact⟨⟨_,j,rfl,⟨b,rfl,f⟩⟩,trivial⟩
 | .tree C D,.node o s E,g,h=>by
  simp only[ah,gw]at h;obtain⟨f,q,ad,len,cap,u,z,B⟩:=h;simp only[flat,VL,V,Tree.op,Tree.set,Tree.kids];exact⟨⟨_,f,rfl,rfl⟩,⟨_,q,rfl,rfl⟩,⟨_,u,rfl,⟨ad,len,cap,rfl,z,fun i hi=>(fg.get B i hi).pull⟩⟩,trivial⟩
 | .arr k n,x,g,h=>by
  simp only[flat];refine VL.mk fun i y p=>?_
  rw[List.getElem?_map]at p;rcases Nat.lt_or_ge i x.1.length with hi | hi
  ·rw[List.getElem?_eq_getElem hi]at p;cases p;exact⟨_,h i hi,by simp only[V,ah];exact⟨rfl,trivial⟩⟩
  ·rw[List.getElem?_eq_none hi]at p;cases p
 | .mapi _ _,_,g,⟨r,j,f⟩=>by simp only[flat,VL,V];exact⟨⟨_,j,rfl,⟨r,rfl,f⟩⟩,trivial⟩
def DO(k:IntKind):List ag→Option QK
 | []=>some []
 | .p _ (.int e) x::r=>if e=k then(match DO k r with
  | some l=>some (x::l)
  | none=>none)else none
 | _=>none
theorem tE{F:Bool→Addr→Value→Prop}{ρ:Nat→QW}{k:IntKind}:∀ {j:List ag} {l:QK},DO k j=some l→l.length=j.length∧∀ {g:Nat→Value→Prop},VL F ρ j g→∀i (h:i<l.length),g i (.int k l[i])
 | [],l,h=>by
  cases h;exact⟨rfl,fun _ i hi=>absurd hi (by simp)⟩
 | c::r,l,h=>by
  unfold DO at h;split at h
  ·rename_i e;cases e
  ·rename_i β C x D e;cases e;split at h
   ·rename_i v;subst v;split at h
    ·rename_i E z;cases h;obtain⟨A,B⟩:=tE z;refine⟨by simp[A],fun {g} f i hi=>?_⟩;simp only[VL]at f;obtain⟨⟨u,p,q⟩,f⟩:=f;cases i with
     | zero =>
      simp only[V,ah]at q;rw[←q.2]at p;exact p
     | succ i=>exact B f i (by simpa using hi)
    ·cases h
   ·cases h
  ·cases h
def Kc(T:Ty):ag→Option T.den
 | .p β S x=>if h:S=T then(if S.isRef && β then none else some (h ▸ x))else none
 | .nils=>match T with
  | .slice _=>some []
  | _=>none
 | .nilp=>match T with
  | .ptr _=>some none
  | _=>none
 | .lit (.map none)=>match T with
  | .mapi _ _=>some []
  | _=>none
 | _=>none
def one(T:Ty):List ag→Option (T.den×List ag)
 | c::e=>match Kc T c with
  | some x=>some (x,e)
  | none=>none
 | []=>none
def iz:(T:Ty)→List ag→Option (T.den×List ag)
 | .unit,e=>some ((),e)
 | .prod a b,e=>match iz a e with
  | some (x,e)=>match iz b e with
   | some (y,e)=>some ((x,y),e)
   | none=>none
  | none=>none
 | .int k,e=>one (.int k) e
 | .bool,e=>one .bool e
 | .str,e=>one .str e
 | .flt,e=>one .flt e
 | .slice a,e=>one (.slice a) e
 | .ptr a,e=>one (.ptr a) e
 | .tree f j,e=>match one (.int f) e with
  | some (o,e)=>match one (.int j) e with
   | some (s,e)=>match one (.slice (.tree f j)) e with
    | some (p,e)=>some (Tree.node o s p,e)
    | none=>none
   | none=>none
  | none=>none
 | .arr k n,e=>match DO k (e.take n)with
  | some l=>if h:l.length=n then some (⟨l,h⟩,e.drop n)else none
  | none=>none
 | .mapi f j,e=>one (.mapi f j) e
end Go.Tv
