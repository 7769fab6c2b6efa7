/- Floating-point numbers: what is no number is one datum. -/
import GoSem.Claims
import Derived.WalkKit
import Derived.Below
namespace Go.Tv
open Go
def eK(n:Nat):Option Nat:=if(FloatKind.f64.decode n).isNaN then none else some n
def fOp(op:BinOp)(x y:Nat):Option Nat :=
 match op with
 | .add=>FloatKind.f64.format.add x y
 | .sub=>FloatKind.f64.format.sub x y
 | .mul=>FloatKind.f64.format.mul x y
 | _=>FloatKind.f64.format.div x y
def cC(op:BinOp)(a b:Option Nat):Option Nat :=
 match a,b with
 | some x,some y=>(fOp op x y).bind eK
 | _,_=>none
def L5(a b:Option Nat):Option Ordering :=
 match a,b with
 | some x,some y=>FloatKind.f64.format.order x y
 | _,_=>none
def fEq(a b:Option Nat):Bool:=L5 a b == some .eq
def fLt(a b:Option Nat):Bool:=L5 a b == some .lt
def fGt(a b:Option Nat):Bool:=L5 a b == some .gt
def fLe(a b:Option Nat):Bool:=L5 a b == some .lt || L5 a b == some .eq
def fGe(a b:Option Nat):Bool:=L5 a b == some .gt || L5 a b == some .eq
def sZ(a:Option Nat):Option Int:=a.bind fun n=>(FloatKind.f64.decode n).toInt .zero
def ofInt(n:Int):Option Nat:=eK (FloatKind.f64.nearest n)
theorem zZ{n:Nat}(h:eK n=none):∃s t,FloatKind.f64.format.read n = .nan s t:=by
 unfold eK at h
 split at h
 ·rename_i hn
  unfold Ieee.Datum.isNaN FloatKind.decode at hn
  cases hd:FloatKind.f64.format.read n with
  | nan s t=>exact⟨s,t,rfl⟩
  | number _ _ _=>rw[hd]at hn;cases hn
  | infinity _=>rw[hd]at hn;cases hn
 ·cases h
theorem lR{n m:Nat}(h:eK n=some m):m=n:=by
 unfold eK at h
 split at h
 ·cases h
 ·exact(Option.some.inj h).symm
theorem aFq(x y:Nat):L5 (eK x) (eK y)=FloatKind.f64.format.order x y:=by
 cases hx:eK x with
 | none =>
  obtain⟨s,t,e⟩:=zZ hx
  simp only[L5,Ieee.Format.order,e]
  rfl
 | some a =>
  obtain rfl:=lR hx
  cases hy:eK y with
  | none =>
   obtain⟨s,t,e⟩:=zZ hy
   simp only[L5,Ieee.Format.order,e]
   cases FloatKind.f64.format.read a <;> rfl
  | some b =>
   obtain rfl:=lR hy
   rfl
theorem aGh(op:BinOp)(x y:Nat):cC op (eK x) (eK y)=(fOp op x y).bind eK:=by
 cases hx:eK x with
 | none =>
  obtain⟨s,t,e⟩:=zZ hx
  cases op <;> simp only[cC,fOp,Ieee.Format.add,Ieee.Format.sub,Ieee.Format.mul,Ieee.Format.div,e] <;> rfl
 | some a =>
  obtain rfl:=lR hx
  cases hy:eK y with
  | none =>
   obtain⟨s,t,e⟩:=zZ hy
   cases op <;> simp only[cC,fOp,Ieee.Format.add,Ieee.Format.sub,Ieee.Format.mul,Ieee.Format.div,e] <;> cases FloatKind.f64.format.read a <;> rfl
  | some b =>
   obtain rfl:=lR hy
   rfl
theorem aE6(n:Nat)(h:FloatKind.f64.format.infRung<n % FloatKind.f64.format.signWeight):eK n=none:=by
 have hb:FloatKind.f64.format.binade≤FloatKind.f64.format.infRung:=by decide
 unfold eK FloatKind.decode Ieee.Format.read
 rw[if_pos]
 rw[if_neg (by omega),if_neg (by omega),if_neg (by omega)]
 rfl
theorem aIU(x y t:Nat):eK (Question.cut (.nanBits .f64 x y) t)=none:=by
 refine aE6 _ ?_
 have e1:FloatKind.f64.format.infRung=0x7ff0000000000000:=by decide
 have e2:FloatKind.f64.format.signWeight=2 ^ 63:=by decide
 have e3:Question.cut (.nanBits .f64 x y) t=t % 2*2 ^ 63+0x7ff0000000000000+1+t / 2 % (2 ^ 52 - 1):=rfl
 rw[e1,e2,e3]
 have hr:t / 2 % (2 ^ 52 - 1)<2 ^ 52 - 1:=Nat.mod_lt _ (by decide)
 generalize t / 2 % (2 ^ 52 - 1)=r at hr ⊢
 rcases Nat.mod_two_eq_zero_or_one t with e | e <;> rw[e] <;> omega
section
variable{P:Program}{w:World}
theorem aFa{op:BinOp}(ho:op = .add∨op = .sub∨op = .mul∨op = .quo)(x y:Nat):
  ∃n w',(Op.floatArith op .f64 x y).run P w = .ok (.float .f64 n) w'∧(w'=w∨w'=w.drew)∧eK n=cC op (eK x) (eK y):=by
 rw[aGh]
 have key:∀(r:Option Nat),∃n w',(match r with
   | some r=>pure (.float .f64 r)
   | none=>do pure (.float .f64 (←choose (.nanBits .f64 x y))):Sem Value).run P w = .ok (.float .f64 n) w'∧(w'=w∨w'=w.drew)∧eK n=r.bind eK:=fun r=>by
  cases r with
  | some r=>exact⟨r,w,rfl,.inl rfl,rfl⟩
  | none=>exact⟨_,w.drew,by simp only[Sem.run_bind,run_choose_drew,Question.forced];rfl,.inr rfl,aIU x y _⟩
 rcases ho with rfl | rfl | rfl | rfl <;> exact key _
end
end Go.Tv
namespace Go.Tv
open Go Go.RowKit
inductive Tree where
 | node (op set:Int) (kids:List Tree)
def Tree.op:Tree→Int
 | .node o _ _=>o
def Tree.set:Tree→Int
 | .node _ s _=>s
def Tree.kids:Tree→List Tree
 | .node _ _ ks=>ks
abbrev Arr(n:Nat):= { xs:List Int // xs.length=n }
def gB{n:Nat}(x:Arr n)(i:Nat):Int:=x.1.getD i 0
def z9{n:Nat}(x:Arr n)(i:Nat)(v:Int):Arr n:=⟨x.1.set i v,by rw[List.length_set];exact x.2⟩
def eA(n:Nat):Arr n:=⟨List.replicate n 0,List.length_replicate⟩
def aeq{n:Nat}(x y:Arr n):Bool:=x.1 == y.1
def aKP(k1 k2:IntKind)(kv:List (Int×Int)):Value:= .tuple (kv.map fun p=>Value.tuple #[.int k1 p.1,.int k2 p.2]).toArray
inductive Ty where
 | int (k:IntKind)
 | bool
 | str
 | flt
 | unit
 | prod (a b:Ty)
 | slice (a:Ty)
 | ptr (a:Ty)
 | tree (k1 k2:IntKind)
 | arr (k:IntKind) (n:Nat)
 | mapi (k1 k2:IntKind)
 deriving DecidableEq
@[reducible] def Ty.den:Ty→Type
 | .int _=>Int
 | .bool=>Bool
 | .str=>List UInt8
 | .flt=>Option Nat
 | .unit=>Unit
 | .prod a b=>a.den×b.den
 | .slice a=>List a.den
 | .ptr a=>Option a.den
 | .tree _ _=>Tree
 | .arr _ n=>Arr n
 | .mapi _ _=>List (Int×Int)
def Ty.size:Ty→Nat
 | .unit=>0
 | .prod a b=>a.size+b.size
 | .tree _ _=>3
 | .arr _ n=>n
 | _=>1
def Ty.scalar:Ty→Bool
 | .unit=>false
 | .prod _ _=>false
 | .tree _ _=>false
 | .arr _ _=>false
 | _=>true
def Ty.isRef:Ty→Bool
 | .slice _=>true
 | .ptr _=>true
 | .mapi _ _=>true
 | _=>false
def Ty.zero:(T:Ty)→T.den
 | .int _=>(0:Int)
 | .bool=>false
 | .str=>([]:List UInt8)
 | .flt=>(some 0:Option Nat)
 | .unit=>()
 | .prod a b=>(a.zero,b.zero)
 | .slice a=>([]:List a.den)
 | .ptr a=>(none:Option a.den)
 | .tree _ _=>Tree.node 0 0 []
 | .arr _ n=>eA n
 | .mapi _ _=>([]:List (Int×Int))
theorem Ty.size_scalar{T:Ty}(h:T.scalar=true):T.size=1:=by cases T <;> simp[Ty.scalar,Ty.size]at *
mutual
def Vtree(F:Addr→Value→Prop)(k1 k2:IntKind):Tree→(Nat→Value→Prop)→Prop
 | .node o s ks,g=>g 0 (.int k1 o)∧g 1 (.int k2 s)∧∃(ad:Option Addr) (len cap:Nat),g 2 (.slice ad len cap)∧(len=ks.length∧len≤cap)∧Vtrees F k1 k2 ks (fun i k v=>∃b,ad=some b∧F (b.add (i*3+k)) v)
def Vtrees(F:Addr→Value→Prop)(k1 k2:IntKind):List Tree→(Nat→Nat→Value→Prop)→Prop
 | [],_=>True
 | t::ts,G=>Vtree F k1 k2 t (G 0)∧Vtrees F k1 k2 ts (fun i=>G (i+1))
end
mutual
theorem Vtree.mono{F F':Addr→Value→Prop}{k1 k2:IntKind}(hF:∀a v,F a v→F' a v):∀ {t:Tree} {g g':Nat→Value→Prop},(∀k v,k<3→g k v→g' k v)→Vtree F k1 k2 t g→Vtree F' k1 k2 t g'
 | .node o s ks,g,g',hg,h=>by
  simp only[Vtree]at h ⊢
  obtain⟨h1,h2,ad,len,cap,h3,h4,h5⟩:=h
  exact⟨hg _ _ (by decide) h1,hg _ _ (by decide) h2,ad,len,cap,hg _ _ (by decide) h3,h4,Vtrees.mono hF (fun i k v _ ⟨b,e,hv⟩=>⟨b,e,hF _ _ hv⟩) h5⟩
theorem Vtrees.mono{F F':Addr→Value→Prop}{k1 k2:IntKind}(hF:∀a v,F a v→F' a v):∀ {ts:List Tree} {G G':Nat→Nat→Value→Prop},(∀i k v,k<3→G i k v→G' i k v)→Vtrees F k1 k2 ts G→Vtrees F' k1 k2 ts G'
 | [],_,_,_,_=>by simp only[Vtrees]
 | t::ts,G,G',hG,h=>by
  simp only[Vtrees]at h ⊢
  exact⟨Vtree.mono hF (hG 0) h.1,Vtrees.mono hF (fun i=>hG (i+1)) h.2⟩
end
theorem Vtrees.get{F:Addr→Value→Prop}{k1 k2:IntKind}:∀ {ts:List Tree} {G:Nat→Nat→Value→Prop},Vtrees F k1 k2 ts G→∀i (h:i<ts.length),Vtree F k1 k2 ts[i] (G i)
 | [],_,_,i,h=>absurd h (by simp)
 | t::ts,G,hv,0,_=>by simp only[Vtrees]at hv;exact hv.1
 | t::ts,G,hv,i+1,h=>by simp only[Vtrees]at hv;exact Vtrees.get hv.2 i (by simpa using h)
theorem Vtrees.mk{F:Addr→Value→Prop}{k1 k2:IntKind}:∀ {ts:List Tree} {G:Nat→Nat→Value→Prop},(∀i (h:i<ts.length),Vtree F k1 k2 ts[i] (G i))→Vtrees F k1 k2 ts G
 | [],_,_=>by simp only[Vtrees]
 | t::ts,G,hv=>by
  simp only[Vtrees]
  exact⟨hv 0 (by simp),Vtrees.mk fun i h=>hv (i+1) (by simpa using h)⟩
theorem Vtree.pull{F:Addr→Value→Prop}{k1 k2:IntKind}{t:Tree}{ad:Option Addr}{i:Nat}(h:Vtree F k1 k2 t (fun k v=>∃b,ad=some b∧F (b.add (i*3+k)) v)):∃b,ad=some b∧Vtree F k1 k2 t (fun k v=>F (b.add (i*3+k)) v):=by
 have h':=h
 match t with
 | .node o s ks =>
  simp only[Vtree]at h
  obtain⟨⟨b,e,_⟩,_⟩:=h
  refine⟨b,e,Vtree.mono (fun _ _ h=>h) (fun k v _ ⟨b',e',hv⟩=> ?_) h'⟩
  rw[e]at e'
  cases e'
  exact hv
def Vcells(F:Addr→Value→Prop):(T:Ty)→T.den→(Nat→Value→Prop)→Prop
 | .int k,n,g=>g 0 (.int k n)
 | .bool,b,g=>g 0 (.bool b)
 | .str,s,g=>g 0 (.string ⟨s.toArray⟩)
 | .flt,n,g=>∃m,g 0 (.float .f64 m)∧eK m=n
 | .unit,_,_=>True
 | .prod a b,x,g=>Vcells F a x.1 g∧Vcells F b x.2 (fun k v=>g (a.size+k) v)
 | .slice a,xs,g=>∃(ad:Option Addr) (len cap:Nat),g 0 (.slice ad len cap)∧(len=xs.length∧len≤cap) ∧
   ∀i (h:i<xs.length),∃b,ad=some b∧Vcells F a xs[i] (fun k v=>F (b.add (i*a.size+k)) v)
 | .ptr a,x,g=>match x with
  | none=>g 0 (.pointer none)
  | some y=>∃b:Addr,g 0 (.pointer (some b))∧Vcells F a y (fun k v=>F (b.add k) v)
 | .tree k1 k2,t,g=>Vtree F k1 k2 t g
 | .arr k _,xs,g=>∀i (h:i<xs.1.length),g i (.int k xs.1[i])
 | .mapi k1 k2,kv,g=>∃r:Option Nat,g 0 (.map r)∧(match r with
  | none=>kv=[]
  | some b=>F ⟨b,0,some 0⟩ (aKP k1 k2 kv)∧(kv.map (·.1)).Nodup)
theorem Vcells.mono{F F':Addr→Value→Prop}(hF:∀a v,F a v→F' a v):
  ∀ {T:Ty} {x:T.den} {g g':Nat→Value→Prop},(∀k v,g k v→g' k v)→Vcells F T x g→Vcells F' T x g'
 | .int _,_,_,_,hg,h=>hg _ _ h
 | .bool,_,_,_,hg,h=>hg _ _ h
 | .str,_,_,_,hg,h=>hg _ _ h
 | .flt,_,_,_,hg,⟨m,h,e⟩=>⟨m,hg _ _ h,e⟩
 | .unit,_,_,_,_,_=>trivial
 | .prod a b,x,_,_,hg,h=>⟨Vcells.mono hF (T:=a) hg h.1,Vcells.mono hF (T:=b) (fun k v hv=>hg _ v hv) h.2⟩
 | .slice a,xs,_,_,hg,⟨ad,len,cap,h0,hl,h⟩=>⟨ad,len,cap,hg _ _ h0,hl,fun i hi =>
   let ⟨b,hb,hv⟩:=h i hi
   ⟨b,hb,Vcells.mono hF (T:=a) (fun _ v hv=>hF _ v hv) hv⟩⟩
 | .ptr a,none,_,_,hg,h=>hg _ _ h
 | .ptr a,some y,_,_,hg,⟨b,h0,hv⟩=>⟨b,hg _ _ h0,Vcells.mono hF (T:=a) (fun _ v hv=>hF _ v hv) hv⟩
 | .tree k1 k2,t,_,_,hg,h=>Vtree.mono hF (fun k v _=>hg k v) h
 | .arr _ _,_,_,_,hg,h=>fun i hi=>hg _ _ (h i hi)
 | .mapi _ _,_,_,_,hg,⟨none,h0,h⟩=>⟨none,hg _ _ h0,h⟩
 | .mapi _ _,_,_,_,hg,⟨some b,h0,h,hd⟩=>⟨some b,hg _ _ h0,hF _ _ h,hd⟩
inductive AVal where
 | p (β:Bool) (T:Ty) (x:T.den)
 | nils
 | nilp
 | lit (v:Value)
 | sl (id:Nat)
 | adr (id idx sz off:Nat)
 | ada (id base n i:Nat)
 | fad (β:Bool) (cs:List AVal) (off:Nat)
 | agg (cs:List AVal)
 | tup (cs:List AVal)
 | fn (f:Nat) (caps:List AVal)
 | mp (id:Nat)
 | lag (k:IntKind) (n:Nat) (xs:Arr n) (cs:List AVal)
 | suf (id lo sz:Nat)
 | bfn (f:Nat) (cs:List AVal)
 | loc (β:Bool) (T:Ty) (x:T.den)
 | unk
mutual
def V(F:Bool→Addr→Value→Prop)(ρ:Nat→Option Value):AVal→Value→Prop
 | .p β T x,v=>T.scalar=true∧Vcells (F β) T x (fun _ u=>u=v)
 | .nils,v=>v = .slice none 0 0
 | .nilp,v=>v = .pointer none
 | .lit u,v=>v=u
 | .sl id,v=>ρ id=some v∧∃a n c,v = .slice a n c
 | .mp id,v=>ρ id=some v∧∃r,v = .map (some r)
 | .adr id i sz off,v=>∃g,(ρ id=some (.pointer (some ⟨g,0,none⟩))∨∃n c,ρ id=some (.slice (some ⟨g,0,none⟩) n c))∧v = .pointer (some ⟨g,i*sz+off,none⟩)
 | .ada id base n i,v=>∃g,ρ id=some (.pointer (some ⟨g,0,none⟩))∧v = .pointer (some ⟨g,base+i,none⟩)∧i<n
 | .fad β cs off,v=>∃ad:Addr,v = .pointer (some (ad.add off))∧VL F ρ cs (fun k u=>F β (ad.add k) u)
 | .agg cs,v=>∃vs:Array Value,v = .agg vs∧vs.size=cs.length∧VL F ρ cs (fun k u=>vs[k]? = some u)
 | .tup cs,v=>∃vs:Array Value,v = .tuple vs∧vs.size=cs.length∧VL F ρ cs (fun k u=>vs[k]? = some u)
 | .fn f caps,v=>∃vs:Array Value,v = .func (.func f) #[] vs∧vs.size=caps.length∧VL F ρ caps (fun k u=>vs[k]? = some u)
 | .lag k _ xs cs,v=>∃vs:List Value,v = .agg (xs.1.map (Value.int k)++vs).toArray∧vs.length=cs.length∧VL F ρ cs (fun j u=>vs[j]? = some u)
 | .suf id lo sz,v=>∃ad n c,ρ id=some (.slice ad n c)∧lo≤n∧n≤c∧v = .slice (if c=lo then ad else ad.map (fun x=>x.add (lo*sz))) (n - lo) (c - lo)
 | .bfn f cs,v=>∃vs:Array Value,v = .func (.func f) vs #[]∧vs.size=cs.length∧VL F ρ cs (fun k u=>vs[k]? = some u)
 | .loc β T x,v=>∃ad:Addr,v = .pointer (some ad)∧Vcells (F β) T x (fun k u=>F β (ad.add k) u)
 | .unk,_=>True
def VL(F:Bool→Addr→Value→Prop)(ρ:Nat→Option Value):List AVal→(Nat→Value→Prop)→Prop
 | [],_=>True
 | x::xs,g=>(∃u,g 0 u∧V F ρ x u)∧VL F ρ xs (fun k u=>g (k+1) u)
end
mutual
theorem V.mono{F F':Bool→Addr→Value→Prop}{ρ ρ':Nat→Option Value}(hF:∀β a v,F β a v→F' β a v)(hρ:∀i u,ρ i=some u→ρ' i=some u):
  ∀ {x:AVal} {v:Value},V F ρ x v→V F' ρ' x v
 | .p _ _ _,_,h=>by
  simp only[V]at h ⊢
  exact⟨h.1,Vcells.mono (hF _) (fun _ _ h=>h) h.2⟩
 | .nils,_,h=>by simpa only [V]using h
 | .nilp,_,h=>by simpa only [V]using h
 | .lit _,_,h=>by simpa only [V]using h
 | .sl _,_,h=>by simp only[V]at h ⊢;exact⟨hρ _ _ h.1,h.2⟩
 | .mp _,_,h=>by simp only[V]at h ⊢;exact⟨hρ _ _ h.1,h.2⟩
 | .adr _ _ _ _,_,h=>by
  simp only[V]at h ⊢
  obtain⟨g,h1,h2⟩:=h
  exact⟨g,h1.imp (hρ _ _) (fun⟨n,c,h⟩=>⟨n,c,hρ _ _ h⟩),h2⟩
 | .ada _ _ _ _,_,h=>by
  simp only[V]at h ⊢
  obtain⟨g,h1,h2⟩:=h
  exact⟨g,hρ _ _ h1,h2⟩
 | .fad _ cs _,_,h=>by
  simp only[V]at h ⊢
  obtain⟨ad,h1,h2⟩:=h
  exact⟨ad,h1,VL.mono hF hρ (fun _ _ h=>hF _ _ _ h) h2⟩
 | .agg cs,_,h=>by
  simp only[V]at h ⊢
  obtain⟨vs,h1,h2,h3⟩:=h
  exact⟨vs,h1,h2,VL.mono hF hρ (fun _ _ h=>h) h3⟩
 | .tup cs,_,h=>by
  simp only[V]at h ⊢
  obtain⟨vs,h1,h2,h3⟩:=h
  exact⟨vs,h1,h2,VL.mono hF hρ (fun _ _ h=>h) h3⟩
 | .fn _ cs,_,h=>by
  simp only[V]at h ⊢
  obtain⟨vs,h1,h2,h3⟩:=h
  exact⟨vs,h1,h2,VL.mono hF hρ (fun _ _ h=>h) h3⟩
 | .lag _ _ _ cs,_,h=>by
  simp only[V]at h ⊢
  obtain⟨vs,h1,h2,h3⟩:=h
  exact⟨vs,h1,h2,VL.mono hF hρ (fun _ _ h=>h) h3⟩
 | .suf _ _ _,_,h=>by
  simp only[V]at h ⊢
  obtain⟨ad,n,c,h1,h2⟩:=h
  exact⟨ad,n,c,hρ _ _ h1,h2⟩
 | .bfn _ cs,_,h=>by
  simp only[V]at h ⊢
  obtain⟨vs,h1,h2,h3⟩:=h
  exact⟨vs,h1,h2,VL.mono hF hρ (fun _ _ h=>h) h3⟩
 | .loc β _ _,_,h=>by
  simp only[V]at h ⊢
  obtain⟨ad,h1,h2⟩:=h
  exact⟨ad,h1,Vcells.mono (hF _) (fun _ _ h=>hF _ _ _ h) h2⟩
 | .unk,_,_=>by simp only[V]
theorem VL.mono{F F':Bool→Addr→Value→Prop}{ρ ρ':Nat→Option Value}(hF:∀β a v,F β a v→F' β a v)(hρ:∀i u,ρ i=some u→ρ' i=some u):
  ∀ {xs:List AVal} {g g':Nat→Value→Prop},(∀k u,g k u→g' k u)→VL F ρ xs g→VL F' ρ' xs g'
 | [],_,_,_,_=>by simp only[VL]
 | x::xs,_,_,hg,h=>by
  simp only[VL]at h ⊢
  obtain⟨⟨u,h1,h2⟩,h3⟩:=h
  exact⟨⟨u,hg _ _ h1,V.mono hF hρ h2⟩,VL.mono hF hρ (fun _ _ h=>hg _ _ h) h3⟩
end
section
variable{F:Bool→Addr→Value→Prop}{ρ:Nat→Option Value}
theorem VL.get:∀ {xs:List AVal} {g:Nat→Value→Prop},VL F ρ xs g→∀ {k:Nat} {x:AVal},xs[k]? = some x→∃u,g k u∧V F ρ x u
 | [],_,_,_,_,hk=>by simp at hk
 | y::ys,g,h,0,x,hk=>by
  simp only[VL]at h
  simp at hk
  subst hk
  exact h.1
 | y::ys,g,h,k+1,x,hk=>by
  simp only[VL]at h
  exact VL.get h.2 (by simpa using hk)
theorem VL.mk:∀ {xs:List AVal} {g:Nat→Value→Prop},(∀k x,xs[k]? = some x→∃u,g k u∧V F ρ x u)→VL F ρ xs g
 | [],_,_=>by simp only[VL]
 | y::ys,g,h=>by
  simp only[VL]
  exact⟨h 0 y (by simp),VL.mk fun k x hk=>h (k+1) x (by simpa using hk)⟩
theorem VL.append{xs ys:List AVal}{g:Nat→Value→Prop}(h1:VL F ρ xs g)(h2:VL F ρ ys (fun k u=>g (xs.length+k) u)):VL F ρ (xs++ys) g:=by
 refine VL.mk fun k x hk=> ?_
 rcases Nat.lt_or_ge k xs.length with h | h
 ·rw[List.getElem?_append_left h]at hk
  exact VL.get h1 hk
 ·rw[List.getElem?_append_right h]at hk
  obtain⟨u,a,b⟩:=VL.get h2 hk
  exact⟨u,by rwa [Nat.add_sub_cancel' h]at a,b⟩
end
def g5(β:Bool):(T:Ty)→T.den→List AVal
 | .unit,_=>[]
 | .prod a b,x=>g5 β a x.1++g5 β b x.2
 | .int k,n=>[.p false (.int k) n]
 | .bool,n=>[.p false .bool n]
 | .str,n=>[.p false .str n]
 | .flt,n=>[.p false .flt n]
 | .slice a,n=>[.p β (.slice a) n]
 | .ptr a,n=>[.p β (.ptr a) n]
 | .tree k1 k2,t=>[.p false (.int k1) t.op,.p false (.int k2) t.set,.p β (.slice (.tree k1 k2)) t.kids]
 | .arr k _,xs=>xs.1.map fun i=> .p false (.int k) i
 | .mapi k1 k2,kv=>[.p β (.mapi k1 k2) kv]
theorem fJ(β:Bool):∀(T:Ty) (x:T.den),(g5 β T x).length=T.size
 | .unit,_=>rfl
 | .prod a b,x=>by simp[g5,Ty.size,fJ β a,fJ β b]
 | .int _,_=>rfl
 | .bool,_=>rfl
 | .str,_=>rfl
 | .flt,_=>rfl
 | .slice _,_=>rfl
 | .ptr _,_=>rfl
 | .tree _ _,_=>rfl
 | .arr _ _,x=>by simp[g5,Ty.size,x.2]
 | .mapi _ _,_=>rfl
theorem lA{F:Bool→Addr→Value→Prop}{ρ:Nat→Option Value}(β:Bool):∀(T:Ty) (x:T.den) (g:Nat→Value→Prop),Vcells (F β) T x g→VL F ρ (g5 β T x) g
 | .unit,_,_,_=>by simp only[g5,VL]
 | .prod a b,x,g,h=>by
  simp only[g5]
  exact VL.append (lA β a _ _ h.1) (by rw[fJ];exact lA β b _ _ h.2)
 | .int k,n,g,h=>by simp only[g5,VL,V];exact⟨⟨_,h,rfl,rfl⟩,trivial⟩
 | .bool,n,g,h=>by simp only[g5,VL,V];exact⟨⟨_,h,rfl,rfl⟩,trivial⟩
 | .str,n,g,h=>by simp only[g5,VL,V];exact⟨⟨_,h,rfl,rfl⟩,trivial⟩
 | .flt,n,g,⟨m,h,e⟩=>by simp only[g5,VL,V];exact⟨⟨_,h,rfl,m,rfl,e⟩,trivial⟩
 | .slice a,n,g,⟨ad,len,cap,h0,h1,h2⟩=>by simp only[g5,VL,V];exact⟨⟨_,h0,rfl,⟨ad,len,cap,rfl,h1,h2⟩⟩,trivial⟩
 | .ptr a,none,g,h=>by simp only[g5,VL,V];exact⟨⟨_,h,rfl,rfl⟩,trivial⟩
 | .ptr a,some y,g,⟨b,h0,h1⟩=>by simp only[g5,VL,V];exact⟨⟨_,h0,rfl,⟨b,rfl,h1⟩⟩,trivial⟩
 | .tree k1 k2,.node o s ks,g,h=>by
  simp only[Vcells,Vtree]at h
  obtain⟨h1,h2,ad,len,cap,h3,h4,h5⟩:=h
  simp only[g5,VL,V,Tree.op,Tree.set,Tree.kids]
  exact⟨⟨_,h1,rfl,rfl⟩,⟨_,h2,rfl,rfl⟩,⟨_,h3,rfl,⟨ad,len,cap,rfl,h4,fun i hi=>(Vtrees.get h5 i hi).pull⟩⟩,trivial⟩
 | .arr k n,x,g,h=>by
  simp only[g5]
  refine VL.mk fun i y hy=> ?_
  rw[List.getElem?_map]at hy
  rcases Nat.lt_or_ge i x.1.length with hi | hi
  ·rw[List.getElem?_eq_getElem hi]at hy
   cases hy
   exact⟨_,h i hi,by simp only[V,Vcells];exact⟨rfl,trivial⟩⟩
  ·rw[List.getElem?_eq_none hi]at hy
   cases hy
 | .mapi _ _,_,g,⟨r,h0,h1⟩=>by simp only[g5,VL,V];exact⟨⟨_,h0,rfl,⟨r,rfl,h1⟩⟩,trivial⟩
def aFd(k:IntKind):List AVal→Option (List Int)
 | []=>some []
 | .p _ (.int k') x::r=>if k'=k then(match aFd k r with
  | some l=>some (x::l)
  | none=>none)else none
 | _=>none
theorem J2{F:Bool→Addr→Value→Prop}{ρ:Nat→Option Value}{k:IntKind}:∀ {cs:List AVal} {l:List Int},aFd k cs=some l→l.length=cs.length∧∀ {g:Nat→Value→Prop},VL F ρ cs g→∀i (h:i<l.length),g i (.int k l[i])
 | [],l,h=>by
  cases h
  exact⟨rfl,fun _ i hi=>absurd hi (by simp)⟩
 | c::r,l,h=>by
  unfold aFd at h
  split at h
  ·rename_i e;cases e
  ·rename_i β k' x r' e
   cases e
   split at h
   ·rename_i ek
    subst ek
    split at h
    ·rename_i l' h1
     cases h
     obtain⟨q1,q2⟩:=J2 h1
     refine⟨by simp[q1],fun {g} hg i hi=> ?_⟩
     simp only[VL]at hg
     obtain⟨⟨u,a1,a2⟩,hg⟩:=hg
     cases i with
     | zero =>
      simp only[V,Vcells]at a2
      rw[←a2.2]at a1
      exact a1
     | succ i=>exact q2 hg i (by simpa using hi)
    ·cases h
   ·cases h
  ·cases h
def aJX(T:Ty):AVal→Option T.den
 | .p β S x=>if h:S=T then(if S.isRef && β then none else some (h ▸ x))else none
 | .nils=>match T with
  | .slice _=>some []
  | _=>none
 | .nilp=>match T with
  | .ptr _=>some none
  | _=>none
 | .lit (.map none)=>match T with
  | .mapi _ _=>some []
  | _=>none
 | _=>none
def one(T:Ty):List AVal→Option (T.den×List AVal)
 | c::cs=>match aJX T c with
  | some x=>some (x,cs)
  | none=>none
 | []=>none
def jM:(T:Ty)→List AVal→Option (T.den×List AVal)
 | .unit,cs=>some ((),cs)
 | .prod a b,cs=>match jM a cs with
  | some (x,cs)=>match jM b cs with
   | some (y,cs)=>some ((x,y),cs)
   | none=>none
  | none=>none
 | .int k,cs=>one (.int k) cs
 | .bool,cs=>one .bool cs
 | .str,cs=>one .str cs
 | .flt,cs=>one .flt cs
 | .slice a,cs=>one (.slice a) cs
 | .ptr a,cs=>one (.ptr a) cs
 | .tree k1 k2,cs=>match one (.int k1) cs with
  | some (o,cs)=>match one (.int k2) cs with
   | some (s,cs)=>match one (.slice (.tree k1 k2)) cs with
    | some (ks,cs)=>some (Tree.node o s ks,cs)
    | none=>none
   | none=>none
  | none=>none
 | .arr k n,cs=>match aFd k (cs.take n)with
  | some l=>if h:l.length=n then some (⟨l,h⟩,cs.drop n)else none
  | none=>none
 | .mapi k1 k2,cs=>one (.mapi k1 k2) cs
end Go.Tv
