/- States, their relation to the model's, and how it is kept. -/
import Derived.Test.YtmcemnfjddoejaaGreatDoorTvFam
namespace Go
def World.qi(w:World)(a:Addr):Option Value :=
 match a.spot with
 | none=>w.cell? a
 | some _=>match w.heap[a.block]? with
  | some (.map f _)=>some (.tuple (f.map fun e=>Value.tuple #[e.key,e.val]))
  | _=>none
theorem World.gH{w:World}{a:Addr}{v:Value}(h:w.cell? a=some v):w.qi a=some v:=by
 unfold World.qi;split
 ·exact h
 ·rename_i s f;unfold World.cell? at h;split at h
  ·rw[f]at h;cases h
  ·cases h
theorem World.ji{w:World}{a:Addr}{v:Value}(h:w.qi a=some v)(f:v.oneCell'=true):w.cell? a=some v:=by
 unfold World.qi at h;split at h
 ·exact h
 ·split at h
  ·cases h;cases f
  ·cases h
theorem World.qw{w w':World}{a:Addr}(h:w'.heap[a.block]? = w.heap[a.block]?):w'.qi a=w.qi a:=by
 unfold World.qi;split
 ·exact World.cell?_of_block h
 ·rw[h]
theorem World.Ae{w:World}{a:Addr}{v:Value}(h:w.qi a=some v):a.block<w.heap.size:=by
 unfold World.qi at h;split at h
 ·exact World.block_lt_of_cell? w a h
 ·rcases Nat.lt_or_ge a.block w.heap.size with q | q
  ·exact q
  ·rw[Array.getElem?_eq_none q]at h;cases h
end Go
namespace Go.Tv
open Go Go.RowKit
inductive Obj where
 | arr (e:TypeId) (A:Ty) (xs:List A.den)
 | fz (A:Ty) (xs:List A.den)
 | box (cs:List ag)
 | mpo (K A:Ty) (kv:List (K.den×A.den))
 | mpl (K:Ty) (kv:List (K.den×Value))
 | mat (e e2:TypeId) (A:Ty) (xss:List (List A.den)) (ho:Option (Nat×Nat))
 | bytes (e:TypeId) (xs:List Int)
 | cutz (A:Ty) (xs:List A.den)
 | lmp (k:IntKind) (n:Nat) (xs:ep n) (cs:List ag)
 | vrow (n sz:Nat) (cs:List ag)
def Obj.live:Obj→Bool
 | .fz _ _=>false
 | .cutz _ _=>false
 | _=>true
structure St where
 s:Nat→ag
 h:Nat→Option Obj
 nx:Nat
 pn:Nat
def bH{α:Type}(f:Nat→α)(i:Nat)(x:α):Nat→α:=fun k=>if k=i then x else f k
theorem aw{α:Type}(f:Nat→α)(i:Nat)(x:α):bH f i x i=x:=by simp[bH]
theorem aB{α:Type}(f:Nat→α){i k:Nat}(x:α)(h:k≠i):bH f i x k=f k:=by simp[bH,h]
def iB:Value→Option Nat
 | .slice (some a) _ _=>some a.block
 | .pointer (some a)=>some a.block
 | .map r=>r
 | _=>none
def own(φ:Nat→Nat→Prop)(h:Nat→Option Obj)(k:Nat):Prop :=
 ∃id ob,h id=some ob∧ob.live=true∧φ id k
def Kg:List Int:=[0,1,28,2,29,14,24,3,30,22,20,15,25,17,4,8,31,27,13,23,21,19,16,7,26,12,18,6,11,5,10,9]
def uQ(P:Program)(w:World):Prop:=∀g,P.globalNamed "math/bits.deBruijn32tab" = some g→∀i,i<32→w.cell? ⟨g,i,none⟩=some (.int .u8 (Kg.getD i 0))
structure b9(P:Program) where
 w:World
 kp:Nat→Prop
 lt:∀k,kp k→k<w.heap.size
 pM:Nat→Option Value
 ld:uQ P w
 lk:∀g,P.globalNamed "math/bits.deBruijn32tab" = some g→kp g
structure Kept{P:Program}(b:b9 P)(w:World):Prop where
 os:w.os=b.w.os
 tape:w.tape=b.w.tape
 output:w.output=b.w.output
 size:b.w.heap.size≤w.heap.size
 block:∀k,b.kp k→w.heap[k]? = b.w.heap[k]?
def lv{P:Program}{w:World}(hl:uQ P w):b9 P:=⟨w,fun k=>k<w.heap.size,fun _ h=>h,fun _=>none,hl,fun g c=>World.block_lt_of_cell? w _ (hl g c 0 (by decide))⟩
section
variable{P:Program}
theorem Kept.refl(b:b9 P):Kept b b.w:=⟨rfl,rfl,rfl,Nat.le_refl _,fun _ _=>rfl⟩
theorem Kept.drew{b:b9 P}{w:World}(h:Kept b w):Kept b w.drew:=⟨h.os,h.tape,h.output,h.size,h.block⟩
theorem Kept.grown{b:b9 P}{w j:World}{row:Option Nat}(h:Kept b w)(c:w.grownBy j row)(m:∀k,row=some k→¬b.kp k):Kept b j :=
 ⟨c.os.trans h.os,c.tape.trans h.tape,c.output.trans h.output,Nat.le_trans h.size c.size,fun k f =>
  (c.block k (Nat.lt_of_lt_of_le (b.lt k f) h.size) (fun e=>m k e.symm f)).trans (h.block k f)⟩
theorem Kept.below{w c:World}{hl:uQ P w}(h:Kept (lv hl) c):Below w.heap.size w c:=⟨h.os,h.tape,h.output,h.size,h.block⟩
theorem Kept.EH{b:b9 P}{w w':World}(h:Kept b w)(k:Below w.heap.size w w'):Kept b w' :=
 ⟨k.os.trans h.os,k.tape.trans h.tape,k.output.trans h.output,Nat.le_trans h.size k.size,fun i hi =>
  (k.block i (Nat.lt_of_lt_of_le (b.lt i hi) h.size)).trans (h.block i hi)⟩
theorem Kept.laid{b:b9 P}{w:World}(h:Kept b w):uQ P w:=fun g c i hi=>by
 rw[World.cell?_of_block (w:=b.w) (h.block g (b.lk g c))];exact b.ld g c i hi
end
def Fr(ow Bw:Nat→Prop)(w:World)(β:Bool)(a:Addr)(v:Value):Prop:=¬ow a.block∧(β=false→¬Bw a.block)∧w.qi a=some v
def Ty.isKey:Ty→Bool
 | .int _=>true
 | .bool=>true
 | .str=>true
 | .unit=>true
 | .prod a b=>a.isKey && b.isKey
 | .arr _ _=>true
 | _=>false
def ck:(K:Ty)→K.den→List Value
 | .int k,n=>[.int k n]
 | .bool,b=>[.bool b]
 | .str,s=>[.string ⟨s.toArray⟩]
 | .prod a b,p=>ck a p.1++ck b p.2
 | .arr k _,c=>c.1.map (Value.int k)
 | _,_=>[]
def aO:(K:Ty)→K.den→Value
 | .int k,n=> .int k n
 | .bool,b=> .bool b
 | .str,s=> .string ⟨s.toArray⟩
 | K,x=> .agg (ck K x).toArray
def MV(F:Addr→Value→Prop)(A:Ty)(x:A.den)(v:Value):Prop :=
 ai F A x (fun k u=>v.cells.toList[k]? = some u)∧v.cells.size=A.size∧(A.scalar=true→v.oneCell'=true)∧(A.scalar=false→∃c,v = .agg c)
def Bj(F:Bool→Addr→Value→Prop)(S:Nat→Prop)(w:World)(f:TypeId)(A:Ty)(u v:Value)(c:List A.den):Prop :=
 (∀k,iB v=some k→S k∧iB u≠some k)∧∃e,w.ownsRow 0 f A.size v c.length e∧∀j (h:j<c.length),ai (F false) A c[j] (fun k v=>e[j*A.size+k]? = some v)
def Br(c:Option (Nat×Nat))(i:Nat):Prop:=∀k id,c=some (k,id)→i≠k
def yf(c:Array MapEntry)(clock:Nat):Prop:=(c.toList.map (·.born)).Nodup∧∀e∈c.toList,e.born<clock
def OR(F:Bool→Addr→Value→Prop)(ρ:Nat→Option Value)(S:Nat→Prop)(w:World):Obj→Value→Prop
 | .arr e A m,u=>(∀k,iB u=some k→S k)∧0<A.size∧∃cells,w.ownsRow 0 e A.size u m.length cells ∧
   ∀i (h:i<m.length),ai (F false) A m[i] (fun k v=>cells[i*A.size+k]? = some v)
 | .fz A m,u=>V F ρ (.p false (.slice A) m) u
 | .box x,u=>∃g t cells,u = .pointer (some ⟨g,0,none⟩)∧S g∧w.heap[g]? = some (.cells cells t (0,0))∧cells.size=x.length ∧
   VL F ρ x (fun k v=>cells[k]? = some v)
 | .mpo K A z,u=>∃r C clock,u = .map (some r)∧S r∧w.heap[r]? = some (.map C clock)∧(K.isKey=true∧yf C clock)∧C.toList.map (·.key)=z.map (fun p=>aO K p.1)∧(z.map (·.1)).Nodup ∧
   ∀i (h:i<z.length),∃e:MapEntry,C[i]? = some e∧MV (F false) A z[i].2 e.val
 | .mpl K z,u=>∃r C clock,u = .map (some r)∧S r∧w.heap[r]? = some (.map C clock)∧K.isKey=true∧C.toList.map (·.key)=z.map (fun p=>aO K p.1)∧(z.map (·.1)).Nodup ∧
   ∀i (h:i<z.length),∃e:MapEntry,C[i]? = some e∧e.val=z[i].2
 | .mat e L A B D,u=>(∀k,iB u=some k→S k)∧0<A.size∧(∀k id,D=some (k,id)→k<B.length)∧∃cells:List Value,w.ownsRow 0 e 1 u B.length cells ∧
   (∀i (h:i<B.length),∃v,cells[i]? = some v∧(∃E n c,v = .slice E n c)∧(Br D i→Bj F S w L A u v B[i])∧∀id,D=some (i,id)→ρ id=some v) ∧
   ∀i j I J b,i≠j→Br D i→Br D j→cells[i]? = some I→cells[j]? = some J→iB I=some b→iB J≠some b
 | .bytes e m,u=>(u = .slice none 0 0∧m=[])∨∃g cap q mk,u = .slice (some ⟨g,0,none⟩) m.length cap∧S g∧w.heap[g]? = some (.cells q e mk)∧(mk=(0,0)∨mk=(q.size,q.size+1))∧m.length≤cap∧q.size=cap ∧
   ∀i (h:i<m.length),q[i]? = some (.int .u8 m[i])
 | .lmp k n m x,u=>∃g t cells,u = .pointer (some ⟨g,0,none⟩)∧S g∧w.heap[g]? = some (.cells cells t (0,0))∧cells.size=n+x.length∧(∀i (h:i<m.1.length),cells[i]? = some (.int k m.1[i])) ∧
   VL F ρ x (fun j v=>cells[n+j]? = some v)
 | .vrow n sz x,u=>∃g t cells,u = .slice (some ⟨g,0,none⟩) n n∧S g∧w.heap[g]? = some (.cells cells t (0,0))∧cells.size=x.length∧x.length=n*sz∧VL F ρ x (fun k v=>cells[k]? = some v)
 | .cutz A m,u=>(∃E,u = .slice E m.length m.length)∧V F ρ (.p false (.slice A) m) u
theorem nf{w w':World}{e:TypeId}{sz n:Nat}{u:Value}{cells:List Value}(hb:∀k,iB u=some k→w'.heap[k]? = w.heap[k]?)(h:w.ownsRow 0 e sz u n cells):w'.ownsRow 0 e sz u n cells:=by
 obtain⟨j,c⟩:=h;refine⟨j,?_⟩;rcases c with c | ⟨g,cap,f,rfl,m,q,x⟩
 ·exact .inl c
 ·exact .inr ⟨g,cap,f,rfl,m,by rw[hb g rfl];exact q,x⟩
theorem Bj.mono{F F':Bool→Addr→Value→Prop}{S S':Nat→Prop}{w w':World}{D:TypeId}{A:Ty}{u v:Value}{xs:List A.den}
  (E:∀β a v,F β a v→F' β a v) (I:∀k,S k→S' k) (hb:∀k,S k→w'.heap[k]? = w.heap[k]?) (h:Bj F S w D A u v xs):Bj F' S' w' D A u v xs:=by
 obtain⟨B,J,L,M⟩:=h;exact⟨fun k z=>⟨I k (B k z).1,(B k z).2⟩,J,nf (fun k z=>hb k (B k z).1) L,fun j N=>ai.mono (E _) (fun _ _ h=>h) (M j N)⟩
structure Mem{P:Program}(Bw:Nat→Prop)(w0:b9 P)(ρ:Nat→Option Value)(φ:Nat→Nat→Prop)(h:Nat→Option Obj)(w:World):Prop where
 ob:∀id o,h id=some o→∃u,ρ id=some u∧OR (Fr (own φ h) Bw w) ρ (φ id) w o u
 lt:∀id o k,h id=some o→o.live=true→φ id k→k<w.heap.size
 dj:∀id id' o o' k,h id=some o→o.live=true→h id'=some o'→o'.live=true→φ id k→φ id' k→id=id'
 bw:∀k,Bw k→w0.kp k
 ow:∀k,own φ h k→¬w0.kp k
 kp:Kept w0 w
 pM:∀i u,w0.pM i=some u→ρ i=some u
structure NS where
 sz:Nat
 D:List Deferred
instance:Coe Nat NS:=⟨fun n=>⟨n,[]⟩⟩
structure bP(n:NS)(F:Bool→Addr→Value→Prop)(ρ:Nat→Option Value)(s:Nat→ag)(a:Act):Prop where
 tm:a.tmps.size=n.sz
 df:a.defers=n.D
 sl:∀t,V F ρ (s t) (a.tmps.getD t undef)
structure Rel{P:Program}(n:NS)(Bw:Nat→Prop)(w0:b9 P)(ρ:Nat→Option Value)(φ:Nat→Nat→Prop)(σ:St)(a:Act)(w:World):Prop where
 mem:Mem Bw w0 ρ φ σ.h w
 Mn:bP n (Fr (own φ σ.h) Bw w) ρ σ.s a
 nx:∀id u,ρ id=some u→id<σ.nx
theorem OR.mono{F F':Bool→Addr→Value→Prop}{ρ ρ':Nat→Option Value}{S S':Nat→Prop}{w w':World}{o:Obj}{u:Value}
  (J:∀β a v,F β a v→F' β a v) (D:∀i u,ρ i=some u→ρ' i=some u) (I:∀k,S k→S' k)
  (hb:o.live=true→∀k,S k→w'.heap[k]? = w.heap[k]?) (h:OR F ρ S w o u):OR F' ρ' S' w' o u:=by
 cases o with
 | arr e A xs =>
  obtain⟨j,O,cells,⟨B,z⟩,E⟩:=h;refine⟨fun k L=>I k (j k L),O,cells,⟨B,?_⟩,fun i hi=>ai.mono (J _) (fun _ _ h=>h) (E i hi)⟩;rcases z with z | ⟨g,cap,M,rfl,r1,r2,r3⟩
  ·exact .inl z
  ·exact .inr ⟨g,cap,M,rfl,r1,by rw[hb rfl g (j g rfl)];exact r2,r3⟩
 | fz A xs=>exact V.mono J D h
 | box cs =>
  obtain⟨g,t,cells,rfl,j,B,z,E⟩:=h;exact⟨g,t,cells,rfl,I _ j,by rw[hb rfl g j];exact B,z,VL.mono J D (fun _ _ h=>h) E⟩
 | mpo K A kv =>
  obtain⟨r,R,clock,rfl,j,B,z,E,N,h5⟩:=h;exact⟨r,R,clock,rfl,I _ j,by rw[hb rfl r j];exact B,z,E,N,fun i hi=>let ⟨e,Y,Z,q3⟩:=h5 i hi;⟨e,Y,ai.mono (J _) (fun _ _ h=>h) Z,q3⟩⟩
 | mpl K kv =>
  obtain⟨r,R,clock,rfl,j,B,z⟩:=h;exact⟨r,R,clock,rfl,I _ j,by rw[hb rfl r j];exact B,z⟩
 | mat e e2 A a2 ho =>
  obtain⟨j,O,L,cells,B,z,E⟩:=h;refine⟨fun k L=>I k (j k L),O,L,cells,nf (fun k L=>hb rfl k (j k L)) B,fun i hi=> ?_,E⟩;obtain⟨v,Y,Z,q3,q4⟩:=z i hi;exact⟨v,Y,Z,fun a1=>(q3 a1).mono J I (hb rfl),fun id e=>D _ _ (q4 id e)⟩
 | bytes e xs =>
  rcases h with h | ⟨g,cap,M,mk,rfl,j,B,z⟩
  ·exact .inl h
  ·exact .inr ⟨g,cap,M,mk,rfl,I _ j,by rw[hb rfl g j];exact B,z⟩
 | cutz A xs=>exact⟨h.1,V.mono J D h.2⟩
 | lmp k n xs cs =>
  obtain⟨g,t,cells,rfl,j,B,z,E,N⟩:=h;exact⟨g,t,cells,rfl,I _ j,by rw[hb rfl g j];exact B,z,E,VL.mono J D (fun _ _ h=>h) N⟩
 | vrow n sz cs =>
  obtain⟨g,t,cells,rfl,j,B,z,E,N⟩:=h;exact⟨g,t,cells,rfl,I _ j,by rw[hb rfl g j];exact B,z,E,VL.mono J D (fun _ _ h=>h) N⟩
section
variable{P:Program}{n:NS}{Bw:Nat→Prop}{w0:b9 P}{ρ:Nat→Option Value}{φ:Nat→Nat→Prop}{h:Nat→Option Obj}{σ:St}{a:Act}{w:World}
theorem Fr.Js{ow j:Nat→Prop}{w':World}(D:∀k,k<w.heap.size→¬ow k→w'.heap[k]? = w.heap[k]?)
  (E:∀k,j k→ow k∨w.heap.size≤k) (β:Bool) (a:Addr) (v:Value) (h:Fr ow Bw w β a v):Fr j Bw w' β a v:=by
 obtain⟨B,I,C⟩:=h;have z:=World.Ae C;refine⟨fun J=> ?_,I,by rw[World.qw (w:=w) (D _ z B)];exact C⟩;rcases E _ J with h' | h'
 ·exact B h'
 ·omega
theorem Mem.qS(m:Mem Bw w0 ρ φ h w){k:Nat}(j:own φ h k):k<w.heap.size:=by
 obtain⟨id,o,z,B,C⟩:=j;exact m.lt id o k z B C
theorem Mem.put(m:Mem Bw w0 ρ φ h w){w':World}(E:Option Nat)(j:Nat)(o1:Obj)(u1:Value)(S1:Nat→Prop)(row:Option Nat)
  (hg:w.grownBy w' row)
  (h0:∀k,row=some k→∃i o,E=some i∧h i=some o∧o.live=true∧φ i k)
  (M:ρ j=none∨(E=some j∧ρ j=some u1))
  (a6:o1.live=true→∀k,S1 k→k<w'.heap.size)
  (hb:o1.live=true→∀k,S1 k→w.heap.size≤k∨∃i o,E=some i∧h i=some o∧o.live=true∧φ i k)
  (ho:∀F' ρ',(∀β a v,Fr (own φ h) Bw w β a v→F' β a v)→(∀i u,ρ i=some u→ρ' i=some u)→OR F' ρ' S1 w' o1 u1) :
  Mem Bw w0 (bH ρ j (some u1)) (bH φ j S1) (bH (fun i=>if E=some i then none else h i) j (some o1)) w' ∧
  (∀β a v,Fr (own φ h) Bw w β a v→Fr (own (bH φ j S1) (bH (fun i=>if E=some i then none else h i) j (some o1))) Bw w' β a v) ∧
  (∀i u,ρ i=some u→bH ρ j (some u1) i=some u):=by
 have N:∀i u,ρ i=some u→bH ρ j (some u1) i=some u:=fun i u hi=>by
  by_cases e:i=j
  ·subst e;rcases M with hf | ⟨_,hf⟩
   ·rw[hf]at hi;cases hi
   ·rw[aw,←hf,hi]
  ·rw[aB _ _ e,hi]
 have a4:∀i,i≠j→bH ρ j (some u1) i=ρ i:=fun i e=>aB _ _ e
 have z:∀i,i≠j→bH φ j S1 i=φ i:=fun i e=>aB _ _ e
 have B:∀i o,i≠j→bH (fun i=>if E=some i then none else h i) j (some o1) i=some o→h i=some o∧E≠some i:=fun i o e hi=>by
  rw[aB _ _ e]at hi;by_cases e0:E=some i
  ·simp[e0]at hi
  ·simp[e0]at hi;exact⟨hi,e0⟩
 have a1:∀k,own (bH φ j S1) (bH (fun i=>if E=some i then none else h i) j (some o1)) k→own φ h k∨w.heap.size≤k:=by
  rintro k ⟨id,o,C,L,O⟩;by_cases e:id=j
  ·subst e;rw[aw]at C O;cases C;rcases hb L k O with R | ⟨i,o,_,D,V,X⟩
   ·exact .inr R
   ·exact .inl ⟨i,o,D,V,X⟩
  ·rw[z _ e]at O;exact .inl ⟨id,o,(B _ _ e C).1,L,O⟩
 have a2:∀k,k<w.heap.size→¬own φ h k→w'.heap[k]? = w.heap[k]? :=fun k hk hn =>
  hg.block k hk fun e=>by obtain⟨i,o,_,D,V,X⟩:=h0 k e.symm;exact hn ⟨i,o,D,V,X⟩
 have hF:∀β a v,Fr (own φ h) Bw w β a v→Fr (own (bH φ j S1) (bH (fun i=>if E=some i then none else h i) j (some o1))) Bw w' β a v :=
  fun β a v=>Fr.Js a2 a1 β a v
 have I:∀id o k,id≠j→h id=some o→E≠some id→o.live=true→φ id k→¬(∃i o,E=some i∧h i=some o∧o.live=true∧φ i k):=by rintro id o k e J D V X ⟨i,o',r1,r2,r3,r4⟩;have:=m.dj id i o o' k J V r2 r3 X r4;subst this;exact D r1
 refine⟨⟨fun id o a3=> ?_,fun id o k C L Y=> ?_,fun id Z o o' k C L Y O R h6=> ?_,m.bw,fun k hk a5=> ?_,?_,?_⟩,hF,N⟩
 ·by_cases e:id=j
  ·subst e;rw[aw]at a3;cases a3;refine⟨u1,aw _ _ _,?_⟩;rw[aw];exact ho _ _ hF N
  ·obtain⟨J,D⟩:=B _ _ e a3;obtain⟨u,V,X⟩:=m.ob id o J;refine⟨u,by rw[a4 _ e];exact V,?_⟩;rw[z _ e];refine OR.mono hF N (fun _ h=>h) (fun hl k hk=> ?_) X;refine hg.block k (m.lt id o k J hl hk) fun er=> ?_
   exact I id o k e J D hl hk (h0 k er.symm)
 ·by_cases e:id=j
  ·subst e;rw[aw]at C Y;cases C;exact a6 L k Y
  ·rw[z _ e]at Y;exact Nat.lt_of_lt_of_le (m.lt id o k (B _ _ e C).1 L Y) hg.size
 ·by_cases e:id=j <;> by_cases e':Z=j
  ·rw[e,e']
  ·subst e;rw[aw]at C R;cases C;rw[z _ e']at h6;obtain⟨J,D⟩:=B _ _ e' Y;rcases hb L k R with h9 | h9
   ·have:=m.lt Z o' k J O h6;omega
   ·exact absurd h9 (I Z o' k e' J D O h6)
  ·subst e';rw[aw]at Y h6;cases Y;rw[z _ e]at R;obtain⟨J,D⟩:=B _ _ e C;rcases hb O k h6 with h9 | h9
   ·have:=m.lt id o k J L R;omega
   ·exact absurd h9 (I id o k e J D L R)
  ·rw[z _ e]at R;rw[z _ e']at h6;exact m.dj id Z o o' k (B _ _ e C).1 L (B _ _ e' Y).1 O R h6
 ·rcases a1 k hk with C | C
  ·exact m.ow k C a5
  ·have:=w0.lt k a5;have:=m.kp.size;omega
 ·exact m.kp.grown hg (fun k hk=>by
   obtain⟨i,o,_,D,V,X⟩:=h0 k hk;exact m.ow k ⟨i,o,D,V,X⟩)
 ·exact fun i u hi=>N i u (m.pM i u hi)
theorem pK{F F':Bool→Addr→Value→Prop}{ρ':Nat→Option Value}{A:Ty}{c:List A.den}{u:Value}{w:World}{e:TypeId}{cells:List Value}
  (f:w.ownsRow 0 e A.size u c.length cells) (j:∀i (h:i<c.length),ai (F false) A c[i] (fun k v=>cells[i*A.size+k]? = some v))
  (β:Bool) (m:∀a v,F false a v→F' β a v) (q:∀a v,iB u=some a.block→w.cell? a=some v→F' β a v):V F' ρ' (.p β (.slice A) c) u:=by
 simp only[V,ai];refine⟨rfl,?_⟩;rcases f.2 with⟨rfl,x⟩ | ⟨g,cap,z,rfl,B⟩
 ·exact⟨none,0,0,rfl,⟨x.symm,Nat.le_refl _⟩,fun i hi=>absurd hi (by omega)⟩
 ·refine⟨_,_,_,rfl,⟨rfl,B.2.2.1⟩,fun i hi=>⟨_,rfl,ai.mono m (fun k v C=> ?_) (j i hi)⟩⟩;refine q _ _ (by simp only[iB,Addr.add];split <;> rfl) (f.cells (g:=g) rfl _ _ C)
theorem Mem.freeze(m:Mem Bw w0 ρ φ h w){i:Nat}{te:TypeId}{A:Ty}{xs:List A.den}(hi:h i=some (.arr te A xs)):
  Mem Bw w0 ρ φ (bH h i (some (.fz A xs))) w∧(∀β a v,Fr (own φ h) Bw w β a v→Fr (own φ (bH h i (some (.fz A xs)))) Bw w β a v):=by
 have D:∀id o,id≠i→bH h i (some (.fz A xs)) id=some o→h id=some o:=fun id o e B=>by rwa [aB _ _ e]at B
 have C:∀id o,bH h i (some (.fz A xs)) id=some o→o.live=true→id≠i:=fun id o j z e=>by subst e;rw[aw]at j;cases j;simp[Obj.live]at z
 have E:∀k,own φ (bH h i (some (.fz A xs))) k→own φ h k:=by rintro k ⟨id,o,j,z,J⟩;exact⟨id,o,D _ _ (C _ _ j z) j,z,J⟩
 have N:∀β a v,Fr (own φ h) Bw w β a v→Fr (own φ (bH h i (some (.fz A xs)))) Bw w β a v :=
  fun β a v h=>⟨fun D=>h.1 (E _ D),h.2⟩
 refine⟨⟨fun id o B=> ?_,fun id o k j z L=>m.lt id o k (D _ _ (C _ _ j z) j) z L,fun id I o O k j z L J h5 h6 =>
  m.dj id I o O k (D _ _ (C _ _ j z) j) z (D _ _ (C _ _ L J) L) J h5 h6,m.bw,fun k hk=>m.ow k (E k hk),m.kp,m.pM⟩,N⟩
 by_cases e:id=i
 ·subst e;rw[aw]at B;cases B;obtain⟨u,j,z⟩:=m.ob id _ hi;refine⟨u,j,?_⟩;obtain⟨X,_,cells,L,J⟩:=z;refine pK (ρ':=ρ) L J false (fun a v h=>N _ _ _ h) fun a v hb hc=>⟨fun R=> ?_,fun _ V=> ?_,World.gH hc⟩
  ·obtain⟨I,O,Y,Z,q4⟩:=R;have M:=C _ _ Y Z;exact M (m.dj I id O _ a.block (D _ _ M Y) Z hi rfl q4 (X _ hb))
  ·exact m.ow a.block ⟨id,_,hi,rfl,X _ hb⟩ (m.bw _ V)
 ·obtain⟨u,j,z⟩:=m.ob id o (D _ _ e B);exact⟨u,j,OR.mono N (fun _ _ h=>h) (fun _ h=>h) (fun _ _ _=>rfl) z⟩
theorem Iq{F:Bool→Addr→Value→Prop}{ρ ρ':Nat→Option Value}{S:Nat→Prop}{w:World}{k:TypeId}{c:List Int}{u:Value}(h:OR F ρ S w (.bytes k c) u):
  V (fun _ a v=>w.cell? a=some v) ρ' (.p false (.slice (.int .u8)) c) u:=by
 simp only[V];refine⟨rfl,?_⟩;rcases h with⟨rfl,rfl⟩ | ⟨g,cap,e,mk,rfl,B,q,C,x,D,z⟩
 ·exact⟨none,0,0,rfl,⟨rfl,Nat.le_refl _⟩,fun j f=>absurd f (by simp)⟩
 ·refine⟨some ⟨g,0,none⟩,c.length,cap,rfl,⟨rfl,x⟩,fun j f=>⟨_,rfl,?_⟩⟩;simp only[ai];have A:((⟨g,0,none⟩:Addr).add (j*Ty.size (.int .u8)+0))=⟨g,j,none⟩:=by
   unfold Addr.add;simp only[Ty.size];by_cases m:j=0
   ·subst m;simp
   ·simp[m]
  rw[A,cell_of_row w g j e k mk q];exact z j f
theorem Mem.Ef(m:Mem Bw w0 ρ φ h w){i:Nat}{B:TypeId}{xs:List Int}(hi:h i=some (.arr B (.int .u8) xs)):
  Mem Bw w0 ρ φ (bH h i (some (.bytes B xs))) w∧(∀β a v,Fr (own φ h) Bw w β a v→Fr (own φ (bH h i (some (.bytes B xs)))) Bw w β a v):=by
 obtain⟨u,M,V,h0,cells,X,Y⟩:=m.ob i _ hi;have E:bH ρ i (some u)=ρ:=by
  funext j;by_cases e:j=i
  ·subst e;rw[aw,M]
  ·rw[aB _ _ e]
 have C:bH φ i (φ i)=φ:=by
  funext j;by_cases e:j=i
  ·subst e;rw[aw]
  ·rw[aB _ _ e]
 have N:bH (fun j=>if some i=some j then none else h j) i (some (Obj.bytes B xs))=bH h i (some (.bytes B xs)):=by
  funext j;by_cases e:j=i
  ·subst e;rw[aw,aw]
  ·rw[aB _ _ e,aB _ _ e];simp[Ne.symm e]
 obtain⟨O,R,_⟩:=m.put (w':=w) (some i) i (.bytes B xs) u (φ i) none ⟨rfl,rfl,rfl,Nat.le_refl _,fun _ _ _=>rfl⟩ (fun k D=>by cases D) (.inr ⟨rfl,M⟩)
  (fun _ k D=>m.lt i _ k hi rfl D) (fun _ k D=> .inr ⟨i,_,rfl,hi,rfl,D⟩)
  (fun F' ρ' hF Z=>by
   rcases X.2 with⟨rfl,hn⟩ | ⟨g,cap,I,rfl,_,hg,J,a1,L,z⟩
   ·exact .inl ⟨rfl,List.eq_nil_of_length_eq_zero hn⟩
   ·refine .inr ⟨g,cap,I,(0,0),rfl,V g rfl,hg,.inl rfl,J,by rw[L];simp[Ty.size],fun j hj=> ?_⟩;have:=Y j hj;simp only[ai,Ty.size,Nat.mul_one,Nat.add_zero]at this;rw[←z,List.getElem?_take]at this;split at this
    ·rw[←Array.getElem?_toList];exact this
    ·cases this)
 rw[E,C,N]at O;rw[C,N]at R;exact⟨O,R⟩
theorem Mem.Im(m:Mem Bw w0 ρ φ h w){i:Nat}{te:TypeId}{xs:List Int}(hi:h i=some (.bytes te xs)):
  Mem Bw w0 ρ φ (bH h i (some (.fz (.int .u8) xs))) w∧(∀β a v,Fr (own φ h) Bw w β a v→Fr (own φ (bH h i (some (.fz (.int .u8) xs)))) Bw w β a v):=by
 have E:∀id o,id≠i→bH h i (some (.fz (.int .u8) xs)) id=some o→h id=some o:=fun id o e C=>by rwa [aB _ _ e]at C
 have D:∀id o,bH h i (some (.fz (.int .u8) xs)) id=some o→o.live=true→id≠i:=fun id o z B e=>by subst e;rw[aw]at z;cases z;simp[Obj.live]at B
 have I:∀k,own φ (bH h i (some (.fz (.int .u8) xs))) k→own φ h k:=by rintro k ⟨id,o,z,B,M⟩;exact⟨id,o,E _ _ (D _ _ z B) z,B,M⟩
 have hF:∀β a v,Fr (own φ h) Bw w β a v→Fr (own φ (bH h i (some (.fz (.int .u8) xs)))) Bw w β a v :=
  fun β a v h=>⟨fun E=>h.1 (I _ E),h.2⟩
 refine⟨⟨fun id o C=> ?_,fun id o k z B N=>m.lt id o k (E _ _ (D _ _ z B) z) B N,fun id J o O k z B N M h5 h6 =>
  m.dj id J o O k (E _ _ (D _ _ z B) z) B (E _ _ (D _ _ N M) N) M h5 h6,m.bw,fun k hk=>m.ow k (I k hk),m.kp,m.pM⟩,hF⟩
 by_cases e:id=i
 ·subst e;rw[aw]at C;cases C;obtain⟨u,z,B⟩:=m.ob id _ hi;refine⟨u,z,?_⟩;simp only[OR,V];refine⟨rfl,?_⟩;rcases B with⟨rfl,rfl⟩ | ⟨g,cap,R,mk,rfl,hs,r1,r2,r3,r5,r6⟩
  ·exact⟨none,0,0,rfl,⟨rfl,Nat.le_refl _⟩,fun j X=>absurd X (by simp)⟩
  ·refine⟨some ⟨g,0,none⟩,xs.length,cap,rfl,⟨rfl,r3⟩,fun j X=>⟨_,rfl,?_⟩⟩;simp only[ai];have ec:w.cell? (⟨g,j,none⟩:Addr)=some (.int .u8 xs[j]):=by rw[cell_of_row w g j R te mk r1];exact r6 j X
   have ea:((⟨g,0,none⟩:Addr).add (j*Ty.size (.int .u8)+0))=⟨g,j,none⟩:=by
    unfold Addr.add;simp only[Ty.size];by_cases e0:j=0
    ·subst e0;simp
    ·simp[e0]
   rw[ea];refine⟨fun Y=> ?_,fun _ Z=>m.ow g ⟨id,_,hi,rfl,hs⟩ (m.bw _ Z),ec⟩;obtain⟨J,O,q1,q2,q4⟩:=Y;have L:=D _ _ q1 q2;exact L (m.dj J id O _ g (E _ _ L q1) q2 hi rfl q4 hs)
 ·obtain⟨u,z,B⟩:=m.ob id o (E _ _ e C);exact⟨u,z,OR.mono hF (fun _ _ h=>h) (fun _ h=>h) (fun _ _ _=>rfl) B⟩
theorem BA{G:Addr→Value→Prop}{A:Ty}{f:List A.den}{v:Value}{g:Nat→Value→Prop}(h:ai G (.slice A) f (fun _ u=>u=v))(j:g 0 v):ai G (.slice A) f g:=by
 obtain⟨k,l,c,e,hl,h⟩:=h;exact⟨k,l,c,by rw[e];exact j,hl,h⟩
theorem Mem.FE(m:Mem Bw w0 ρ φ h w){i:Nat}{te e2:TypeId}{A:Ty}{z:List (List A.den)}(hi:h i=some (.mat te e2 A z none)):
  Mem Bw w0 ρ φ (bH h i (some (.fz (.slice A) z))) w∧(∀β a v,Fr (own φ h) Bw w β a v→Fr (own φ (bH h i (some (.fz (.slice A) z)))) Bw w β a v):=by
 have J:∀id o,id≠i→bH h i (some (.fz (.slice A) z)) id=some o→h id=some o:=fun id o e D=>by rwa [aB _ _ e]at D
 have E:∀id o,bH h i (some (.fz (.slice A) z)) id=some o→o.live=true→id≠i:=fun id o B C e=>by subst e;rw[aw]at B;cases B;simp[Obj.live]at C
 have L:∀k,own φ (bH h i (some (.fz (.slice A) z))) k→own φ h k:=by rintro k ⟨id,o,B,C,M⟩;exact⟨id,o,J _ _ (E _ _ B C) B,C,M⟩
 have X:∀β a v,Fr (own φ h) Bw w β a v→Fr (own φ (bH h i (some (.fz (.slice A) z)))) Bw w β a v :=
  fun β a v h=>⟨fun J=>h.1 (L _ J),h.2⟩
 have hin:∀a v,φ i a.block→w.cell? a=some v→Fr (own φ (bH h i (some (.fz (.slice A) z)))) Bw w false a v:=fun a v hb O =>
  ⟨fun Y=>by
   obtain⟨I,Z,q1,q2,q4⟩:=Y;have R:=E _ _ q1 q2;exact R (m.dj I i Z _ a.block (J _ _ R q1) q2 hi rfl q4 hb),fun _ a1=>m.ow a.block ⟨i,_,hi,rfl,hb⟩ (m.bw _ a1),World.gH O⟩
 refine⟨⟨fun id o D=> ?_,fun id o k B C N=>m.lt id o k (J _ _ (E _ _ B C) B) C N,fun id I o Z k B C N M h5 h6 =>
  m.dj id I o Z k (J _ _ (E _ _ B C) B) C (J _ _ (E _ _ N M) N) M h5 h6,m.bw,fun k hk=>m.ow k (L k hk),m.kp,m.pM⟩,X⟩
 by_cases e:id=i
 ·subst e;rw[aw]at D;cases D;obtain⟨u,B,hs,_,_,cells,N,M,_⟩:=m.ob id _ hi;refine⟨u,B,?_⟩;refine pK (ρ':=ρ) (F:=Fr (own φ (bH h id (some (.fz (.slice A) z)))) Bw w) (A:= .slice A) (e:=te) (cells:=cells) N (fun j hj=> ?_) false (fun _ _ h=>h) (fun a v hb O=>hin a v (hs _ hb) O);obtain⟨v,p1,_,p3,_⟩:=M j hj;obtain⟨r1,rc,r2,r3⟩:=p3 (fun k I e=>by cases e);have:=pK (F:=Fr (own φ h) Bw w) (F':=Fr (own φ (bH h id (some (.fz (.slice A) z)))) Bw w) (ρ':=ρ) r2 r3 false (fun a v h=>X _ _ _ h) (fun a v hb O=>hin a v (r1 _ hb).1 O);simp only[V]at this;refine BA this.2 ?_;show cells[j*1+0]? = some v;rw[Nat.mul_one,Nat.add_zero];exact p1
 ·obtain⟨u,B,C⟩:=m.ob id o (J _ _ e D);exact⟨u,B,OR.mono X (fun _ _ h=>h) (fun _ h=>h) (fun _ _ _=>rfl) C⟩
theorem Mem.Eg(m:Mem Bw w0 ρ φ h w){h':Nat→Option Obj}{φ':Nat→Nat→Prop}{ρ':Nat→Option Value}(M:∀i u,ρ i=some u→ρ' i=some u)(G:Nat→Prop)
  (hout:∀i,¬G i→h' i=h i∧φ' i=φ i)
  (hin:∀i o,G i→h' i=some o→(∃u,ρ' i=some u∧∀F',(∀β a v,Fr (own φ h) Bw w β a v→F' β a v)→OR F' ρ' (φ' i) w o u)∧(o.live=true→∀k,φ' i k→∃j z,G j∧h j=some z∧z.live=true∧φ j k))
  (a1:∀i j o z k,G i→G j→h' i=some o→o.live=true→h' j=some z→z.live=true→φ' i k→φ' j k→i=j) :
  Mem Bw w0 ρ' φ' h' w∧(∀β a v,Fr (own φ h) Bw w β a v→Fr (own φ' h') Bw w β a v):=by
 have C:∀k,own φ' h' k→own φ h k:=by
  rintro k ⟨id,o,B,D,I⟩;by_cases g:G id
  ·obtain⟨j,z,_,Z,q3,q4⟩:=(hin id o g B).2 D k I;exact⟨j,z,Z,q3,q4⟩
  ·obtain⟨N,O⟩:=hout id g;exact⟨id,o,by rw[←N];exact B,D,by rw[←O];exact I⟩
 have hF:∀β a v,Fr (own φ h) Bw w β a v→Fr (own φ' h') Bw w β a v:=fun β a v h=>⟨fun x=>h.1 (C _ x),h.2⟩
 have J:∀i j o z k,G i→¬G j→h' i=some o→o.live=true→h' j=some z→z.live=true→φ' i k→φ' j k→False:=fun i j o z k Y R B D E I V L=>by obtain⟨j0,o0,p1,p2,p3,p4⟩:=(hin i o Y B).2 D k V;obtain⟨N,O⟩:=hout j R;rw[N]at E;rw[O]at L;have:=m.dj _ _ _ _ k p2 p3 E I p4 L;subst this;exact R p1
 refine⟨⟨fun id o X=> ?_,fun id o k B D E=>m.qS (C k ⟨id,o,B,D,E⟩),fun i j o z k B D E I V L=> ?_,m.bw,fun k hk=>m.ow k (C k hk),m.kp,fun i u hi=>M i u (m.pM i u hi)⟩,hF⟩
 ·by_cases g:G id
  ·obtain⟨⟨u,q1,Z⟩,_⟩:=hin id o g X;exact⟨u,q1,Z _ hF⟩
  ·obtain⟨N,O⟩:=hout id g;rw[N]at X;obtain⟨u,q1,Z⟩:=m.ob id o X;exact⟨u,M _ _ q1,by rw[O];exact OR.mono hF M (fun _ h=>h) (fun _ _ _=>rfl) Z⟩
 ·by_cases Y:G i <;> by_cases R:G j
  ·exact a1 i j o z k Y R B D E I V L
  ·exact(J i j o z k Y R B D E I V L).elim
  ·exact(J j i z o k R Y E I B D L V).elim
  ·obtain⟨N,O⟩:=hout i Y;obtain⟨e3,e4⟩:=hout j R;rw[N]at B;rw[e3]at E;rw[O]at V;rw[e4]at L;exact m.dj i j o z k B D E I V L
theorem Mem.xI(m:Mem Bw w0 ρ φ h w){i j k:Nat}{te E:TypeId}{A:Ty}{B:List (List A.den)}{ys:List A.den}(hi:h i=some (.mat te E A B (some (k,j))))(I:h j=some (.arr E A ys)):
  Mem Bw w0 ρ (bH φ i (fun b=>φ i b∨φ j b)) (bH (bH h j none) i (some (.mat te E A (B.set k ys) none))) w ∧
  (∀β a v,Fr (own φ h) Bw w β a v→Fr (own (bH φ i (fun b=>φ i b∨φ j b)) (bH (bH h j none) i (some (.mat te E A (B.set k ys) none)))) Bw w β a v):=by
 have z:i≠j:=fun e=>by subst e;rw[hi]at I;cases I
 refine m.Eg (fun _ _ h=>h) (fun x=>x=i∨x=j) (fun x J=>⟨?_,?_⟩) (fun x o J N=> ?_) (fun x y o o' b J hy O h2 M R h5 h6=> ?_)
 ·rw[aB _ _ (fun e=>J (.inl e)),aB _ _ (fun e=>J (.inr e))]
 ·rw[aB _ _ (fun e=>J (.inl e))]
 ·rcases J with rfl | rfl
  ·rw[aw]at N;cases N;rw[aw];obtain⟨u,O,hs,h0,hk,cells,M,R,h5⟩:=m.ob x _ hi;obtain⟨v,g1,V,_,rc,g2,g3⟩:=m.ob j _ I;have a5:=hk k j rfl;refine⟨⟨u,O,fun F' hF=>⟨fun b hb=> .inl (hs b hb),h0,fun _ _ e=>(by cases e),cells,by rw[List.length_set];exact M,fun r X=> ?_,fun r Y vr a1 b L _ _ e1 E b1 b2=> ?_⟩⟩,fun _ b hb=> ?_⟩
   ·rw[List.length_set]at X;obtain⟨vr,Z,p2,p3,p4⟩:=R r X;refine⟨vr,Z,p2,fun _=> ?_,fun id e=>by cases e⟩;by_cases e:r=k
    ·subst e;have:=p4 j rfl;rw[g1]at this;cases this;simp only[List.getElem_set_self];refine⟨fun b hb=>⟨.inr (V b hb),fun a2=> ?_⟩,rc,g2,fun q hq=>ai.mono (hF _) (fun _ _ h=>h) (g3 q hq)⟩;exact z (m.dj x j _ _ b hi rfl I rfl (hs b a2) (V b hb))
    ·rw[List.getElem_set_ne (Ne.symm e)];exact(p3 (fun k' C D=>by cases D;exact e)).mono hF (fun _ h=> .inl h) (fun _ _=>rfl)
   ·-- two a4
    have X:r<B.length:=by have:=(List.getElem?_eq_some_iff.1 e1).1;have:=M.1;omega
    have a3:Y<B.length:=by have:=(List.getElem?_eq_some_iff.1 E).1;have:=M.1;omega
    obtain⟨a6,Z,p2,p3,p4⟩:=R r X;obtain⟨a7,q1,q2,q3,q4⟩:=R Y a3;rw[e1]at Z;rw[E]at q1;cases Z;cases q1;by_cases c1:r=k
    ·subst c1;have:=p4 j rfl;rw[g1]at this;cases this;have c2:=q3 (fun k' C D=>by cases D;exact Ne.symm L);exact z (m.dj x j _ _ b hi rfl I rfl (c2.1 b b2).1 (V b b1))
    ·by_cases c2:Y=k
     ·subst c2;have:=q4 j rfl;rw[g1]at this;cases this;have c3:=p3 (fun k' C D=>by cases D;exact L);exact z (m.dj x j _ _ b hi rfl I rfl (c3.1 b b1).1 (V b b2))
     ·exact h5 r Y vr a1 b L (fun k' C D=>by cases D;exact c1) (fun k' C D=>by cases D;exact c2) e1 E b1 b2
   ·rcases hb with hb | hb
    ·exact⟨x,_,.inl rfl,hi,rfl,hb⟩
    ·exact⟨j,_,.inr rfl,I,rfl,hb⟩
  ·rw[aB _ _ (Ne.symm z),aw]at N;cases N
 ·rcases J with rfl | rfl <;> rcases hy with rfl | rfl
  ·rfl
  ·rw[aB _ _ (Ne.symm z),aw]at M;cases M
  ·rw[aB _ _ (Ne.symm z),aw]at O;cases O
  ·rfl
theorem Mem.Ic(m:Mem Bw w0 ρ φ h w){i j k:Nat}{I D:TypeId}{A:Ty}{z:List (List A.den)}(hi:h i=some (.mat I D A z none))(R:ρ j=none)(hk:k<z.length):
  ∃v cells u,ρ i=some u∧w.ownsRow 0 I 1 u z.length cells∧cells[k]? = some v∧(∃ad n c,v = .slice ad n c) ∧
  Mem Bw w0 (bH ρ j (some v)) (bH (bH φ i (fun b=>φ i b∧iB v≠some b)) j (fun b=>iB v=some b)) (bH (bH h i (some (.mat I D A z (some (k,j))))) j (some (.arr D A z[k]))) w ∧
  (∀β a v',Fr (own φ h) Bw w β a v'→Fr (own (bH (bH φ i (fun b=>φ i b∧iB v≠some b)) j (fun b=>iB v=some b)) (bH (bH h i (some (.mat I D A z (some (k,j))))) j (some (.arr D A z[k])))) Bw w β a v') ∧
  (∀i u,ρ i=some u→bH ρ j (some v) i=some u):=by
 obtain⟨u,V,hs,h0,_,cells,h3,h4,h5⟩:=m.ob i _ hi;have B:i≠j:=fun e=>by subst e;rw[V]at R;cases R
 obtain⟨v,J,p2,p3,_⟩:=h4 k hk;obtain⟨r1,rc,r2,r3⟩:=p3 (fun _ _ e=>by cases e);have E:∀x y,ρ x=some y→bH ρ j (some v) x=some y:=fun x y e=>by rw[aB _ _ (fun e'=>by subst e';rw[R]at e;cases e)];exact e
 refine⟨v,cells,u,V,h3,J,p2,?_⟩;have key:=m.Eg (h':=bH (bH h i (some (.mat I D A z (some (k,j))))) j (some (.arr D A z[k]))) (φ':=bH (bH φ i (fun b=>φ i b∧iB v≠some b)) j (fun b=>iB v=some b)) E (fun x=>x=i∨x=j)
  (fun x C=>⟨by rw[aB _ _ (fun e=>C (.inr e)),aB _ _ (fun e=>C (.inl e))],by rw[aB _ _ (fun e=>C (.inr e)),aB _ _ (fun e=>C (.inl e))]⟩) (fun x o C L=> ?_) (fun x y o o' b C hy q1 q2 q3 q4 M N=> ?_)
 ·exact⟨key.1,key.2,E⟩
 ·rcases C with rfl | rfl
  ·rw[aB _ _ B,aw]at L;cases L;rw[show bH (bH φ x (fun b=>φ x b∧iB v≠some b)) j (fun b=>iB v=some b) x=fun b=>φ x b∧iB v≠some b by rw[aB _ _ B,aw]];refine⟨⟨u,E _ _ V,fun F' X=>⟨fun b hb=>⟨hs b hb,fun e=>(r1 b e).2 hb⟩,h0,fun _ _ e=>(by cases e;exact hk),cells,h3,fun r hr=> ?_,fun r r' O Y b Z s1 s2=> ?_⟩⟩,fun _ b hb=>⟨x,_,.inl rfl,hi,rfl,hb.1⟩⟩
   ·obtain⟨O,t1,t2,t3,_⟩:=h4 r hr;refine⟨O,t1,t2,fun a3=> ?_,fun id e=> ?_⟩
    ·have a4:r≠k:=a3 k j rfl;obtain⟨a1,a2⟩:=t3 (fun _ _ e=>by cases e);refine Bj.mono X (fun _ h=>h) (fun _ _=>rfl) (w:=w) (S:=fun b=>φ x b∧iB v≠some b) ⟨fun b hb=>⟨⟨(a1 b hb).1,?_⟩,(a1 b hb).2⟩,a2⟩;exact h5 r k O v b a4 (fun _ _ e=>by cases e) (fun _ _ e=>by cases e) t1 J hb
    ·cases e;rw[t1]at J;cases J;exact aw _ _ _
   ·exact h5 r r' O Y b Z (fun _ _ e=>by cases e) (fun _ _ e=>by cases e)
  ·rw[aw]at L;cases L;rw[show bH (bH φ i (fun b=>φ i b∧iB v≠some b)) x (fun b=>iB v=some b) x=fun b=>iB v=some b from aw _ _ _];exact⟨⟨v,aw _ _ _,fun F' X=>⟨fun b hb=>hb,h0,rc,r2,fun q hq=>ai.mono (X _) (fun _ _ h=>h) (r3 q hq)⟩⟩,fun _ b hb=>⟨i,_,.inl rfl,hi,rfl,(r1 b hb).1⟩⟩
 ·rcases C with rfl | rfl <;> rcases hy with rfl | rfl
  ·rfl
  ·rw[aB _ _ B,aw]at M;rw[aw]at N;exact absurd N M.2
  ·rw[aB _ _ B,aw]at N;rw[aw]at M;exact absurd M N.2
  ·rfl
theorem Mem.less(m:Mem Bw w0 ρ φ h w){h':Nat→Option Obj}(z:∀i o,h' i=some o→h i=some o):
  Mem Bw w0 ρ φ h' w∧(∀β a v,Fr (own φ h) Bw w β a v→Fr (own φ h') Bw w β a v):=by
 have j:∀k,own φ h' k→own φ h k:=fun k ⟨id,o,B,C,D⟩=>⟨id,o,z _ _ B,C,D⟩
 have L:∀β a v,Fr (own φ h) Bw w β a v→Fr (own φ h') Bw w β a v:=fun β a v h=>⟨fun x=>h.1 (j _ x),h.2⟩
 refine⟨⟨fun id o E=> ?_,fun id o k B C I=>m.lt id o k (z _ _ B) C I,fun id J o M k B C I D N O=>m.dj id J o M k (z _ _ B) C (z _ _ I) D N O,m.bw,fun k R=>m.ow k (j k R),m.kp,m.pM⟩,L⟩;obtain⟨u,V,X⟩:=m.ob id o (z _ _ E);exact⟨u,V,OR.mono L (fun _ _ h=>h) (fun _ h=>h) (fun _ _ _=>rfl) X⟩
theorem bP.mono{F F':Bool→Addr→Value→Prop}{ρ ρ':Nat→Option Value}{s:Nat→ag}(z:∀β a v,F β a v→F' β a v)(j:∀i u,ρ i=some u→ρ' i=some u)
  (h:bP n F ρ s a):bP n F' ρ' s a:=⟨h.tm,h.df,fun t=>V.mono z j (h.sl t)⟩
theorem bP.put{F:Bool→Addr→Value→Prop}{ρ:Nat→Option Value}{s:Nat→ag}(h:bP n F ρ s a){x:ag}{v:Value}(f:V F ρ x v){d:Nat}(j:d<n.sz):
  bP n F ρ (bH s d x) (a.put (some d) v):=by
 refine⟨by simp[Act.put,h.tm],h.df,fun t=> ?_⟩;have m:=h.tm;by_cases e:t=d
 ·subst e;rw[aw];have:(a.put (some t) v).tmps.getD t undef=v:=by simp[Act.put,Array.getD,m,j]
  rw[this];exact f
 ·rw[aB _ _ e];have:(a.put (some d) v).tmps.getD t undef=a.tmps.getD t undef:=by simp only[Act.put,Array.getD_eq_getD_getElem?];rw[Array.getElem?_setIfInBounds_ne (Ne.symm e)]
  rw[this];exact h.sl t
theorem Mem.drew(m:Mem Bw w0 ρ φ h w):Mem Bw w0 ρ φ h w.drew∧(∀β a v,Fr (own φ h) Bw w β a v→Fr (own φ h) Bw w.drew β a v) :=
 ⟨⟨fun id o j=>let ⟨u,z,B⟩:=m.ob id o j;⟨u,z,OR.mono (fun _ _ _ h=>h) (fun _ _ h=>h) (fun _ h=>h) (fun _ _ _=>rfl) B⟩,m.lt,m.dj,m.bw,m.ow,m.kp.drew,m.pM⟩,fun _ _ _ h=>h⟩
end
end Go.Tv
