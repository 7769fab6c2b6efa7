import Derived.Test.YtflahpmlcfhpcaaGreatDoorTvFam
namespace Go
def World.pZ(w:World)(a:Addr):QW :=
 match a.spot with
 | none=>w.cell? a
 | some _=>match w.heap[a.block]? with
  | some (.map f _)=>some (.tuple (f.map fun e=>Value.tuple #[e.key,e.val]))
  | _=>none
theorem World.fx{w:World}{a:Addr}{v:Value}(h:w.cell? a=some v):w.pZ a=some v:=by
 unfold World.pZ;split
 ·exact h
 ·rename_i s f;unfold World.cell? at h;split at h
  ·rw[f]at h;cases h
  ·cases h
theorem World.jt{w:World}{a:Addr}{v:Value}(h:w.pZ a=some v)(f:v.oneCell'=true):w.cell? a=some v:=by
 unfold World.pZ at h;split at h
 ·exact h
 ·split at h
  ·cases h;cases f
  ·cases h
theorem World.wY{w w':World}{a:Addr}(h:w'.heap[a.block]? = w.heap[a.block]?):w'.pZ a=w.pZ a:=by
 unfold World.pZ;split
 ·exact World.cell?_of_block h
 ·rw[h]
theorem World.HO{w:World}{a:Addr}{v:Value}(h:w.pZ a=some v):a.block<w.heap.size:=by
 unfold World.pZ at h;split at h
 ·exact World.block_lt_of_cell? w a h
 ·rcases Nat.lt_or_ge a.block w.heap.size with q | q
  ·exact q
  ·rw[Array.getElem?_eq_none q]at h;cases h
end Go
namespace Go.Tv
open Go Go.RowKit
abbrev Nd:=Bool×Qq×QK
def Nd.z:Nd:=(false,[],[])
abbrev jf(e:List Nd)(i:Nat):List Nd:=e.set i ((e.getD i Nd.z).1,(e.getD i Nd.z).2.1,(e.getD i Nd.z).2.2)
abbrev EE:Ty:= .prod (.mapi .i32 .i64) (.slice (.int .u8))
inductive Obj where
 | arr (e:TypeId) (A:Ty) (xs:List A.den)
 | fz (A:Ty) (xs:List A.den)
 | box (cs:List ag)
 | mpo (K A:Ty) (kv:List (K.den×A.den))
 | mpl (K:Ty) (kv:List (K.den×Value))
 | mat (e e2:TypeId) (A:Ty) (xss:List (List A.den)) (ho:Option (Nat×Nat))
 | bytes (e:TypeId) (xs:QK)
 | cutz (A:Ty) (xs:List A.den)
 | lmp (k:IntKind) (n:Nat) (xs:fh n) (cs:List ag)
 | vrow (n sz:Nat) (cs:List ag)
 | nds (e e2:TypeId) (ns:List Nd) (ho:Option (Nat×Bool×Nat))
 | mpq (b:Bool) (kv:Qq)
abbrev Qw:=List (Nat×Obj)
abbrev Qv:=Qw
abbrev Qz:=Option Obj
def Obj.live:Obj→Bool
 | .fz _ _=>false
 | .cutz _ _=>false
 | _=>true
structure St where
 s:Nat→ag
 h:Nat→Qz
 nx:Nat
 pn:Nat
def bF{α:Type}(f:Nat→α)(i:Nat)(x:α):Nat→α:=fun k=>if k=i then x else f k
theorem aB{α:Type}(f:Nat→α)(i:Nat)(x:α):bF f i x i=x:=by simp[bF]
theorem aQ{α:Type}(f:Nat→α){i k:Nat}(x:α)(h:k≠i):bF f i x k=f k:=by simp[bF,h]
def dx:Value→QJ
 | .slice (some a) _ _=>some a.block
 | .pointer (some a)=>some a.block
 | .map r=>r
 | _=>none
def own(φ:Nat→Nat→Prop)(h:Nat→Qz)(k:Nat):Prop :=
 ∃id ob,h id=some ob∧ob.live=true∧φ id k
def IW:QK:=[0,1,28,2,29,14,24,3,30,22,20,15,25,17,4,8,31,27,13,23,21,19,16,7,26,12,18,6,11,5,10,9]
def sT(P:Program)(w:World):Prop:=∀g,P.globalNamed "math/bits.deBruijn32tab" = some g→∀i,i<32→w.cell? ⟨g,i,none⟩=some (.int .u8 (IW.getD i 0))
structure cw(P:Program) where
 w:World
 kp:Nat→Prop
 lt:∀k,kp k→k<w.heap.size
 pc:Nat→QW
 ld:sT P w
 lk:∀g,P.globalNamed "math/bits.deBruijn32tab" = some g→kp g
structure Kept{P:Program}(b:cw P)(w:World):Prop where
 os:w.os=b.w.os
 tape:w.tape=b.w.tape
 output:w.output=b.w.output
 size:b.w.heap.size≤w.heap.size
 block:∀k,b.kp k→w.heap[k]? = b.w.heap[k]?
def kU{P:Program}{w:World}(hl:sT P w):cw P:=⟨w,fun k=>k<w.heap.size,fun _ h=>h,fun _=>none,hl,fun g e=>World.block_lt_of_cell? w _ (hl g e 0 (by decide))⟩
section
variable{P:Program}
theorem Kept.refl(b:cw P):Kept b b.w:=⟨rfl,rfl,rfl,Nat.le_refl _,fun _ _=>rfl⟩
theorem Kept.drew{b:cw P}{w:World}(h:Kept b w):Kept b w.drew:=⟨h.os,h.tape,h.output,h.size,h.block⟩
theorem Kept.grown{b:cw P}{w j:World}{row:QJ}(h:Kept b w)(f:w.grownBy j row)(p:∀k,row=some k→¬b.kp k):Kept b j :=
 ⟨f.os.trans h.os,f.tape.trans h.tape,f.output.trans h.output,Nat.le_trans h.size f.size,fun k hk =>
  (f.block k (Nat.lt_of_lt_of_le (b.lt k hk) h.size) (fun e=>p k e.symm hk)).trans (h.block k hk)⟩
theorem Kept.below{w e:World}{hl:sT P w}(h:Kept (kU hl) e):Below w.heap.size w e:=⟨h.os,h.tape,h.output,h.size,h.block⟩
theorem Kept.Dv{b:cw P}{w w':World}(h:Kept b w)(k:Below w.heap.size w w'):Kept b w' :=
 ⟨k.os.trans h.os,k.tape.trans h.tape,k.output.trans h.output,Nat.le_trans h.size k.size,fun i hi =>
  (k.block i (Nat.lt_of_lt_of_le (b.lt i hi) h.size)).trans (h.block i hi)⟩
theorem Kept.laid{b:cw P}{w:World}(h:Kept b w):sT P w:=fun g e i hi=>by
 rw[World.cell?_of_block (w:=b.w) (h.block g (b.lk g e))];exact b.ld g e i hi
end
def Fr(ow Bw:Nat→Prop)(w:World)(β:Bool)(a:Addr)(v:Value):Prop:=¬ow a.block∧(β=false→¬Bw a.block)∧w.pZ a=some v
def Ty.isKey:Ty→Bool
 | .int _=>true
 | .bool=>true
 | .str=>true
 | .unit=>true
 | .prod a b=>a.isKey && b.isKey
 | .arr _ _=>true
 | _=>false
def cJ:(K:Ty)→K.den→QY
 | .int k,n=>[.int k n]
 | .bool,b=>[.bool b]
 | .str,s=>[.string ⟨s.toArray⟩]
 | .prod a b,p=>cJ a p.1++cJ b p.2
 | .arr k _,e=>e.1.map (Value.int k)
 | _,_=>[]
def aS:(K:Ty)→K.den→Value
 | .int k,n=> .int k n
 | .bool,b=> .bool b
 | .str,s=> .string ⟨s.toArray⟩
 | K,x=> .agg (cJ K x).toArray
def MV(F:Addr→Value→Prop)(A:Ty)(x:A.den)(v:Value):Prop :=
 ah F A x (fun k u=>v.cells.toList[k]? = some u)∧v.cells.size=A.size∧(A.scalar=true→v.oneCell'=true)∧(A.scalar=false→∃e,v = .agg e)
def zG(F:Bool→Addr→Value→Prop)(S:Nat→Prop)(w:World)(p:TypeId)(A:Ty)(u v:Value)(e:List A.den):Prop :=
 (∀k,dx v=some k→S k∧dx u≠some k)∧∃f,w.ownsRow 0 p A.size v e.length f∧∀j (h:j<e.length),ah (F false) A e[j] (fun k v=>f[j*A.size+k]? = some v)
def Ai(e:Option (Nat×Nat))(i:Nat):Prop:=∀k id,e=some (k,id)→i≠k
def w8(f:Array MapEntry)(clock:Nat):Prop:=(f.toList.map (·.born)).Nodup∧∀e∈f.toList,e.born<clock
def Cs(w:World)(b:Bool)(e:Qq)(v:Value):Prop :=
 match b with
 | false=>v = .map none∧e=[]
 | true=>∃r f clock,v = .map (some r)∧w.heap[r]? = some (.map f clock)∧w8 f clock∧f.toList.map (·.key)=e.map (fun p=>Value.int .i32 p.1)∧f.toList.map (·.val)=e.map (fun p=>Value.int .i64 p.2)∧(e.map (·.1)).Nodup
def ze(S:Nat→Prop)(w:World)(e:TypeId)(v:Value):Bool→Nd→Prop
 | false,x=>(∀k,dx v=some k→S k)∧Cs w x.1 x.2.1 v
 | true,x=>(∀k,dx v=some k→S k)∧w.ownsRow 0 e 1 v x.2.2.length (x.2.2.map (Value.int .u8))
def Bu:Bool→Value→Prop
 | false,v=>∃r,v = .map r
 | true,v=>∃e n c,v = .slice e n c
def mL(e:Option (Nat×Bool×Nat))(i:Nat)(f:Bool):Prop:=∀k g id,e=some (k,g,id)→¬(i=k∧f=g)
def OR(F:Bool→Addr→Value→Prop)(ρ:Nat→QW)(S:Nat→Prop)(w:World):Obj→Value→Prop
 | .arr e A xs,u=>(∀k,dx u=some k→S k)∧0<A.size∧∃cells,w.ownsRow 0 e A.size u xs.length cells ∧
   ∀i (h:i<xs.length),ah (F false) A xs[i] (fun k v=>cells[i*A.size+k]? = some v)
 | .fz A xs,u=>V F ρ (.p false (.slice A) xs) u
 | .box B,u=>∃g t cells,u = .pointer (some ⟨g,0,none⟩)∧S g∧w.heap[g]? = some (.cells cells t (0,0))∧cells.size=B.length ∧
   VL F ρ B (fun k v=>cells[k]? = some v)
 | .mpo K A q,u=>∃r D clock,u = .map (some r)∧S r∧w.heap[r]? = some (.map D clock)∧(K.isKey=true∧w8 D clock)∧D.toList.map (·.key)=q.map (fun p=>aS K p.1)∧(q.map (·.1)).Nodup ∧
   ∀i (h:i<q.length),∃e:MapEntry,D[i]? = some e∧MV (F false) A q[i].2 e.val
 | .mpl K q,u=>∃r D clock,u = .map (some r)∧S r∧w.heap[r]? = some (.map D clock)∧K.isKey=true∧D.toList.map (·.key)=q.map (fun p=>aS K p.1)∧(q.map (·.1)).Nodup ∧
   ∀i (h:i<q.length),∃e:MapEntry,D[i]? = some e∧e.val=q[i].2
 | .mat e L A C x,u=>(∀k,dx u=some k→S k)∧0<A.size∧(∀k id,x=some (k,id)→k<C.length)∧∃cells:QY,w.ownsRow 0 e 1 u C.length cells ∧
   (∀i (h:i<C.length),∃v,cells[i]? = some v∧(∃M n c,v = .slice M n c)∧(Ai x i→zG F S w L A u v C[i])∧∀id,x=some (i,id)→ρ id=some v) ∧
   ∀i j E I b,i≠j→Ai x i→Ai x j→cells[i]? = some E→cells[j]? = some I→dx E=some b→dx I≠some b
 | .bytes e xs,u=>(u = .slice none 0 0∧xs=[])∨∃g cap z mk,u = .slice (some ⟨g,0,none⟩) xs.length cap∧S g∧w.heap[g]? = some (.cells z e mk)∧(mk=(0,0)∨mk=(z.size,z.size+1))∧xs.length≤cap∧z.size=cap ∧
   ∀i (h:i<xs.length),z[i]? = some (.int .u8 xs[i])
 | .lmp k n xs B,u=>∃g t cells,u = .pointer (some ⟨g,0,none⟩)∧S g∧w.heap[g]? = some (.cells cells t (0,0))∧cells.size=n+B.length∧(∀i (h:i<xs.1.length),cells[i]? = some (.int k xs.1[i])) ∧
   VL F ρ B (fun j v=>cells[n+j]? = some v)
 | .vrow n sz B,u=>∃g t cells,u = .slice (some ⟨g,0,none⟩) n n∧S g∧w.heap[g]? = some (.cells cells t (0,0))∧cells.size=B.length∧B.length=n*sz∧VL F ρ B (fun k v=>cells[k]? = some v)
 | .cutz A xs,u=>(∃M,u = .slice M xs.length xs.length)∧V F ρ (.p false (.slice A) xs) u
 | .nds e L J x,u=>(∀k,dx u=some k→S k)∧(∀k f id,x=some (k,f,id)→k<J.length)∧∃cells:QY,w.ownsRow 0 e 2 u J.length cells ∧
   (∀i f (h:i<J.length),∃v,cells[i*2+f.toNat]? = some v∧Bu f v∧(mL x i f→ze S w L v f J[i]∧∀k,dx v=some k→dx u≠some k)∧∀id,x=some (i,f,id)→ρ id=some v) ∧
   ∀i f j g E I b,¬(i=j∧f=g)→mL x i f→mL x j g→cells[i*2+f.toNat]? = some E→cells[j*2+g.toNat]? = some I→dx E=some b→dx I≠some b
 | .mpq b q,u=>(∀k,dx u=some k→S k)∧(∃r,u = .map r)∧Cs w b q u
theorem fL{w w':World}{e:TypeId}{sz n:Nat}{u:Value}{cells:QY}(hb:∀k,dx u=some k→w'.heap[k]? = w.heap[k]?)(h:w.ownsRow 0 e sz u n cells):w'.ownsRow 0 e sz u n cells:=by
 obtain⟨q,f⟩:=h;refine⟨q,?_⟩;rcases f with f | ⟨g,cap,j,rfl,x,z,A⟩
 ·exact .inl f
 ·exact .inr ⟨g,cap,j,rfl,x,by rw[hb g rfl];exact z,A⟩
theorem zG.mono{F F':Bool→Addr→Value→Prop}{S S':Nat→Prop}{w w':World}{B:TypeId}{A:Ty}{u v:Value}{xs:List A.den}
  (D:∀β a v,F β a v→F' β a v) (E:∀k,S k→S' k) (hb:∀k,S k→w'.heap[k]? = w.heap[k]?) (h:zG F S w B A u v xs):zG F' S' w' B A u v xs:=by
 obtain⟨z,I,J,L⟩:=h;exact⟨fun k hk=>⟨E k (z k hk).1,(z k hk).2⟩,I,fL (fun k hk=>hb k (z k hk).1) J,fun j M=>ah.mono (D _) (fun _ _ h=>h) (L j M)⟩
theorem Cs.mono{w w':World}{b:Bool}{j:Qq}{v:Value}(hb:∀k,dx v=some k→w'.heap[k]? = w.heap[k]?)(h:Cs w b j v):Cs w' b j v:=by
 cases b with
 | false=>exact h
 | true =>
  obtain⟨r,z,clock,rfl,B,D⟩:=h;exact⟨r,z,clock,rfl,by rw[hb r rfl];exact B,D⟩
theorem ze.mono{S S':Nat→Prop}{w w':World}{j:TypeId}{v:Value}{f:Bool}{x:Nd}(z:∀k,dx v=some k→S k→S' k)(hb:∀k,S k→w'.heap[k]? = w.heap[k]?)(h:ze S w j v f x):ze S' w' j v f x:=by
 cases f with
 | false=>exact⟨fun k hk=>z k hk (h.1 k hk),h.2.mono fun k hk=>hb k (h.1 k hk)⟩
 | true=>exact⟨fun k hk=>z k hk (h.1 k hk),fL (fun k hk=>hb k (h.1 k hk)) h.2⟩
structure Mem{P:Program}(Bw:Nat→Prop)(w0:cw P)(ρ:Nat→QW)(φ:Nat→Nat→Prop)(h:Nat→Qz)(w:World):Prop where
 ob:∀id o,h id=some o→∃u,ρ id=some u∧OR (Fr (own φ h) Bw w) ρ (φ id) w o u
 lt:∀id o k,h id=some o→o.live=true→φ id k→k<w.heap.size
 dj:∀id id' o o' k,h id=some o→o.live=true→h id'=some o'→o'.live=true→φ id k→φ id' k→id=id'
 bw:∀k,Bw k→w0.kp k
 ow:∀k,own φ h k→¬w0.kp k
 kp:Kept w0 w
 pc:∀i u,w0.pc i=some u→ρ i=some u
structure NS where
 sz:Nat
 D:List Deferred
instance:Coe Nat NS:=⟨fun n=>⟨n,[]⟩⟩
structure eT(n:NS)(F:Bool→Addr→Value→Prop)(ρ:Nat→QW)(s:Nat→ag)(a:Act):Prop where
 tm:a.tmps.size=n.sz
 df:a.defers=n.D
 sl:∀t,V F ρ (s t) (a.tmps.getD t undef)
structure Rel{P:Program}(n:NS)(Bw:Nat→Prop)(w0:cw P)(ρ:Nat→QW)(φ:Nat→Nat→Prop)(σ:St)(a:Act)(w:World):Prop where
 mem:Mem Bw w0 ρ φ σ.h w
 Ml:eT n (Fr (own φ σ.h) Bw w) ρ σ.s a
 nx:∀id u,ρ id=some u→id<σ.nx
theorem OR.mono{F F':Bool→Addr→Value→Prop}{ρ ρ':Nat→QW}{S S':Nat→Prop}{w w':World}{o:Obj}{u:Value}
  (L:∀β a v,F β a v→F' β a v) (D:∀i u,ρ i=some u→ρ' i=some u) (I:∀k,S k→S' k)
  (hb:o.live=true→∀k,S k→w'.heap[k]? = w.heap[k]?) (h:OR F ρ S w o u):OR F' ρ' S' w' o u:=by
 cases o with
 | arr e A xs =>
  obtain⟨j,h0,cells,⟨B,z⟩,E⟩:=h;refine⟨fun k hk=>I k (j k hk),h0,cells,⟨B,?_⟩,fun i hi=>ah.mono (L _) (fun _ _ h=>h) (E i hi)⟩;rcases z with z | ⟨g,cap,M,rfl,r1,r2,r3⟩
  ·exact .inl z
  ·exact .inr ⟨g,cap,M,rfl,r1,by rw[hb rfl g (j g rfl)];exact r2,r3⟩
 | fz A xs=>exact V.mono L D h
 | box cs =>
  obtain⟨g,t,cells,rfl,j,B,z,E⟩:=h;exact⟨g,t,cells,rfl,I _ j,by rw[hb rfl g j];exact B,z,VL.mono L D (fun _ _ h=>h) E⟩
 | mpo K A kv =>
  obtain⟨r,es,clock,rfl,j,B,z,E,O,h5⟩:=h;exact⟨r,es,clock,rfl,I _ j,by rw[hb rfl r j];exact B,z,E,O,fun i hi=>let ⟨e,Y,Z,N⟩:=h5 i hi;⟨e,Y,ah.mono (L _) (fun _ _ h=>h) Z,N⟩⟩
 | mpl K kv =>
  obtain⟨r,es,clock,rfl,j,B,z⟩:=h;exact⟨r,es,clock,rfl,I _ j,by rw[hb rfl r j];exact B,z⟩
 | mat e e2 A a1 ho =>
  obtain⟨j,h0,hk,cells,B,z,E⟩:=h;refine⟨fun k hk=>I k (j k hk),h0,hk,cells,fL (fun k hk=>hb rfl k (j k hk)) B,fun i hi=>?_,E⟩;obtain⟨v,Y,Z,N,q4⟩:=z i hi;exact⟨v,Y,Z,fun J=>(N J).mono L I (hb rfl),fun id e=>D _ _ (q4 id e)⟩
 | bytes e xs =>
  rcases h with h | ⟨g,cap,M,mk,rfl,j,B,z⟩
  ·exact .inl h
  ·exact .inr ⟨g,cap,M,mk,rfl,I _ j,by rw[hb rfl g j];exact B,z⟩
 | cutz A xs=>exact⟨h.1,V.mono L D h.2⟩
 | lmp k n xs cs =>
  obtain⟨g,t,cells,rfl,j,B,z,E,O⟩:=h;exact⟨g,t,cells,rfl,I _ j,by rw[hb rfl g j];exact B,z,E,VL.mono L D (fun _ _ h=>h) O⟩
 | vrow n sz cs =>
  obtain⟨g,t,cells,rfl,j,B,z,E,O⟩:=h;exact⟨g,t,cells,rfl,I _ j,by rw[hb rfl g j];exact B,z,E,VL.mono L D (fun _ _ h=>h) O⟩
 | nds e e2 ns ho =>
  obtain⟨j,hk,cells,B,z,E⟩:=h;refine⟨fun k hk=>I k (j k hk),hk,cells,fL (fun k hk=>hb rfl k (j k hk)) B,fun i f hi=>?_,E⟩;obtain⟨v,Y,Z,N,q4⟩:=z i f hi;exact⟨v,Y,Z,fun J=>⟨(N J).1.mono (fun k _=>I k) (hb rfl),(N J).2⟩,fun id e=>D _ _ (q4 id e)⟩
 | mpq b kv=>exact⟨fun k hk=>I k (h.1 k hk),h.2.1,h.2.2.mono fun k hk=>hb rfl k (h.1 k hk)⟩
section
variable{P:Program}{n:NS}{Bw:Nat→Prop}{w0:cw P}{ρ:Nat→QW}{φ:Nat→Nat→Prop}{h:Nat→Qz}{σ:St}{a:Act}{w:World}
theorem Fr.Jo{ow j:Nat→Prop}{w':World}(D:∀k,k<w.heap.size→¬ow k→w'.heap[k]? = w.heap[k]?)
  (E:∀k,j k→ow k∨w.heap.size≤k) (β:Bool) (a:Addr) (v:Value) (h:Fr ow Bw w β a v):Fr j Bw w' β a v:=by
 obtain⟨B,I,C⟩:=h;have z:=World.HO C;refine⟨fun J=>?_,I,by rw[World.wY (w:=w) (D _ z B)];exact C⟩;rcases E _ J with h' | h'
 ·exact B h'
 ·omega
theorem Mem.uT(m:Mem Bw w0 ρ φ h w){k:Nat}(hk:own φ h k):k<w.heap.size:=by
 obtain⟨id,o,j,z,B⟩:=hk;exact m.lt id o k j z B
theorem Mem.put(m:Mem Bw w0 ρ φ h w){w':World}(E:QJ)(j:Nat)(o1:Obj)(u1:Value)(S1:Nat→Prop)(row:QJ)
  (hg:w.grownBy w' row)
  (h0:∀k,row=some k→∃i o,E=some i∧h i=some o∧o.live=true∧φ i k)
  (M:ρ j=none∨(E=some j∧ρ j=some u1))
  (a7:o1.live=true→∀k,S1 k→k<w'.heap.size)
  (hb:o1.live=true→∀k,S1 k→w.heap.size≤k∨∃i o,E=some i∧h i=some o∧o.live=true∧φ i k)
  (ho:∀F' ρ',(∀β a v,Fr (own φ h) Bw w β a v→F' β a v)→(∀i u,ρ i=some u→ρ' i=some u)→OR F' ρ' S1 w' o1 u1) :
  Mem Bw w0 (bF ρ j (some u1)) (bF φ j S1) (bF (fun i=>if E=some i then none else h i) j (some o1)) w' ∧
  (∀β a v,Fr (own φ h) Bw w β a v→Fr (own (bF φ j S1) (bF (fun i=>if E=some i then none else h i) j (some o1))) Bw w' β a v) ∧
  (∀i u,ρ i=some u→bF ρ j (some u1) i=some u):=by
 have N:∀i u,ρ i=some u→bF ρ j (some u1) i=some u:=fun i u hi=>by
  by_cases e:i=j
  ·subst e;rcases M with hf | ⟨_,hf⟩
   ·rw[hf]at hi;cases hi
   ·rw[aB,←hf,hi]
  ·rw[aQ _ _ e,hi]
 have a5:∀i,i≠j→bF ρ j (some u1) i=ρ i:=fun i e=>aQ _ _ e
 have z:∀i,i≠j→bF φ j S1 i=φ i:=fun i e=>aQ _ _ e
 have B:∀i o,i≠j→bF (fun i=>if E=some i then none else h i) j (some o1) i=some o→h i=some o∧E≠some i:=fun i o e hi=>by
  rw[aQ _ _ e]at hi;by_cases e0:E=some i
  ·simp[e0]at hi
  ·simp[e0]at hi;exact⟨hi,e0⟩
 have a2:∀k,own (bF φ j S1) (bF (fun i=>if E=some i then none else h i) j (some o1)) k→own φ h k∨w.heap.size≤k:=by
  rintro k ⟨id,o,C,L,O⟩;by_cases e:id=j
  ·subst e;rw[aB]at C O;cases C;rcases hb L k O with V | ⟨i,o,_,D,X,Y⟩
   ·exact .inr V
   ·exact .inl ⟨i,o,D,X,Y⟩
  ·rw[z _ e]at O;exact .inl ⟨id,o,(B _ _ e C).1,L,O⟩
 have a3:∀k,k<w.heap.size→¬own φ h k→w'.heap[k]? = w.heap[k]? :=fun k hk hn =>
  hg.block k hk fun e=>by obtain⟨i,o,_,D,X,Y⟩:=h0 k e.symm;exact hn ⟨i,o,D,X,Y⟩
 have hF:∀β a v,Fr (own φ h) Bw w β a v→Fr (own (bF φ j S1) (bF (fun i=>if E=some i then none else h i) j (some o1))) Bw w' β a v :=
  fun β a v=>Fr.Jo a3 a2 β a v
 have I:∀id o k,id≠j→h id=some o→E≠some id→o.live=true→φ id k→¬(∃i o,E=some i∧h i=some o∧o.live=true∧φ i k):=by rintro id o k e J D X Y ⟨i,o',r1,r2,r3,r4⟩;have:=m.dj id i o o' k J X r2 r3 Y r4;subst this;exact D r1
 refine⟨⟨fun id o a4=>?_,fun id o k C L Z=>?_,fun id a1 o o' k C L Z O V h6=>?_,m.bw,fun k hk a6=>?_,?_,?_⟩,hF,N⟩
 ·by_cases e:id=j
  ·subst e;rw[aB]at a4;cases a4;refine⟨u1,aB _ _ _,?_⟩;rw[aB];exact ho _ _ hF N
  ·obtain⟨J,D⟩:=B _ _ e a4;obtain⟨u,X,Y⟩:=m.ob id o J;refine⟨u,by rw[a5 _ e];exact X,?_⟩;rw[z _ e];refine OR.mono hF N (fun _ h=>h) (fun hl k hk=>?_) Y;refine hg.block k (m.lt id o k J hl hk) fun er=>?_
   exact I id o k e J D hl hk (h0 k er.symm)
 ·by_cases e:id=j
  ·subst e;rw[aB]at C Z;cases C;exact a7 L k Z
  ·rw[z _ e]at Z;exact Nat.lt_of_lt_of_le (m.lt id o k (B _ _ e C).1 L Z) hg.size
 ·by_cases e:id=j <;> by_cases e':a1=j
  ·rw[e,e']
  ·subst e;rw[aB]at C V;cases C;rw[z _ e']at h6;obtain⟨J,D⟩:=B _ _ e' Z;rcases hb L k V with h9 | h9
   ·have:=m.lt a1 o' k J O h6;omega
   ·exact absurd h9 (I a1 o' k e' J D O h6)
  ·subst e';rw[aB]at Z h6;cases Z;rw[z _ e]at V;obtain⟨J,D⟩:=B _ _ e C;rcases hb O k h6 with h9 | h9
   ·have:=m.lt id o k J L V;omega
   ·exact absurd h9 (I id o k e J D L V)
  ·rw[z _ e]at V;rw[z _ e']at h6;exact m.dj id a1 o o' k (B _ _ e C).1 L (B _ _ e' Z).1 O V h6
 ·rcases a2 k hk with C | C
  ·exact m.ow k C a6
  ·have:=w0.lt k a6;have:=m.kp.size;omega
 ·exact m.kp.grown hg (fun k hk=>by
   obtain⟨i,o,_,D,X,Y⟩:=h0 k hk;exact m.ow k ⟨i,o,D,X,Y⟩)
 ·exact fun i u hi=>N i u (m.pc i u hi)
theorem lD{F F':Bool→Addr→Value→Prop}{ρ':Nat→QW}{A:Ty}{xs:List A.den}{u:Value}{w:World}{e:TypeId}{cells:QY}
  (f:w.ownsRow 0 e A.size u xs.length cells) (j:∀i (h:i<xs.length),ah (F false) A xs[i] (fun k v=>cells[i*A.size+k]? = some v))
  (β:Bool) (q:∀a v,F false a v→F' β a v) (hc:∀a v,dx u=some a.block→w.cell? a=some v→F' β a v):V F' ρ' (.p β (.slice A) xs) u:=by
 simp only[V,ah];refine⟨rfl,?_⟩;rcases f.2 with⟨rfl,hn⟩ | ⟨g,cap,x,rfl,z⟩
 ·exact⟨none,0,0,rfl,⟨hn.symm,Nat.le_refl _⟩,fun i hi=>absurd hi (by omega)⟩
 ·refine⟨_,_,_,rfl,⟨rfl,z.2.2.1⟩,fun i hi=>⟨_,rfl,ah.mono q (fun k v hk=>?_) (j i hi)⟩⟩;refine hc _ _ (by simp only[dx,Addr.add];split <;> rfl) (f.cells (g:=g) rfl _ _ hk)
theorem Mem.freeze(m:Mem Bw w0 ρ φ h w){i:Nat}{te:TypeId}{A:Ty}{xs:List A.den}(hi:h i=some (.arr te A xs)):
  Mem Bw w0 ρ φ (bF h i (some (.fz A xs))) w∧(∀β a v,Fr (own φ h) Bw w β a v→Fr (own φ (bF h i (some (.fz A xs)))) Bw w β a v):=by
 have D:∀id o,id≠i→bF h i (some (.fz A xs)) id=some o→h id=some o:=fun id o e B=>by rwa [aQ _ _ e]at B
 have C:∀id o,bF h i (some (.fz A xs)) id=some o→o.live=true→id≠i:=fun id o j z e=>by subst e;rw[aB]at j;cases j;simp[Obj.live]at z
 have E:∀k,own φ (bF h i (some (.fz A xs))) k→own φ h k:=by rintro k ⟨id,o,j,z,J⟩;exact⟨id,o,D _ _ (C _ _ j z) j,z,J⟩
 have N:∀β a v,Fr (own φ h) Bw w β a v→Fr (own φ (bF h i (some (.fz A xs)))) Bw w β a v :=
  fun β a v h=>⟨fun D=>h.1 (E _ D),h.2⟩
 refine⟨⟨fun id o B=>?_,fun id o k j z L=>m.lt id o k (D _ _ (C _ _ j z) j) z L,fun id I o O k j z L J h5 h6 =>
  m.dj id I o O k (D _ _ (C _ _ j z) j) z (D _ _ (C _ _ L J) L) J h5 h6,m.bw,fun k hk=>m.ow k (E k hk),m.kp,m.pc⟩,N⟩
 by_cases e:id=i
 ·subst e;rw[aB]at B;cases B;obtain⟨u,j,z⟩:=m.ob id _ hi;refine⟨u,j,?_⟩;obtain⟨Y,_,cells,L,J⟩:=z;refine lD (ρ':=ρ) L J false (fun a v h=>N _ _ _ h) fun a v hb hc=>⟨fun V=>?_,fun _ X=>?_,World.fx hc⟩
  ·obtain⟨I,O,Z,q2,q4⟩:=V;have M:=C _ _ Z q2;exact M (m.dj I id O _ a.block (D _ _ M Z) q2 hi rfl q4 (Y _ hb))
  ·exact m.ow a.block ⟨id,_,hi,rfl,Y _ hb⟩ (m.bw _ X)
 ·obtain⟨u,j,z⟩:=m.ob id o (D _ _ e B);exact⟨u,j,OR.mono N (fun _ _ h=>h) (fun _ h=>h) (fun _ _ _=>rfl) z⟩
theorem H8{F:Bool→Addr→Value→Prop}{ρ ρ':Nat→QW}{S:Nat→Prop}{w:World}{x:TypeId}{e:QK}{u:Value}(h:OR F ρ S w (.bytes x e) u):
  V (fun _ a v=>w.cell? a=some v) ρ' (.p false (.slice (.int .u8)) e) u:=by
 simp only[V];refine⟨rfl,?_⟩;rcases h with⟨rfl,rfl⟩ | ⟨g,cap,f,mk,rfl,E,A,I,B,J,C⟩
 ·exact⟨none,0,0,rfl,⟨rfl,Nat.le_refl _⟩,fun j q=>absurd q (by simp)⟩
 ·refine⟨some ⟨g,0,none⟩,e.length,cap,rfl,⟨rfl,B⟩,fun j q=>⟨_,rfl,?_⟩⟩;simp only[ah];have D:((⟨g,0,none⟩:Addr).add (j*Ty.size (.int .u8)+0))=⟨g,j,none⟩:=by
   unfold Addr.add;simp only[Ty.size];by_cases z:j=0
   ·subst z;simp
   ·simp[z]
  rw[D,cell_of_row w g j f x mk A];exact C j q
theorem Mem.De(m:Mem Bw w0 ρ φ h w){i:Nat}{B:TypeId}{xs:QK}(hi:h i=some (.arr B (.int .u8) xs)):
  Mem Bw w0 ρ φ (bF h i (some (.bytes B xs))) w∧(∀β a v,Fr (own φ h) Bw w β a v→Fr (own φ (bF h i (some (.bytes B xs)))) Bw w β a v):=by
 obtain⟨u,L,V,h0,cells,X,Y⟩:=m.ob i _ hi;have D:bF ρ i (some u)=ρ:=by
  funext j;by_cases e:j=i
  ·subst e;rw[aB,L]
  ·rw[aQ _ _ e]
 have C:bF φ i (φ i)=φ:=by
  funext j;by_cases e:j=i
  ·subst e;rw[aB]
  ·rw[aQ _ _ e]
 have M:bF (fun j=>if some i=some j then none else h j) i (some (Obj.bytes B xs))=bF h i (some (.bytes B xs)):=by
  funext j;by_cases e:j=i
  ·subst e;rw[aB,aB]
  ·rw[aQ _ _ e,aQ _ _ e];simp[Ne.symm e]
 obtain⟨N,O,_⟩:=m.put (w':=w) (some i) i (.bytes B xs) u (φ i) none ⟨rfl,rfl,rfl,Nat.le_refl _,fun _ _ _=>rfl⟩ (fun k hk=>by cases hk) (.inr ⟨rfl,L⟩)
  (fun _ k hk=>m.lt i _ k hi rfl hk) (fun _ k hk=> .inr ⟨i,_,rfl,hi,rfl,hk⟩)
  (fun F' ρ' hF Z=>by
   rcases X.2 with⟨rfl,hn⟩ | ⟨g,cap,E,rfl,_,hg,I,a1,J,z⟩
   ·exact .inl ⟨rfl,List.eq_nil_of_length_eq_zero hn⟩
   ·refine .inr ⟨g,cap,E,(0,0),rfl,V g rfl,hg,.inl rfl,I,by rw[J];simp[Ty.size],fun j hj=>?_⟩;have:=Y j hj;simp only[ah,Ty.size,Nat.mul_one,Nat.add_zero]at this;rw[←z,List.getElem?_take]at this;split at this
    ·rw[←Array.getElem?_toList];exact this
    ·cases this)
 rw[D,C,M]at N;rw[C,M]at O;exact⟨N,O⟩
theorem Mem.HM(m:Mem Bw w0 ρ φ h w){i:Nat}{te:TypeId}{xs:QK}(hi:h i=some (.bytes te xs)):
  Mem Bw w0 ρ φ (bF h i (some (.fz (.int .u8) xs))) w∧(∀β a v,Fr (own φ h) Bw w β a v→Fr (own φ (bF h i (some (.fz (.int .u8) xs)))) Bw w β a v):=by
 have E:∀id o,id≠i→bF h i (some (.fz (.int .u8) xs)) id=some o→h id=some o:=fun id o e C=>by rwa [aQ _ _ e]at C
 have D:∀id o,bF h i (some (.fz (.int .u8) xs)) id=some o→o.live=true→id≠i:=fun id o z B e=>by subst e;rw[aB]at z;cases z;simp[Obj.live]at B
 have I:∀k,own φ (bF h i (some (.fz (.int .u8) xs))) k→own φ h k:=by rintro k ⟨id,o,z,B,M⟩;exact⟨id,o,E _ _ (D _ _ z B) z,B,M⟩
 have hF:∀β a v,Fr (own φ h) Bw w β a v→Fr (own φ (bF h i (some (.fz (.int .u8) xs)))) Bw w β a v :=
  fun β a v h=>⟨fun E=>h.1 (I _ E),h.2⟩
 refine⟨⟨fun id o C=>?_,fun id o k z B N=>m.lt id o k (E _ _ (D _ _ z B) z) B N,fun id J o O k z B N M h5 h6 =>
  m.dj id J o O k (E _ _ (D _ _ z B) z) B (E _ _ (D _ _ N M) N) M h5 h6,m.bw,fun k hk=>m.ow k (I k hk),m.kp,m.pc⟩,hF⟩
 by_cases e:id=i
 ·subst e;rw[aB]at C;cases C;obtain⟨u,z,B⟩:=m.ob id _ hi;refine⟨u,z,?_⟩;simp only[OR,V];refine⟨rfl,?_⟩;rcases B with⟨rfl,rfl⟩ | ⟨g,cap,X,mk,rfl,hs,r1,r2,r3,r5,r6⟩
  ·exact⟨none,0,0,rfl,⟨rfl,Nat.le_refl _⟩,fun j Y=>absurd Y (by simp)⟩
  ·refine⟨some ⟨g,0,none⟩,xs.length,cap,rfl,⟨rfl,r3⟩,fun j Y=>⟨_,rfl,?_⟩⟩;simp only[ah];have ec:w.cell? (⟨g,j,none⟩:Addr)=some (.int .u8 xs[j]):=by rw[cell_of_row w g j X te mk r1];exact r6 j Y
   have ea:((⟨g,0,none⟩:Addr).add (j*Ty.size (.int .u8)+0))=⟨g,j,none⟩:=by
    unfold Addr.add;simp only[Ty.size];by_cases e0:j=0
    ·subst e0;simp
    ·simp[e0]
   rw[ea];refine⟨fun Z=>?_,fun _ a1=>m.ow g ⟨id,_,hi,rfl,hs⟩ (m.bw _ a1),ec⟩;obtain⟨J,O,q1,q2,q4⟩:=Z;have L:=D _ _ q1 q2;exact L (m.dj J id O _ g (E _ _ L q1) q2 hi rfl q4 hs)
 ·obtain⟨u,z,B⟩:=m.ob id o (E _ _ e C);exact⟨u,z,OR.mono hF (fun _ _ h=>h) (fun _ h=>h) (fun _ _ _=>rfl) B⟩
theorem tx{G:Addr→Value→Prop}{A:Ty}{xs:List A.den}{v:Value}{g:Nat→Value→Prop}(h:ah G (.slice A) xs (fun _ u=>u=v))(f:g 0 v):ah G (.slice A) xs g:=by
 obtain⟨j,l,c,e,hl,h⟩:=h;exact⟨j,l,c,by rw[e];exact f,hl,h⟩
theorem Mem.Eg(m:Mem Bw w0 ρ φ h w){i:Nat}{te e2:TypeId}{A:Ty}{z:List (List A.den)}(hi:h i=some (.mat te e2 A z none)):
  Mem Bw w0 ρ φ (bF h i (some (.fz (.slice A) z))) w∧(∀β a v,Fr (own φ h) Bw w β a v→Fr (own φ (bF h i (some (.fz (.slice A) z)))) Bw w β a v):=by
 have J:∀id o,id≠i→bF h i (some (.fz (.slice A) z)) id=some o→h id=some o:=fun id o e D=>by rwa [aQ _ _ e]at D
 have E:∀id o,bF h i (some (.fz (.slice A) z)) id=some o→o.live=true→id≠i:=fun id o B C e=>by subst e;rw[aB]at B;cases B;simp[Obj.live]at C
 have L:∀k,own φ (bF h i (some (.fz (.slice A) z))) k→own φ h k:=by rintro k ⟨id,o,B,C,M⟩;exact⟨id,o,J _ _ (E _ _ B C) B,C,M⟩
 have X:∀β a v,Fr (own φ h) Bw w β a v→Fr (own φ (bF h i (some (.fz (.slice A) z)))) Bw w β a v :=
  fun β a v h=>⟨fun J=>h.1 (L _ J),h.2⟩
 have hin:∀a v,φ i a.block→w.cell? a=some v→Fr (own φ (bF h i (some (.fz (.slice A) z)))) Bw w false a v:=fun a v hb hc =>
  ⟨fun Y=>by
   obtain⟨I,Z,q1,q2,q4⟩:=Y;have O:=E _ _ q1 q2;exact O (m.dj I i Z _ a.block (J _ _ O q1) q2 hi rfl q4 hb),fun _ a1=>m.ow a.block ⟨i,_,hi,rfl,hb⟩ (m.bw _ a1),World.fx hc⟩
 refine⟨⟨fun id o D=>?_,fun id o k B C N=>m.lt id o k (J _ _ (E _ _ B C) B) C N,fun id I o Z k B C N M h5 h6 =>
  m.dj id I o Z k (J _ _ (E _ _ B C) B) C (J _ _ (E _ _ N M) N) M h5 h6,m.bw,fun k hk=>m.ow k (L k hk),m.kp,m.pc⟩,X⟩
 by_cases e:id=i
 ·subst e;rw[aB]at D;cases D;obtain⟨u,B,hs,_,_,cells,N,M,_⟩:=m.ob id _ hi;refine⟨u,B,?_⟩;refine lD (ρ':=ρ) (F:=Fr (own φ (bF h id (some (.fz (.slice A) z)))) Bw w) (A:= .slice A) (e:=te) (cells:=cells) N (fun j hj=>?_) false (fun _ _ h=>h) (fun a v hb hc=>hin a v (hs _ hb) hc);obtain⟨v,p1,_,p3,_⟩:=M j hj;obtain⟨r1,rc,r2,r3⟩:=p3 (fun k I e=>by cases e);have:=lD (F:=Fr (own φ h) Bw w) (F':=Fr (own φ (bF h id (some (.fz (.slice A) z)))) Bw w) (ρ':=ρ) r2 r3 false (fun a v h=>X _ _ _ h) (fun a v hb hc=>hin a v (r1 _ hb).1 hc);simp only[V]at this;refine tx this.2 ?_;show cells[j*1+0]? = some v;rw[Nat.mul_one,Nat.add_zero];exact p1
 ·obtain⟨u,B,C⟩:=m.ob id o (J _ _ e D);exact⟨u,B,OR.mono X (fun _ _ h=>h) (fun _ h=>h) (fun _ _ _=>rfl) C⟩
theorem Mem.qU(m:Mem Bw w0 ρ φ h w){h':Nat→Qz}{φ':Nat→Nat→Prop}{ρ':Nat→QW}(M:∀i u,ρ i=some u→ρ' i=some u)(G:Nat→Prop)
  (hout:∀i,¬G i→h' i=h i∧φ' i=φ i)
  (hin:∀i o,G i→h' i=some o→(∃u,ρ' i=some u∧∀F',(∀β a v,Fr (own φ h) Bw w β a v→F' β a v)→OR F' ρ' (φ' i) w o u)∧(o.live=true→∀k,φ' i k→∃j z,G j∧h j=some z∧z.live=true∧φ j k))
  (a1:∀i j o z k,G i→G j→h' i=some o→o.live=true→h' j=some z→z.live=true→φ' i k→φ' j k→i=j) :
  Mem Bw w0 ρ' φ' h' w∧(∀β a v,Fr (own φ h) Bw w β a v→Fr (own φ' h') Bw w β a v):=by
 have C:∀k,own φ' h' k→own φ h k:=by
  rintro k ⟨id,o,B,D,I⟩;by_cases g:G id
  ·obtain⟨j,z,_,q2,q3,q4⟩:=(hin id o g B).2 D k I;exact⟨j,z,q2,q3,q4⟩
  ·obtain⟨N,O⟩:=hout id g;exact⟨id,o,by rw[←N];exact B,D,by rw[←O];exact I⟩
 have hF:∀β a v,Fr (own φ h) Bw w β a v→Fr (own φ' h') Bw w β a v:=fun β a v h=>⟨fun x=>h.1 (C _ x),h.2⟩
 have J:∀i j o z k,G i→¬G j→h' i=some o→o.live=true→h' j=some z→z.live=true→φ' i k→φ' j k→False:=fun i j o z k Z V B D E I X L=>by obtain⟨j0,o0,p1,p2,p3,p4⟩:=(hin i o Z B).2 D k X;obtain⟨N,O⟩:=hout j V;rw[N]at E;rw[O]at L;have:=m.dj _ _ _ _ k p2 p3 E I p4 L;subst this;exact V p1
 refine⟨⟨fun id o Y=>?_,fun id o k B D E=>m.uT (C k ⟨id,o,B,D,E⟩),fun i j o z k B D E I X L=>?_,m.bw,fun k hk=>m.ow k (C k hk),m.kp,fun i u hi=>M i u (m.pc i u hi)⟩,hF⟩
 ·by_cases g:G id
  ·obtain⟨⟨u,q1,q2⟩,_⟩:=hin id o g Y;exact⟨u,q1,q2 _ hF⟩
  ·obtain⟨N,O⟩:=hout id g;rw[N]at Y;obtain⟨u,q1,q2⟩:=m.ob id o Y;exact⟨u,M _ _ q1,by rw[O];exact OR.mono hF M (fun _ h=>h) (fun _ _ _=>rfl) q2⟩
 ·by_cases Z:G i <;> by_cases V:G j
  ·exact a1 i j o z k Z V B D E I X L
  ·exact(J i j o z k Z V B D E I X L).elim
  ·exact(J j i z o k V Z E I B D L X).elim
  ·obtain⟨N,O⟩:=hout i Z;obtain⟨e3,e4⟩:=hout j V;rw[N]at B;rw[e3]at E;rw[O]at X;rw[e4]at L;exact m.dj i j o z k B D E I X L
theorem Mem.vS(m:Mem Bw w0 ρ φ h w){i j k:Nat}{te E:TypeId}{A:Ty}{B:List (List A.den)}{ys:List A.den}(hi:h i=some (.mat te E A B (some (k,j))))(I:h j=some (.arr E A ys)):
  Mem Bw w0 ρ (bF φ i (fun b=>φ i b∨φ j b)) (bF (bF h j none) i (some (.mat te E A (B.set k ys) none))) w ∧
  (∀β a v,Fr (own φ h) Bw w β a v→Fr (own (bF φ i (fun b=>φ i b∨φ j b)) (bF (bF h j none) i (some (.mat te E A (B.set k ys) none)))) Bw w β a v):=by
 have z:i≠j:=fun e=>by subst e;rw[hi]at I;cases I
 refine m.qU (fun _ _ h=>h) (fun x=>x=i∨x=j) (fun x J=>⟨?_,?_⟩) (fun x o J N=>?_) (fun x y o o' b J hy O h2 M V h5 h6=>?_)
 ·rw[aQ _ _ (fun e=>J (.inl e)),aQ _ _ (fun e=>J (.inr e))]
 ·rw[aQ _ _ (fun e=>J (.inl e))]
 ·rcases J with rfl | rfl
  ·rw[aB]at N;cases N;rw[aB];obtain⟨u,O,hs,h0,hk,cells,M,V,h5⟩:=m.ob x _ hi;obtain⟨v,g1,X,_,rc,g2,g3⟩:=m.ob j _ I;have a5:=hk k j rfl;refine⟨⟨u,O,fun F' hF=>⟨fun b hb=> .inl (hs b hb),h0,fun _ _ e=>(by cases e),cells,by rw[List.length_set];exact M,fun r Y=>?_,fun r Z vr a1 b L _ _ e1 E b1 b2=>?_⟩⟩,fun _ b hb=>?_⟩
   ·rw[List.length_set]at Y;obtain⟨vr,p1,p2,p3,p4⟩:=V r Y;refine⟨vr,p1,p2,fun _=>?_,fun id e=>by cases e⟩;by_cases e:r=k
    ·subst e;have:=p4 j rfl;rw[g1]at this;cases this;simp only[List.getElem_set_self];refine⟨fun b hb=>⟨.inr (X b hb),fun a2=>?_⟩,rc,g2,fun q hq=>ah.mono (hF _) (fun _ _ h=>h) (g3 q hq)⟩;exact z (m.dj x j _ _ b hi rfl I rfl (hs b a2) (X b hb))
    ·rw[List.getElem_set_ne (Ne.symm e)];exact(p3 (fun k' C D=>by cases D;exact e)).mono hF (fun _ h=> .inl h) (fun _ _=>rfl)
   ·-- two a4
    have Y:r<B.length:=by have:=(List.getElem?_eq_some_iff.1 e1).1;have:=M.1;omega
    have a3:Z<B.length:=by have:=(List.getElem?_eq_some_iff.1 E).1;have:=M.1;omega
    obtain⟨a6,p1,p2,p3,p4⟩:=V r Y;obtain⟨a7,q1,q2,q3,q4⟩:=V Z a3;rw[e1]at p1;rw[E]at q1;cases p1;cases q1;by_cases c1:r=k
    ·subst c1;have:=p4 j rfl;rw[g1]at this;cases this;have c2:=q3 (fun k' C D=>by cases D;exact Ne.symm L);exact z (m.dj x j _ _ b hi rfl I rfl (c2.1 b b2).1 (X b b1))
    ·by_cases c2:Z=k
     ·subst c2;have:=q4 j rfl;rw[g1]at this;cases this;have c3:=p3 (fun k' C D=>by cases D;exact L);exact z (m.dj x j _ _ b hi rfl I rfl (c3.1 b b1).1 (X b b2))
     ·exact h5 r Z vr a1 b L (fun k' C D=>by cases D;exact c1) (fun k' C D=>by cases D;exact c2) e1 E b1 b2
   ·rcases hb with hb | hb
    ·exact⟨x,_,.inl rfl,hi,rfl,hb⟩
    ·exact⟨j,_,.inr rfl,I,rfl,hb⟩
  ·rw[aQ _ _ (Ne.symm z),aB]at N;cases N
 ·rcases J with rfl | rfl <;> rcases hy with rfl | rfl
  ·rfl
  ·rw[aQ _ _ (Ne.symm z),aB]at M;cases M
  ·rw[aQ _ _ (Ne.symm z),aB]at O;cases O
  ·rfl
theorem Mem.Hx(m:Mem Bw w0 ρ φ h w){i j k:Nat}{I D:TypeId}{A:Ty}{z:List (List A.den)}(hi:h i=some (.mat I D A z none))(V:ρ j=none)(hk:k<z.length):
  ∃v cells u,ρ i=some u∧w.ownsRow 0 I 1 u z.length cells∧cells[k]? = some v∧(∃ad n c,v = .slice ad n c) ∧
  Mem Bw w0 (bF ρ j (some v)) (bF (bF φ i (fun b=>φ i b∧dx v≠some b)) j (fun b=>dx v=some b)) (bF (bF h i (some (.mat I D A z (some (k,j))))) j (some (.arr D A z[k]))) w ∧
  (∀β a v',Fr (own φ h) Bw w β a v'→Fr (own (bF (bF φ i (fun b=>φ i b∧dx v≠some b)) j (fun b=>dx v=some b)) (bF (bF h i (some (.mat I D A z (some (k,j))))) j (some (.arr D A z[k])))) Bw w β a v') ∧
  (∀i u,ρ i=some u→bF ρ j (some v) i=some u):=by
 obtain⟨u,X,hs,h0,_,cells,h3,h4,h5⟩:=m.ob i _ hi;have B:i≠j:=fun e=>by subst e;rw[X]at V;cases V
 obtain⟨v,J,p2,p3,_⟩:=h4 k hk;obtain⟨r1,rc,r2,r3⟩:=p3 (fun _ _ e=>by cases e);have E:∀x y,ρ x=some y→bF ρ j (some v) x=some y:=fun x y e=>by rw[aQ _ _ (fun e'=>by subst e';rw[V]at e;cases e)];exact e
 refine⟨v,cells,u,X,h3,J,p2,?_⟩;have key:=m.qU (h':=bF (bF h i (some (.mat I D A z (some (k,j))))) j (some (.arr D A z[k]))) (φ':=bF (bF φ i (fun b=>φ i b∧dx v≠some b)) j (fun b=>dx v=some b)) E (fun x=>x=i∨x=j)
  (fun x C=>⟨by rw[aQ _ _ (fun e=>C (.inr e)),aQ _ _ (fun e=>C (.inl e))],by rw[aQ _ _ (fun e=>C (.inr e)),aQ _ _ (fun e=>C (.inl e))]⟩) (fun x o C L=>?_) (fun x y o o' b C hy q1 q2 q3 q4 M N=>?_)
 ·exact⟨key.1,key.2,E⟩
 ·rcases C with rfl | rfl
  ·rw[aQ _ _ B,aB]at L;cases L;rw[show bF (bF φ x (fun b=>φ x b∧dx v≠some b)) j (fun b=>dx v=some b) x=fun b=>φ x b∧dx v≠some b by rw[aQ _ _ B,aB]];refine⟨⟨u,E _ _ X,fun F' Y=>⟨fun b hb=>⟨hs b hb,fun e=>(r1 b e).2 hb⟩,h0,fun _ _ e=>(by cases e;exact hk),cells,h3,fun r hr=>?_,fun r r' O Z b a3 s1 s2=>?_⟩⟩,fun _ b hb=>⟨x,_,.inl rfl,hi,rfl,hb.1⟩⟩
   ·obtain⟨O,t1,t2,t3,_⟩:=h4 r hr;refine⟨O,t1,t2,fun a4=>?_,fun id e=>?_⟩
    ·have a5:r≠k:=a4 k j rfl;obtain⟨a1,a2⟩:=t3 (fun _ _ e=>by cases e);refine zG.mono Y (fun _ h=>h) (fun _ _=>rfl) (w:=w) (S:=fun b=>φ x b∧dx v≠some b) ⟨fun b hb=>⟨⟨(a1 b hb).1,?_⟩,(a1 b hb).2⟩,a2⟩;exact h5 r k O v b a5 (fun _ _ e=>by cases e) (fun _ _ e=>by cases e) t1 J hb
    ·cases e;rw[t1]at J;cases J;exact aB _ _ _
   ·exact h5 r r' O Z b a3 (fun _ _ e=>by cases e) (fun _ _ e=>by cases e)
  ·rw[aB]at L;cases L;rw[show bF (bF φ i (fun b=>φ i b∧dx v≠some b)) x (fun b=>dx v=some b) x=fun b=>dx v=some b from aB _ _ _];exact⟨⟨v,aB _ _ _,fun F' Y=>⟨fun b hb=>hb,h0,rc,r2,fun q hq=>ah.mono (Y _) (fun _ _ h=>h) (r3 q hq)⟩⟩,fun _ b hb=>⟨i,_,.inl rfl,hi,rfl,(r1 b hb).1⟩⟩
 ·rcases C with rfl | rfl <;> rcases hy with rfl | rfl
  ·rfl
  ·rw[aQ _ _ B,aB]at M;rw[aB]at N;exact absurd N M.2
  ·rw[aQ _ _ B,aB]at N;rw[aB]at M;exact absurd M N.2
  ·rfl
/-! ### Rows of a6 -/
theorem fF{v:Value}(h:v.oneCell'=true):v.cells = #[v]:=by
 cases v <;> first | rfl | simp[Value.oneCell']at h
def wH(e:TypeId):Bool→Nd→Obj
 | false,x=> .mpq x.1 x.2.1
 | true,x=> .arr e (.int .u8) x.2.2
def Db(p:TypeId)(f:Bool)(o:Obj)(x:Nd):Option Nd :=
 match f,o with
 | false,.mpq b j=>some (b,j,x.2.2)
 | false,.mpo (.int .i32) (.int .i64) j=>some (true,j,x.2.2)
 | true,.arr e (.int .u8) q=>if e=p then some (x.1,x.2.1,q)else none
 | _,_=>none
theorem HV{G:Addr→Value→Prop}{e:QK}{cells:QY}(hl:cells.length=e.length*1)(h:∀i (h:i<e.length),ah G (.int .u8) e[i] (fun k v=>cells[i*1+k]? = some v)):cells=e.map (Value.int .u8):=by
 refine List.ext_getElem? fun i=>?_
 rcases Nat.lt_or_ge i e.length with hi | hi
 ·have:=h i hi;simp only[ah,Nat.mul_one,Nat.add_zero]at this;rw[this,List.getElem?_map,List.getElem?_eq_getElem hi];rfl
 ·rw[List.getElem?_eq_none (by omega),List.getElem?_eq_none (by rw[List.length_map];exact hi)]
theorem Di{G:Addr→Value→Prop}{xs:QK}:∀i (h:i<xs.length),ah G (.int .u8) xs[i] (fun k v=>(xs.map (Value.int .u8))[i*1+k]? = some v):=fun i hi=>by
 simp only[ah,Nat.mul_one,Nat.add_zero];rw[List.getElem?_map,List.getElem?_eq_getElem hi];rfl
theorem EP{F:Bool→Addr→Value→Prop}{S:Nat→Prop}{w:World}{e:TypeId}{v:Value}{f:Bool}{x:Nd}(h:ze S w e v f x)(j:Bu f v):OR F ρ (fun b=>dx v=some b) w (wH e f x) v:=by
 cases f with
 | false=>exact⟨fun _ h=>h,j,h.2⟩
 | true=>exact⟨fun _ h=>h,by decide,_,h.2,Di⟩
theorem Bm{F:Bool→Addr→Value→Prop}{S:Nat→Prop}{j:Qq}{v:Value}(h:OR F ρ S w (.mpo (.int .i32) (.int .i64) j) v):(∀k,dx v=some k→S k)∧Cs w true j v:=by
 obtain⟨r,q,clock,rfl,x,z,⟨I,A⟩,u,B,C⟩:=h;refine⟨fun k e=>by cases e;exact x,r,q,clock,rfl,z,A,u,List.ext_getElem? fun i=>?_,B⟩;have hl:q.size=j.length:=by have:=congrArg List.length u;simpa using this
 rcases Nat.lt_or_ge i j.length with hi | hi
 ·obtain⟨e,D,p,J,E,_⟩:=C i hi;simp only[ah]at p;have f:=E rfl;have hc:=fF f;rw[hc]at p;simp at p;rw[List.getElem?_map,List.getElem?_map,List.getElem?_eq_getElem hi,Array.getElem?_toList,D];simp only[Option.map_some,p]
 ·rw[List.getElem?_eq_none (by simp;omega),List.getElem?_eq_none (by simpa using hi)]
theorem Hk{F:Bool→Addr→Value→Prop}{S:Nat→Prop}{w:World}{p:TypeId}{v:Value}{f:Bool}{o:Obj}{x y:Nd}(h:Db p f o x=some y)(q:OR F ρ S w o v):
  ze S w p v f y∧o.live=true∧∀g,g≠f→∀S w v,ze S w p v g x→ze S w p v g y:=by
 unfold Db at h;split at h
 ·cases h;refine⟨⟨q.1,q.2.2⟩,rfl,fun g j=>?_⟩;cases g
  ·exact absurd rfl j
  ·exact fun _ _ _ h=>h
 ·cases h;refine⟨Bm q,rfl,fun g j=>?_⟩;cases g
  ·exact absurd rfl j
  ·exact fun _ _ _ h=>h
 ·split at h
  ·rename_i e;subst e;cases h;obtain⟨z,_,cells,u,A⟩:=q;refine⟨⟨z,?_⟩,rfl,fun g j=>?_⟩
   ·rw[←HV u.1 A];exact u
   ·cases g
    ·exact fun _ _ _ h=>h
    ·exact absurd rfl j
  ·cases h
 ·cases h
theorem Mem.HI(m:Mem Bw w0 ρ φ h w){i j k:Nat}{f:Bool}{te E:TypeId}{J:List Nd}{o:Obj}{y:Nd}(hi:h i=some (.nds te E J (some (k,f,j))))(hj:h j=some o)(L:i≠j)(hy:Db E f o (J.getD k Nd.z)=some y):
  Mem Bw w0 ρ (bF φ i (fun b=>φ i b∨φ j b)) (bF (bF h j none) i (some (.nds te E (J.set k y) none))) w ∧
  (∀β a v,Fr (own φ h) Bw w β a v→Fr (own (bF φ i (fun b=>φ i b∨φ j b)) (bF (bF h j none) i (some (.nds te E (J.set k y) none)))) Bw w β a v):=by
 obtain⟨vj,g1,gj⟩:=m.ob j _ hj;obtain⟨p1,Z,p2⟩:=Hk hy gj;have M:∀b,φ i b→φ j b→False:=fun b V h2=>L (m.dj i j _ _ b hi rfl hj Z V h2)
 refine m.qU (fun _ _ h=>h) (fun x=>x=i∨x=j) (fun x N=>⟨?_,?_⟩) (fun x o' N ho=>?_) (fun x y' o' a6 b N hy V h2 h3 h4 h5 h6=>?_)
 ·rw[aQ _ _ (fun e=>N (.inl e)),aQ _ _ (fun e=>N (.inr e))]
 ·rw[aQ _ _ (fun e=>N (.inl e))]
 ·rcases N with rfl | rfl
  ·rw[aB]at ho;cases ho;rw[aB];obtain⟨u,V,hs,hk,cells,h3,h4,h5⟩:=m.ob x _ hi;have a1:=hk k f j rfl;have hout:∀r g,¬(r=k∧g=f)→mL (some (k,f,j)) r g:=fun r g C k' O a7 e=>by cases e;exact C
   have B:∀v,cells[k*2+f.toNat]? = some v→v=vj:=fun v hv=>by obtain⟨v2,D,_,_,c4⟩:=h4 k f a1;have:=c4 j rfl;rw[g1]at this;cases this;rw[D]at hv;exact(Option.some.inj hv).symm
   refine⟨⟨u,V,fun F' hF=>⟨fun b hb=> .inl (hs b hb),fun _ _ _ e=>(by cases e),cells,by rw[List.length_set];exact h3,fun r g X=>?_,fun r g Y O vr a2 b C _ _ e1 E b1 b2=>?_⟩⟩,fun _ b hb=>?_⟩
   ·rw[List.length_set]at X;obtain⟨vr,D,I,c3,c4⟩:=h4 r g X;refine⟨vr,D,I,fun _=>?_,fun id e=>by cases e⟩;by_cases e:r=k∧g=f
    ·obtain⟨rfl,rfl⟩:=e;cases B vr D;simp only[List.getElem_set_self];exact⟨p1.mono (fun _ _ h=> .inr h) (fun _ _=>rfl),fun b hb a3=>M b (hs b a3) (by cases g <;> exact p1.1 b hb)⟩
    ·obtain⟨d1,d2⟩:=c3 (hout r g e);have d3:=d1.mono (S':=fun b=>φ x b∨φ j b) (fun _ _ h=> .inl h) (fun _ _=>rfl) (w':=w);refine⟨?_,d2⟩;by_cases er:r=k
     ·subst er;simp only[List.getElem_set_self];have hg:g≠f:=fun e'=>e ⟨rfl,e'⟩
      refine p2 g hg _ _ _ ?_;rw[show J.getD r Nd.z=J[r] by simp[a1]];exact d3
     ·rw[List.getElem_set_ne (Ne.symm er)];exact d3
   ·-- two parts
    have a5:=h3.1;have X:r<J.length:=by have:=(List.getElem?_eq_some_iff.1 e1).1;cases g <;> simp at this <;> omega
    have a4:Y<J.length:=by have:=(List.getElem?_eq_some_iff.1 E).1;cases O <;> simp at this <;> omega
    have hin:∀r g v b,r<J.length→¬(r=k∧g=f)→cells[r*2+g.toNat]? = some v→dx v=some b→φ x b:=fun r g v b X C hv hb=>by obtain⟨v2,D,_,c3,_⟩:=h4 r g X;rw[D]at hv;cases hv;have:=(c3 (hout r g C)).1;cases g <;> exact this.1 b hb
    by_cases D:r=k∧g=f
    ·have I:¬(Y=k∧O=f):=fun I=>C ⟨D.1.trans I.1.symm,D.2.trans I.2.symm⟩
     rw[D.1,D.2]at e1;cases B _ e1;exact M b (hin Y O a2 b a4 I E b2) (by cases f <;> exact p1.1 b b1)
    ·by_cases I:Y=k∧O=f
     ·rw[I.1,I.2]at E;cases B _ E;exact M b (hin r g vr b X D e1 b1) (by cases f <;> exact p1.1 b b2)
     ·exact h5 r g Y O vr a2 b C (hout r g D) (hout Y O I) e1 E b1 b2
   ·rcases hb with hb | hb
    ·exact⟨x,_,.inl rfl,hi,rfl,hb⟩
    ·exact⟨j,_,.inr rfl,hj,Z,hb⟩
  ·rw[aQ _ _ (Ne.symm L),aB]at ho;cases ho
 ·rcases N with rfl | rfl <;> rcases hy with rfl | rfl
  ·rfl
  ·rw[aQ _ _ (Ne.symm L),aB]at h3;cases h3
  ·rw[aQ _ _ (Ne.symm L),aB]at V;cases V
  ·rfl
theorem Mem.JY(m:Mem Bw w0 ρ φ h w){i j k:Nat}(f:Bool){L I:TypeId}{C:List Nd}(hi:h i=some (.nds L I C none))(X:ρ j=none)(hk:k<C.length):
  ∃v,Bu f v∧Mem Bw w0 (bF ρ j (some v)) (bF (bF φ i (fun b=>φ i b∧dx v≠some b)) j (fun b=>dx v=some b)) (bF (bF h i (some (.nds L I C (some (k,f,j))))) j (some (wH I f (C.getD k Nd.z)))) w ∧
  (∀β a v',Fr (own φ h) Bw w β a v'→Fr (own (bF (bF φ i (fun b=>φ i b∧dx v≠some b)) j (fun b=>dx v=some b)) (bF (bF h i (some (.nds L I C (some (k,f,j))))) j (some (wH I f (C.getD k Nd.z))))) Bw w β a v') ∧
  (∀i u,ρ i=some u→bF ρ j (some v) i=some u):=by
 obtain⟨u,h1,hs,_,cells,h3,h4,h5⟩:=m.ob i _ hi;have D:i≠j:=fun e=>by subst e;rw[h1]at X;cases X
 obtain⟨v,Y,p2,p3,_⟩:=h4 k f hk;have B:∀r g,mL none r g:=fun _ _ _ _ _ e=>by cases e
 obtain⟨r1,r2⟩:=p3 (B _ _);have hin:∀b,dx v=some b→φ i b:=by cases f <;> exact r1.1
 have J:∀x y,ρ x=some y→bF ρ j (some v) x=some y:=fun x y e=>by rw[aQ _ _ (fun e'=>by subst e';rw[X]at e;cases e)];exact e
 rw[show C.getD k Nd.z=C[k] by simp[hk]];refine⟨v,p2,?_⟩;have key:=m.qU (h':=bF (bF h i (some (.nds L I C (some (k,f,j))))) j (some (wH I f C[k]))) (φ':=bF (bF φ i (fun b=>φ i b∧dx v≠some b)) j (fun b=>dx v=some b)) J (fun x=>x=i∨x=j)
  (fun x E=>⟨by rw[aQ _ _ (fun e=>E (.inr e)),aQ _ _ (fun e=>E (.inl e))],by rw[aQ _ _ (fun e=>E (.inr e)),aQ _ _ (fun e=>E (.inl e))]⟩) (fun x o E M=>?_) (fun x y o o' b E hy q1 q2 q3 q4 N O=>?_)
 ·exact⟨key.1,key.2,J⟩
 ·rcases E with rfl | rfl
  ·rw[aQ _ _ D,aB]at M;cases M;rw[show bF (bF φ x (fun b=>φ x b∧dx v≠some b)) j (fun b=>dx v=some b) x=fun b=>φ x b∧dx v≠some b by rw[aQ _ _ D,aB]];refine⟨⟨u,J _ _ h1,fun F' hF=>⟨fun b hb=>⟨hs b hb,fun e=>r2 b e hb⟩,fun _ _ _ e=>(by cases e;exact hk),cells,h3,fun r g hr=>?_,fun r g r' g' V Z b a3 s1 s2=>?_⟩⟩,fun _ b hb=>⟨x,_,.inl rfl,hi,rfl,hb.1⟩⟩
   ·obtain⟨V,t1,t2,t3,_⟩:=h4 r g hr;refine⟨V,t1,t2,fun a4=>?_,fun id e=>?_⟩
    ·have a5:¬(r=k∧g=f):=a4 k f j rfl;obtain⟨a1,a2⟩:=t3 (B _ _);exact⟨a1.mono (fun b hb a6=>⟨a6,fun e=>h5 r g k f V v b a5 (B _ _) (B _ _) t1 Y hb e⟩) (fun _ _=>rfl),a2⟩
    ·cases e;rw[t1]at Y;cases Y;exact aB _ _ _
   ·exact h5 r g r' g' V Z b a3 (B _ _) (B _ _)
  ·rw[aB]at M;cases M;rw[show bF (bF φ i (fun b=>φ i b∧dx v≠some b)) x (fun b=>dx v=some b) x=fun b=>dx v=some b from aB _ _ _];exact⟨⟨v,aB _ _ _,fun F' hF=>EP r1 p2⟩,fun _ b hb=>⟨i,_,.inl rfl,hi,rfl,hin b hb⟩⟩
 ·rcases E with rfl | rfl <;> rcases hy with rfl | rfl
  ·rfl
  ·rw[aQ _ _ D,aB]at N;rw[aB]at O;exact absurd O N.2
  ·rw[aQ _ _ D,aB]at O;rw[aB]at N;exact absurd N O.2
  ·rfl
theorem Mem.ER(m:Mem Bw w0 ρ φ h w){i:Nat}{te X:TypeId}{B:List Nd}(hi:h i=some (.nds te X B none)):
  Mem Bw w0 ρ φ (bF h i (some (.fz EE (B.map (·.2))))) w∧(∀β a v,Fr (own φ h) Bw w β a v→Fr (own φ (bF h i (some (.fz EE (B.map (·.2)))))) Bw w β a v):=by
 have I:∀id o,id≠i→bF h i (some (.fz EE (B.map (·.2)))) id=some o→h id=some o:=fun id o e D=>by rwa [aQ _ _ e]at D
 have E:∀id o,bF h i (some (.fz EE (B.map (·.2)))) id=some o→o.live=true→id≠i:=fun id o z C e=>by subst e;rw[aB]at z;cases z;simp[Obj.live]at C
 have J:∀k,own φ (bF h i (some (.fz EE (B.map (·.2))))) k→own φ h k:=by rintro k ⟨id,o,z,C,L⟩;exact⟨id,o,I _ _ (E _ _ z C) z,C,L⟩
 have hF:∀β a v,Fr (own φ h) Bw w β a v→Fr (own φ (bF h i (some (.fz EE (B.map (·.2)))))) Bw w β a v :=
  fun β a v h=>⟨fun I=>h.1 (J _ I),h.2⟩
 have M:∀(a:Addr) v,φ i a.block→w.pZ a=some v→Fr (own φ (bF h i (some (.fz EE (B.map (·.2)))))) Bw w false a v:=fun a v hb hc =>
  ⟨fun a6=>by
   obtain⟨N,o',q1,q2,q4⟩:=a6;have Y:=E _ _ q1 q2;exact Y (m.dj N i o' _ a.block (I _ _ Y q1) q2 hi rfl q4 hb),fun _ a7=>m.ow a.block ⟨i,_,hi,rfl,hb⟩ (m.bw _ a7),hc⟩
 refine⟨⟨fun id o D=>?_,fun id o k z C O=>m.lt id o k (I _ _ (E _ _ z C) z) C O,fun id N o o' k z C O L h5 h6 =>
  m.dj id N o o' k (I _ _ (E _ _ z C) z) C (I _ _ (E _ _ O L) O) L h5 h6,m.bw,fun k hk=>m.ow k (J k hk),m.kp,m.pc⟩,hF⟩
 by_cases e:id=i
 ·subst e;rw[aB]at D;cases D;obtain⟨u,z,hs,_,cells,O,L,_⟩:=m.ob id _ hi;refine⟨u,z,?_⟩;refine lD (ρ':=ρ) (F:=Fr (own φ (bF h id (some (.fz EE (B.map (·.2)))))) Bw w) (A:=EE) (e:=te) (cells:=cells) (by rw[List.length_map];exact O) (fun j hj=>?_) false (fun _ _ h=>h) (fun a v hb hc=>M a v (hs _ hb) (World.fx hc));rw[List.length_map]at hj;obtain⟨v0,a1,⟨r0,a2⟩,a3,_⟩:=L j false hj;obtain⟨v1,b1,b2,b3,_⟩:=L j true hj;obtain⟨⟨a4,Z⟩,_⟩:=a3 (fun _ _ _ e=>by cases e);obtain⟨⟨b4,b5⟩,_⟩:=b3 (fun _ _ _ e=>by cases e);rw[List.getElem_map];refine⟨?_,?_⟩
  ·subst a2;refine⟨r0,a1,?_⟩;cases hb:B[j].1 with
   | false =>
    rw[hb]at Z;obtain⟨e1,X⟩:=Z;cases e1;exact X
   | true =>
    rw[hb]at Z;obtain⟨r,es,clock,e1,X,e3,e4,e5,e6⟩:=Z;cases e1;refine⟨M ⟨r,0,some 0⟩ _ (a4 r rfl) ?_,e6⟩;unfold World.pZ I8;simp only[X];congr 2;refine Array.ext' (List.ext_getElem? fun q=>?_);have g1:=congrArg (fun l=>l[q]?) e4;have g2:=congrArg (fun l=>l[q]?) e5;simp only[List.getElem?_map]at g1 g2;simp only[Array.toList_map,List.getElem?_map];cases c1:es.toList[q]? <;> cases c2:B[j].2.1[q]? <;> rw[c1,c2]at g1 g2 <;> simp at g1 g2 ⊢
    exact⟨g1,g2⟩
  ·have:=lD (A:= .int .u8) (xs:=B[j].2.2) (F:=Fr (own φ (bF h id (some (.fz EE (B.map (·.2)))))) Bw w) (F':=Fr (own φ (bF h id (some (.fz EE (B.map (·.2)))))) Bw w) (ρ':=ρ) b5 Di false (fun a v h=>h) (fun a v hb hc=>M a v (b4 _ hb) (World.fx hc));simp only[V]at this;refine tx (A:= .int .u8) this.2 ?_;exact b1
 ·obtain⟨u,z,C⟩:=m.ob id o (I _ _ e D);exact⟨u,z,OR.mono hF (fun _ _ h=>h) (fun _ h=>h) (fun _ _ _=>rfl) C⟩
theorem Mem.as(m:Mem Bw w0 ρ φ h w){i:Nat}{o j:Obj}(hi:h i=some o)(hl:o.live=true)(_:j.live=true)(hc:∀F ρ S w u,OR F ρ S w o u→OR F ρ S w j u):
  Mem Bw w0 ρ φ (bF h i (some j)) w∧(∀β a v,Fr (own φ h) Bw w β a v→Fr (own φ (bF h i (some j))) Bw w β a v):=by
 refine m.qU (fun _ _ h=>h) (fun x=>x=i) (fun x z=>⟨aQ _ _ z,rfl⟩) (fun x o2 z B=>?_) (fun x y j C b z D _ _ _ _ _ _=>z.trans D.symm);subst z;rw[aB]at B;cases B;obtain⟨u,E,I⟩:=m.ob x _ hi;exact⟨⟨u,E,fun F' J=>hc _ _ _ _ _ (OR.mono J (fun _ _ h=>h) (fun _ h=>h) (fun _ _ _=>rfl) I)⟩,fun _ k hk=>⟨x,o,rfl,hi,hl,hk⟩⟩
theorem Mem.less(m:Mem Bw w0 ρ φ h w){h':Nat→Qz}(z:∀i o,h' i=some o→h i=some o):
  Mem Bw w0 ρ φ h' w∧(∀β a v,Fr (own φ h) Bw w β a v→Fr (own φ h') Bw w β a v):=by
 have j:∀k,own φ h' k→own φ h k:=fun k ⟨id,o,B,C,D⟩=>⟨id,o,z _ _ B,C,D⟩
 have L:∀β a v,Fr (own φ h) Bw w β a v→Fr (own φ h') Bw w β a v:=fun β a v h=>⟨fun x=>h.1 (j _ x),h.2⟩
 refine⟨⟨fun id o E=>?_,fun id o k B C I=>m.lt id o k (z _ _ B) C I,fun id J o M k B C I D N O=>m.dj id J o M k (z _ _ B) C (z _ _ I) D N O,m.bw,fun k hk=>m.ow k (j k hk),m.kp,m.pc⟩,L⟩;obtain⟨u,V,X⟩:=m.ob id o (z _ _ E);exact⟨u,V,OR.mono L (fun _ _ h=>h) (fun _ h=>h) (fun _ _ _=>rfl) X⟩
theorem eT.mono{F F':Bool→Addr→Value→Prop}{ρ ρ':Nat→QW}{s:Nat→ag}(z:∀β a v,F β a v→F' β a v)(j:∀i u,ρ i=some u→ρ' i=some u)
  (h:eT n F ρ s a):eT n F' ρ' s a:=⟨h.tm,h.df,fun t=>V.mono z j (h.sl t)⟩
theorem eT.put{F:Bool→Addr→Value→Prop}{ρ:Nat→QW}{s:Nat→ag}(h:eT n F ρ s a){x:ag}{v:Value}(f:V F ρ x v){d:Nat}(hd:d<n.sz):
  eT n F ρ (bF s d x) (a.put (some d) v):=by
 refine⟨by simp[Act.put,h.tm],h.df,fun t=>?_⟩;have j:=h.tm;by_cases e:t=d
 ·subst e;rw[aB];have:(a.put (some t) v).tmps.getD t undef=v:=by simp[Act.put,Array.getD,j,hd]
  rw[this];exact f
 ·rw[aQ _ _ e];have:(a.put (some d) v).tmps.getD t undef=a.tmps.getD t undef:=by simp only[Act.put,Array.getD_eq_getD_getElem?];rw[Array.getElem?_setIfInBounds_ne (Ne.symm e)]
  rw[this];exact h.sl t
theorem Mem.drew(m:Mem Bw w0 ρ φ h w):Mem Bw w0 ρ φ h w.drew∧(∀β a v,Fr (own φ h) Bw w β a v→Fr (own φ h) Bw w.drew β a v) :=
 ⟨⟨fun id o j=>let ⟨u,z,B⟩:=m.ob id o j;⟨u,z,OR.mono (fun _ _ _ h=>h) (fun _ _ h=>h) (fun _ h=>h) (fun _ _ _=>rfl) B⟩,m.lt,m.dj,m.bw,m.ow,m.kp.drew,m.pc⟩,fun _ _ _ h=>h⟩
end
end Go.Tv
