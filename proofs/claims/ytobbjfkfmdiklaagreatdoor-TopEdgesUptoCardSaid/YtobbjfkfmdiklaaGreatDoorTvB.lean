import Derived.Test.YtobbjfkfmdiklaaGreatDoorTvFam
namespace Go
def World.qJ(w:World)(a:Addr):QW :=
 match a.spot with
 | none=>w.cell? a
 | some _=>match w.heap[a.block]? with
  | some (.map j _)=>some (.tuple (j.map fun e=>Value.tuple #[e.key,e.val]))
  | _=>none
theorem World.fB{w:World}{a:Addr}{v:Value}(h:w.cell? a=some v):w.qJ a=some v:=by
 unfold World.qJ;split
 ·exact h
 ·rename_i s j;unfold World.cell? at h;split at h
  ·rw[j]at h;cases h
  ·cases h
theorem World.jH{w:World}{a:Addr}{v:Value}(h:w.qJ a=some v)(h1:v.oneCell'=true):w.cell? a=some v:=by
 unfold World.qJ at h;split at h
 ·exact h
 ·split at h
  ·cases h;cases h1
  ·cases h
theorem World.xC{w w':World}{a:Addr}(h:w'.heap[a.block]? = w.heap[a.block]?):w'.qJ a=w.qJ a:=by
 unfold World.qJ;split
 ·exact World.cell?_of_block h
 ·rw[h]
theorem World.JF{w:World}{a:Addr}{v:Value}(h:w.qJ a=some v):a.block<w.heap.size:=by
 unfold World.qJ at h;split at h
 ·exact World.block_lt_of_cell? w a h
 ·rcases Nat.lt_or_ge a.block w.heap.size with q | q
  ·exact q
  ·rw[Array.getElem?_eq_none q]at h;cases h
end Go
namespace Go.Tv
open Go Go.RowKit
abbrev Nd:=Bool×Qq×QK
def Nd.z:Nd:=(false,[],[])
abbrev jq(j:List Nd)(i:Nat):List Nd:=j.set i ((j.getD i Nd.z).1,(j.getD i Nd.z).2.1,(j.getD i Nd.z).2.2)
abbrev Fz:Ty:= .prod (.mapi .i32 .i64) (.slice (.int .u8))
inductive Obj where
 | arr (e:TypeId) (A:Ty) (xs:List A.den)
 | fz (A:Ty) (xs:List A.den)
 | box (cs:List ag)
 | mpo (K A:Ty) (kv:List (K.den×A.den))
 | mpl (K:Ty) (kv:List (K.den×Value))
 | mat (e e2:TypeId) (A:Ty) (xss:List (List A.den)) (ho:Option (Nat×Nat))
 | bytes (e:TypeId) (xs:QK)
 | cutz (A:Ty) (xs:List A.den)
 | lmp (k:IntKind) (n:Nat) (xs:fh n) (cs:List ag)
 | vrow (n sz:Nat) (cs:List ag)
 | nds (e e2:TypeId) (ns:List Nd) (ho:Option (Nat×Bool×Nat))
 | mpq (b:Bool) (kv:Qq)
abbrev Qw:=List (Nat×Obj)
abbrev Qv:=Qw
abbrev Qz:=Option Obj
def Obj.live:Obj→Bool
 | .fz _ _=>false
 | .cutz _ _=>false
 | _=>true
structure St where
 s:Nat→ag
 h:Nat→Qz
 nx:Nat
 pn:Nat
def bF{α:Type}(f:Nat→α)(i:Nat)(x:α):Nat→α:=fun k=>if k=i then x else f k
theorem aB{α:Type}(f:Nat→α)(i:Nat)(x:α):bF f i x i=x:=by simp[bF]
theorem aR{α:Type}(f:Nat→α){i k:Nat}(x:α)(h:k≠i):bF f i x k=f k:=by simp[bF,h]
def dw:Value→QJ
 | .slice (some a) _ _=>some a.block
 | .pointer (some a)=>some a.block
 | .map r=>r
 | _=>none
def own(φ:Nat→Nat→Prop)(h:Nat→Qz)(k:Nat):Prop :=
 ∃id ob,h id=some ob∧ob.live=true∧φ id k
def Kg:QK:=[0,1,28,2,29,14,24,3,30,22,20,15,25,17,4,8,31,27,13,23,21,19,16,7,26,12,18,6,11,5,10,9]
def tM(P:Program)(w:World):Prop:=∀g,P.globalNamed "math/bits.deBruijn32tab" = some g→∀i,i<32→w.cell? ⟨g,i,none⟩=some (.int .u8 (Kg.getD i 0))
structure cC(P:Program) where
 w:World
 kp:Nat→Prop
 lt:∀k,kp k→k<w.heap.size
 pc:Nat→QW
 ld:tM P w
 lk:∀g,P.globalNamed "math/bits.deBruijn32tab" = some g→kp g
structure Kept{P:Program}(b:cC P)(w:World):Prop where
 os:w.os=b.w.os
 tape:w.tape=b.w.tape
 output:w.output=b.w.output
 size:b.w.heap.size≤w.heap.size
 block:∀k,b.kp k→w.heap[k]? = b.w.heap[k]?
def jn{P:Program}{w:World}(hl:tM P w):cC P:=⟨w,fun k=>k<w.heap.size,fun _ h=>h,fun _=>none,hl,fun g j=>World.block_lt_of_cell? w _ (hl g j 0 (by decide))⟩
section
variable{P:Program}
theorem Kept.refl(b:cC P):Kept b b.w:=⟨rfl,rfl,rfl,Nat.le_refl _,fun _ _=>rfl⟩
theorem Kept.drew{b:cC P}{w:World}(h:Kept b w):Kept b w.drew:=⟨h.os,h.tape,h.output,h.size,h.block⟩
theorem Kept.grown{b:cC P}{w p:World}{row:QJ}(h:Kept b w)(j:w.grownBy p row)(q:∀k,row=some k→¬b.kp k):Kept b p :=
 ⟨j.os.trans h.os,j.tape.trans h.tape,j.output.trans h.output,Nat.le_trans h.size j.size,fun k hk =>
  (j.block k (Nat.lt_of_lt_of_le (b.lt k hk) h.size) (fun e=>q k e.symm hk)).trans (h.block k hk)⟩
theorem Kept.below{w j:World}{hl:tM P w}(h:Kept (jn hl) j):Below w.heap.size w j:=⟨h.os,h.tape,h.output,h.size,h.block⟩
theorem Kept.E2{b:cC P}{w w':World}(h:Kept b w)(k:Below w.heap.size w w'):Kept b w' :=
 ⟨k.os.trans h.os,k.tape.trans h.tape,k.output.trans h.output,Nat.le_trans h.size k.size,fun i hi =>
  (k.block i (Nat.lt_of_lt_of_le (b.lt i hi) h.size)).trans (h.block i hi)⟩
theorem Kept.laid{b:cC P}{w:World}(h:Kept b w):tM P w:=fun g j i hi=>by
 rw[World.cell?_of_block (w:=b.w) (h.block g (b.lk g j))];exact b.ld g j i hi
end
def Fr(ow Bw:Nat→Prop)(w:World)(β:Bool)(a:Addr)(v:Value):Prop:=¬ow a.block∧(β=false→¬Bw a.block)∧w.qJ a=some v
def Ty.isKey:Ty→Bool
 | .int _=>true
 | .bool=>true
 | .str=>true
 | .unit=>true
 | .prod a b=>a.isKey && b.isKey
 | .arr _ _=>true
 | _=>false
def cJ:(K:Ty)→K.den→QY
 | .int k,n=>[.int k n]
 | .bool,b=>[.bool b]
 | .str,s=>[.string ⟨s.toArray⟩]
 | .prod a b,p=>cJ a p.1++cJ b p.2
 | .arr k _,j=>j.1.map (Value.int k)
 | _,_=>[]
def aS:(K:Ty)→K.den→Value
 | .int k,n=> .int k n
 | .bool,b=> .bool b
 | .str,s=> .string ⟨s.toArray⟩
 | K,x=> .agg (cJ K x).toArray
def MV(F:Addr→Value→Prop)(A:Ty)(x:A.den)(v:Value):Prop :=
 ai F A x (fun k u=>v.cells.toList[k]? = some u)∧v.cells.size=A.size∧(A.scalar=true→v.oneCell'=true)∧(A.scalar=false→∃j,v = .agg j)
def BK(F:Bool→Addr→Value→Prop)(S:Nat→Prop)(w:World)(x:TypeId)(A:Ty)(u v:Value)(p:List A.den):Prop :=
 (∀k,dw v=some k→S k∧dw u≠some k)∧∃q,w.ownsRow 0 x A.size v p.length q∧∀j (h:j<p.length),ai (F false) A p[j] (fun k v=>q[j*A.size+k]? = some v)
def BQ(j:Option (Nat×Nat))(i:Nat):Prop:=∀k id,j=some (k,id)→i≠k
def xD(j:Array MapEntry)(clock:Nat):Prop:=(j.toList.map (·.born)).Nodup∧∀e∈j.toList,e.born<clock
def C5(w:World)(b:Bool)(j:Qq)(v:Value):Prop :=
 match b with
 | false=>v = .map none∧j=[]
 | true=>∃r q clock,v = .map (some r)∧w.heap[r]? = some (.map q clock)∧xD q clock∧q.toList.map (·.key)=j.map (fun p=>Value.int .i32 p.1)∧q.toList.map (·.val)=j.map (fun p=>Value.int .i64 p.2)∧(j.map (·.1)).Nodup
def zi(S:Nat→Prop)(w:World)(j:TypeId)(v:Value):Bool→Nd→Prop
 | false,x=>(∀k,dw v=some k→S k)∧C5 w x.1 x.2.1 v
 | true,x=>(∀k,dw v=some k→S k)∧w.ownsRow 0 j 1 v x.2.2.length (x.2.2.map (Value.int .u8))
def BH:Bool→Value→Prop
 | false,v=>∃r,v = .map r
 | true,v=>∃j n c,v = .slice j n c
def m7(j:Option (Nat×Bool×Nat))(i:Nat)(f:Bool):Prop:=∀k g id,j=some (k,g,id)→¬(i=k∧f=g)
def OR(F:Bool→Addr→Value→Prop)(ρ:Nat→QW)(S:Nat→Prop)(w:World):Obj→Value→Prop
 | .arr e A xs,u=>(∀k,dw u=some k→S k)∧0<A.size∧∃cells,w.ownsRow 0 e A.size u xs.length cells ∧
   ∀i (h:i<xs.length),ai (F false) A xs[i] (fun k v=>cells[i*A.size+k]? = some v)
 | .fz A xs,u=>V F ρ (.p false (.slice A) xs) u
 | .box B,u=>∃g t cells,u = .pointer (some ⟨g,0,none⟩)∧S g∧w.heap[g]? = some (.cells cells t (0,0))∧cells.size=B.length ∧
   VL F ρ B (fun k v=>cells[k]? = some v)
 | .mpo K A q,u=>∃r D clock,u = .map (some r)∧S r∧w.heap[r]? = some (.map D clock)∧(K.isKey=true∧xD D clock)∧D.toList.map (·.key)=q.map (fun p=>aS K p.1)∧(q.map (·.1)).Nodup ∧
   ∀i (h:i<q.length),∃e:MapEntry,D[i]? = some e∧MV (F false) A q[i].2 e.val
 | .mpl K q,u=>∃r D clock,u = .map (some r)∧S r∧w.heap[r]? = some (.map D clock)∧K.isKey=true∧D.toList.map (·.key)=q.map (fun p=>aS K p.1)∧(q.map (·.1)).Nodup ∧
   ∀i (h:i<q.length),∃e:MapEntry,D[i]? = some e∧e.val=q[i].2
 | .mat e L A C x,u=>(∀k,dw u=some k→S k)∧0<A.size∧(∀k id,x=some (k,id)→k<C.length)∧∃cells:QY,w.ownsRow 0 e 1 u C.length cells ∧
   (∀i (h:i<C.length),∃v,cells[i]? = some v∧(∃M n c,v = .slice M n c)∧(BQ x i→BK F S w L A u v C[i])∧∀id,x=some (i,id)→ρ id=some v) ∧
   ∀i j E I b,i≠j→BQ x i→BQ x j→cells[i]? = some E→cells[j]? = some I→dw E=some b→dw I≠some b
 | .bytes e xs,u=>(u = .slice none 0 0∧xs=[])∨∃g cap z mk,u = .slice (some ⟨g,0,none⟩) xs.length cap∧S g∧w.heap[g]? = some (.cells z e mk)∧(mk=(0,0)∨mk=(z.size,z.size+1))∧xs.length≤cap∧z.size=cap ∧
   ∀i (h:i<xs.length),z[i]? = some (.int .u8 xs[i])
 | .lmp k n xs B,u=>∃g t cells,u = .pointer (some ⟨g,0,none⟩)∧S g∧w.heap[g]? = some (.cells cells t (0,0))∧cells.size=n+B.length∧(∀i (h:i<xs.1.length),cells[i]? = some (.int k xs.1[i])) ∧
   VL F ρ B (fun j v=>cells[n+j]? = some v)
 | .vrow n sz B,u=>∃g t cells,u = .slice (some ⟨g,0,none⟩) n n∧S g∧w.heap[g]? = some (.cells cells t (0,0))∧cells.size=B.length∧B.length=n*sz∧VL F ρ B (fun k v=>cells[k]? = some v)
 | .cutz A xs,u=>(∃M,u = .slice M xs.length xs.length)∧V F ρ (.p false (.slice A) xs) u
 | .nds e L J x,u=>(∀k,dw u=some k→S k)∧(∀k f id,x=some (k,f,id)→k<J.length)∧∃cells:QY,w.ownsRow 0 e 2 u J.length cells ∧
   (∀i f (h:i<J.length),∃v,cells[i*2+f.toNat]? = some v∧BH f v∧(m7 x i f→zi S w L v f J[i]∧∀k,dw v=some k→dw u≠some k)∧∀id,x=some (i,f,id)→ρ id=some v) ∧
   ∀i f j g E I b,¬(i=j∧f=g)→m7 x i f→m7 x j g→cells[i*2+f.toNat]? = some E→cells[j*2+g.toNat]? = some I→dw E=some b→dw I≠some b
 | .mpq b q,u=>(∀k,dw u=some k→S k)∧(∃r,u = .map r)∧C5 w b q u
theorem fL{w w':World}{e:TypeId}{sz n:Nat}{u:Value}{cells:QY}(hb:∀k,dw u=some k→w'.heap[k]? = w.heap[k]?)(h:w.ownsRow 0 e sz u n cells):w'.ownsRow 0 e sz u n cells:=by
 obtain⟨h1,h2⟩:=h;refine⟨h1,?_⟩;rcases h2 with h2 | ⟨g,cap,j,rfl,q,x,z⟩
 ·exact .inl h2
 ·exact .inr ⟨g,cap,j,rfl,q,by rw[hb g rfl];exact x,z⟩
theorem BK.mono{F F':Bool→Addr→Value→Prop}{S S':Nat→Prop}{w w':World}{z:TypeId}{A:Ty}{u v:Value}{xs:List A.den}
  (B:∀β a v,F β a v→F' β a v) (D:∀k,S k→S' k) (hb:∀k,S k→w'.heap[k]? = w.heap[k]?) (h:BK F S w z A u v xs):BK F' S' w' z A u v xs:=by
 obtain⟨h1,E,h2,I⟩:=h;exact⟨fun k hk=>⟨D k (h1 k hk).1,(h1 k hk).2⟩,E,fL (fun k hk=>hb k (h1 k hk).1) h2,fun j J=>ai.mono (B _) (fun _ _ h=>h) (I j J)⟩
theorem C5.mono{w w':World}{b:Bool}{j:Qq}{v:Value}(hb:∀k,dw v=some k→w'.heap[k]? = w.heap[k]?)(h:C5 w b j v):C5 w' b j v:=by
 cases b with
 | false=>exact h
 | true =>
  obtain⟨r,z,clock,rfl,h1,h2⟩:=h;exact⟨r,z,clock,rfl,by rw[hb r rfl];exact h1,h2⟩
theorem zi.mono{S S':Nat→Prop}{w w':World}{j:TypeId}{v:Value}{f:Bool}{x:Nd}(z:∀k,dw v=some k→S k→S' k)(hb:∀k,S k→w'.heap[k]? = w.heap[k]?)(h:zi S w j v f x):zi S' w' j v f x:=by
 cases f with
 | false=>exact⟨fun k hk=>z k hk (h.1 k hk),h.2.mono fun k hk=>hb k (h.1 k hk)⟩
 | true=>exact⟨fun k hk=>z k hk (h.1 k hk),fL (fun k hk=>hb k (h.1 k hk)) h.2⟩
structure Mem{P:Program}(Bw:Nat→Prop)(w0:cC P)(ρ:Nat→QW)(φ:Nat→Nat→Prop)(h:Nat→Qz)(w:World):Prop where
 ob:∀id o,h id=some o→∃u,ρ id=some u∧OR (Fr (own φ h) Bw w) ρ (φ id) w o u
 lt:∀id o k,h id=some o→o.live=true→φ id k→k<w.heap.size
 dj:∀id id' o o' k,h id=some o→o.live=true→h id'=some o'→o'.live=true→φ id k→φ id' k→id=id'
 bw:∀k,Bw k→w0.kp k
 ow:∀k,own φ h k→¬w0.kp k
 kp:Kept w0 w
 pc:∀i u,w0.pc i=some u→ρ i=some u
structure NS where
 sz:Nat
 D:List Deferred
instance:Coe Nat NS:=⟨fun n=>⟨n,[]⟩⟩
structure fb(n:NS)(F:Bool→Addr→Value→Prop)(ρ:Nat→QW)(s:Nat→ag)(a:Act):Prop where
 tm:a.tmps.size=n.sz
 df:a.defers=n.D
 sl:∀t,V F ρ (s t) (a.tmps.getD t undef)
structure Rel{P:Program}(n:NS)(Bw:Nat→Prop)(w0:cC P)(ρ:Nat→QW)(φ:Nat→Nat→Prop)(σ:St)(a:Act)(w:World):Prop where
 mem:Mem Bw w0 ρ φ σ.h w
 NU:fb n (Fr (own φ σ.h) Bw w) ρ σ.s a
 nx:∀id u,ρ id=some u→id<σ.nx
theorem OR.mono{F F':Bool→Addr→Value→Prop}{ρ ρ':Nat→QW}{S S':Nat→Prop}{w w':World}{o:Obj}{u:Value}
  (I:∀β a v,F β a v→F' β a v) (z:∀i u,ρ i=some u→ρ' i=some u) (D:∀k,S k→S' k)
  (hb:o.live=true→∀k,S k→w'.heap[k]? = w.heap[k]?) (h:OR F ρ S w o u):OR F' ρ' S' w' o u:=by
 cases o with
 | arr e A xs =>
  obtain⟨j,Y,cells,⟨h1,h2⟩,B⟩:=h;refine⟨fun k hk=>D k (j k hk),Y,cells,⟨h1,?_⟩,fun i hi=>ai.mono (I _) (fun _ _ h=>h) (B i hi)⟩;rcases h2 with h2 | ⟨g,cap,J,rfl,r1,r2,r3⟩
  ·exact .inl h2
  ·exact .inr ⟨g,cap,J,rfl,r1,by rw[hb rfl g (j g rfl)];exact r2,r3⟩
 | fz A xs=>exact V.mono I z h
 | box cs =>
  obtain⟨g,t,cells,rfl,j,h1,h2,B⟩:=h;exact⟨g,t,cells,rfl,D _ j,by rw[hb rfl g j];exact h1,h2,VL.mono I z (fun _ _ h=>h) B⟩
 | mpo K A kv =>
  obtain⟨r,Z,clock,rfl,j,h1,h2,B,M,h5⟩:=h;exact⟨r,Z,clock,rfl,D _ j,by rw[hb rfl r j];exact h1,h2,B,M,fun i hi=>let ⟨e,N,O,L⟩:=h5 i hi;⟨e,N,ai.mono (I _) (fun _ _ h=>h) O,L⟩⟩
 | mpl K kv =>
  obtain⟨r,Z,clock,rfl,j,h1,h2⟩:=h;exact⟨r,Z,clock,rfl,D _ j,by rw[hb rfl r j];exact h1,h2⟩
 | mat e e2 A a1 ho =>
  obtain⟨j,Y,hk,cells,h1,h2,B⟩:=h;refine⟨fun k hk=>D k (j k hk),Y,hk,cells,fL (fun k hk=>hb rfl k (j k hk)) h1,fun i hi=>?_,B⟩;obtain⟨v,N,O,L,q4⟩:=h2 i hi;exact⟨v,N,O,fun E=>(L E).mono I D (hb rfl),fun id e=>z _ _ (q4 id e)⟩
 | bytes e xs =>
  rcases h with h | ⟨g,cap,J,mk,rfl,j,h1,h2⟩
  ·exact .inl h
  ·exact .inr ⟨g,cap,J,mk,rfl,D _ j,by rw[hb rfl g j];exact h1,h2⟩
 | cutz A xs=>exact⟨h.1,V.mono I z h.2⟩
 | lmp k n xs cs =>
  obtain⟨g,t,cells,rfl,j,h1,h2,B,M⟩:=h;exact⟨g,t,cells,rfl,D _ j,by rw[hb rfl g j];exact h1,h2,B,VL.mono I z (fun _ _ h=>h) M⟩
 | vrow n sz cs =>
  obtain⟨g,t,cells,rfl,j,h1,h2,B,M⟩:=h;exact⟨g,t,cells,rfl,D _ j,by rw[hb rfl g j];exact h1,h2,B,VL.mono I z (fun _ _ h=>h) M⟩
 | nds e e2 ns ho =>
  obtain⟨j,hk,cells,h1,h2,B⟩:=h;refine⟨fun k hk=>D k (j k hk),hk,cells,fL (fun k hk=>hb rfl k (j k hk)) h1,fun i f hi=>?_,B⟩;obtain⟨v,N,O,L,q4⟩:=h2 i f hi;exact⟨v,N,O,fun E=>⟨(L E).1.mono (fun k _=>D k) (hb rfl),(L E).2⟩,fun id e=>z _ _ (q4 id e)⟩
 | mpq b kv=>exact⟨fun k hk=>D k (h.1 k hk),h.2.1,h.2.2.mono fun k hk=>hb rfl k (h.1 k hk)⟩
section
variable{P:Program}{n:NS}{Bw:Nat→Prop}{w0:cC P}{ρ:Nat→QW}{φ:Nat→Nat→Prop}{h:Nat→Qz}{σ:St}{a:Act}{w:World}
theorem Fr.KR{ow j:Nat→Prop}{w':World}(D:∀k,k<w.heap.size→¬ow k→w'.heap[k]? = w.heap[k]?)
  (E:∀k,j k→ow k∨w.heap.size≤k) (β:Bool) (a:Addr) (v:Value) (h:Fr ow Bw w β a v):Fr j Bw w' β a v:=by
 obtain⟨h1,h2,B⟩:=h;have z:=World.JF B;refine⟨fun I=>?_,h2,by rw[World.xC (w:=w) (D _ z h1)];exact B⟩;rcases E _ I with h' | h'
 ·exact h1 h'
 ·omega
theorem Mem.wS(m:Mem Bw w0 ρ φ h w){k:Nat}(hk:own φ h k):k<w.heap.size:=by
 obtain⟨id,o,h1,h2,j⟩:=hk;exact m.lt id o k h1 h2 j
theorem Mem.put(m:Mem Bw w0 ρ φ h w){w':World}(D:QJ)(j:Nat)(o1:Obj)(u1:Value)(Z:Nat→Prop)(row:QJ)
  (hg:w.grownBy w' row)
  (h0:∀k,row=some k→∃i o,D=some i∧h i=some o∧o.live=true∧φ i k)
  (J:ρ j=none∨(D=some j∧ρ j=some u1))
  (a6:o1.live=true→∀k,Z k→k<w'.heap.size)
  (hb:o1.live=true→∀k,Z k→w.heap.size≤k∨∃i o,D=some i∧h i=some o∧o.live=true∧φ i k)
  (ho:∀F' ρ',(∀β a v,Fr (own φ h) Bw w β a v→F' β a v)→(∀i u,ρ i=some u→ρ' i=some u)→OR F' ρ' Z w' o1 u1) :
  Mem Bw w0 (bF ρ j (some u1)) (bF φ j Z) (bF (fun i=>if D=some i then none else h i) j (some o1)) w' ∧
  (∀β a v,Fr (own φ h) Bw w β a v→Fr (own (bF φ j Z) (bF (fun i=>if D=some i then none else h i) j (some o1))) Bw w' β a v) ∧
  (∀i u,ρ i=some u→bF ρ j (some u1) i=some u):=by
 have L:∀i u,ρ i=some u→bF ρ j (some u1) i=some u:=fun i u hi=>by
  by_cases e:i=j
  ·subst e;rcases J with hf | ⟨_,hf⟩
   ·rw[hf]at hi;cases hi
   ·rw[aB,←hf,hi]
  ·rw[aR _ _ e,hi]
 have a4:∀i,i≠j→bF ρ j (some u1) i=ρ i:=fun i e=>aR _ _ e
 have z:∀i,i≠j→bF φ j Z i=φ i:=fun i e=>aR _ _ e
 have B:∀i o,i≠j→bF (fun i=>if D=some i then none else h i) j (some o1) i=some o→h i=some o∧D≠some i:=fun i o e hi=>by
  rw[aR _ _ e]at hi;by_cases e0:D=some i
  ·simp[e0]at hi
  ·simp[e0]at hi;exact⟨hi,e0⟩
 have a1:∀k,own (bF φ j Z) (bF (fun i=>if D=some i then none else h i) j (some o1)) k→own φ h k∨w.heap.size≤k:=by
  rintro k ⟨id,o,h1,h2,M⟩;by_cases e:id=j
  ·subst e;rw[aB]at h1 M;cases h1;rcases hb h2 k M with N | ⟨i,o,_,C,O,V⟩
   ·exact .inr N
   ·exact .inl ⟨i,o,C,O,V⟩
  ·rw[z _ e]at M;exact .inl ⟨id,o,(B _ _ e h1).1,h2,M⟩
 have a2:∀k,k<w.heap.size→¬own φ h k→w'.heap[k]? = w.heap[k]? :=fun k hk hn =>
  hg.block k hk fun e=>by obtain⟨i,o,_,C,O,V⟩:=h0 k e.symm;exact hn ⟨i,o,C,O,V⟩
 have hF:∀β a v,Fr (own φ h) Bw w β a v→Fr (own (bF φ j Z) (bF (fun i=>if D=some i then none else h i) j (some o1))) Bw w' β a v :=
  fun β a v=>Fr.KR a2 a1 β a v
 have E:∀id o k,id≠j→h id=some o→D≠some id→o.live=true→φ id k→¬(∃i o,D=some i∧h i=some o∧o.live=true∧φ i k):=by rintro id o k e I C O V ⟨i,o',r1,r2,r3,r4⟩;have:=m.dj id i o o' k I O r2 r3 V r4;subst this;exact C r1
 refine⟨⟨fun id o a3=>?_,fun id o k h1 h2 X=>?_,fun id Y o o' k h1 h2 X M N h6=>?_,m.bw,fun k hk a5=>?_,?_,?_⟩,hF,L⟩
 ·by_cases e:id=j
  ·subst e;rw[aB]at a3;cases a3;refine⟨u1,aB _ _ _,?_⟩;rw[aB];exact ho _ _ hF L
  ·obtain⟨I,C⟩:=B _ _ e a3;obtain⟨u,O,V⟩:=m.ob id o I;refine⟨u,by rw[a4 _ e];exact O,?_⟩;rw[z _ e];refine OR.mono hF L (fun _ h=>h) (fun hl k hk=>?_) V;refine hg.block k (m.lt id o k I hl hk) fun er=>?_
   exact E id o k e I C hl hk (h0 k er.symm)
 ·by_cases e:id=j
  ·subst e;rw[aB]at h1 X;cases h1;exact a6 h2 k X
  ·rw[z _ e]at X;exact Nat.lt_of_lt_of_le (m.lt id o k (B _ _ e h1).1 h2 X) hg.size
 ·by_cases e:id=j <;> by_cases e':Y=j
  ·rw[e,e']
  ·subst e;rw[aB]at h1 N;cases h1;rw[z _ e']at h6;obtain⟨I,C⟩:=B _ _ e' X;rcases hb h2 k N with h9 | h9
   ·have:=m.lt Y o' k I M h6;omega
   ·exact absurd h9 (E Y o' k e' I C M h6)
  ·subst e';rw[aB]at X h6;cases X;rw[z _ e]at N;obtain⟨I,C⟩:=B _ _ e h1;rcases hb M k h6 with h9 | h9
   ·have:=m.lt id o k I h2 N;omega
   ·exact absurd h9 (E id o k e I C h2 N)
  ·rw[z _ e]at N;rw[z _ e']at h6;exact m.dj id Y o o' k (B _ _ e h1).1 h2 (B _ _ e' X).1 M N h6
 ·rcases a1 k hk with h1 | h1
  ·exact m.ow k h1 a5
  ·have:=w0.lt k a5;have:=m.kp.size;omega
 ·exact m.kp.grown hg (fun k hk=>by
   obtain⟨i,o,_,C,O,V⟩:=h0 k hk;exact m.ow k ⟨i,o,C,O,V⟩)
 ·exact fun i u hi=>L i u (m.pc i u hi)
theorem lJ{F F':Bool→Addr→Value→Prop}{ρ':Nat→QW}{A:Ty}{xs:List A.den}{u:Value}{w:World}{e:TypeId}{cells:QY}
  (h1:w.ownsRow 0 e A.size u xs.length cells) (h2:∀i (h:i<xs.length),ai (F false) A xs[i] (fun k v=>cells[i*A.size+k]? = some v))
  (β:Bool) (j:∀a v,F false a v→F' β a v) (hc:∀a v,dw u=some a.block→w.cell? a=some v→F' β a v):V F' ρ' (.p β (.slice A) xs) u:=by
 simp only[V,ai];refine⟨rfl,?_⟩;rcases h1.2 with⟨rfl,hn⟩ | ⟨g,cap,q,rfl,x⟩
 ·exact⟨none,0,0,rfl,⟨hn.symm,Nat.le_refl _⟩,fun i hi=>absurd hi (by omega)⟩
 ·refine⟨_,_,_,rfl,⟨rfl,x.2.2.1⟩,fun i hi=>⟨_,rfl,ai.mono j (fun k v hk=>?_) (h2 i hi)⟩⟩;refine hc _ _ (by simp only[dw,Addr.add];split <;> rfl) (h1.cells (g:=g) rfl _ _ hk)
theorem Mem.freeze(m:Mem Bw w0 ρ φ h w){i:Nat}{Z:TypeId}{A:Ty}{xs:List A.den}(hi:h i=some (.arr Z A xs)):
  Mem Bw w0 ρ φ (bF h i (some (.fz A xs))) w∧(∀β a v,Fr (own φ h) Bw w β a v→Fr (own φ (bF h i (some (.fz A xs)))) Bw w β a v):=by
 have B:∀id o,id≠i→bF h i (some (.fz A xs)) id=some o→h id=some o:=fun id o e j=>by rwa [aR _ _ e]at j
 have z:∀id o,bF h i (some (.fz A xs)) id=some o→o.live=true→id≠i:=fun id o h1 h2 e=>by subst e;rw[aB]at h1;cases h1;simp[Obj.live]at h2
 have C:∀k,own φ (bF h i (some (.fz A xs))) k→own φ h k:=by rintro k ⟨id,o,h1,h2,E⟩;exact⟨id,o,B _ _ (z _ _ h1 h2) h1,h2,E⟩
 have L:∀β a v,Fr (own φ h) Bw w β a v→Fr (own φ (bF h i (some (.fz A xs)))) Bw w β a v :=
  fun β a v h=>⟨fun B=>h.1 (C _ B),h.2⟩
 refine⟨⟨fun id o j=>?_,fun id o k h1 h2 I=>m.lt id o k (B _ _ (z _ _ h1 h2) h1) h2 I,fun id D o M k h1 h2 I E h5 h6 =>
  m.dj id D o M k (B _ _ (z _ _ h1 h2) h1) h2 (B _ _ (z _ _ I E) I) E h5 h6,m.bw,fun k hk=>m.ow k (C k hk),m.kp,m.pc⟩,L⟩
 by_cases e:id=i
 ·subst e;rw[aB]at j;cases j;obtain⟨u,h1,h2⟩:=m.ob id _ hi;refine⟨u,h1,?_⟩;obtain⟨V,_,cells,I,E⟩:=h2;refine lJ (ρ':=ρ) I E false (fun a v h=>L _ _ _ h) fun a v hb hc=>⟨fun N=>?_,fun _ O=>?_,World.fB hc⟩
  ·obtain⟨D,M,X,Y,q4⟩:=N;have J:=z _ _ X Y;exact J (m.dj D id M _ a.block (B _ _ J X) Y hi rfl q4 (V _ hb))
  ·exact m.ow a.block ⟨id,_,hi,rfl,V _ hb⟩ (m.bw _ O)
 ·obtain⟨u,h1,h2⟩:=m.ob id o (B _ _ e j);exact⟨u,h1,OR.mono L (fun _ _ h=>h) (fun _ h=>h) (fun _ _ _=>rfl) h2⟩
theorem JS{F:Bool→Addr→Value→Prop}{ρ ρ':Nat→QW}{S:Nat→Prop}{w:World}{A:TypeId}{q:QK}{u:Value}(h:OR F ρ S w (.bytes A q) u):
  V (fun _ a v=>w.cell? a=some v) ρ' (.p false (.slice (.int .u8)) q) u:=by
 simp only[V];refine⟨rfl,?_⟩;rcases h with⟨rfl,rfl⟩ | ⟨g,cap,x,mk,rfl,J,C,L,D,M,E⟩
 ·exact⟨none,0,0,rfl,⟨rfl,Nat.le_refl _⟩,fun j z=>absurd z (by simp)⟩
 ·refine⟨some ⟨g,0,none⟩,q.length,cap,rfl,⟨rfl,D⟩,fun j z=>⟨_,rfl,?_⟩⟩;simp only[ai];have I:((⟨g,0,none⟩:Addr).add (j*Ty.size (.int .u8)+0))=⟨g,j,none⟩:=by
   unfold Addr.add;simp only[Ty.size];by_cases B:j=0
   ·subst B;simp
   ·simp[B]
  rw[I,cell_of_row w g j x A mk C];exact E j z
theorem Mem.Eu(m:Mem Bw w0 ρ φ h w){i:Nat}{B:TypeId}{xs:QK}(hi:h i=some (.arr B (.int .u8) xs)):
  Mem Bw w0 ρ φ (bF h i (some (.bytes B xs))) w∧(∀β a v,Fr (own φ h) Bw w β a v→Fr (own φ (bF h i (some (.bytes B xs)))) Bw w β a v):=by
 obtain⟨u,L,V,h0,cells,X,Y⟩:=m.ob i _ hi;have D:bF ρ i (some u)=ρ:=by
  funext j;by_cases e:j=i
  ·subst e;rw[aB,L]
  ·rw[aR _ _ e]
 have C:bF φ i (φ i)=φ:=by
  funext j;by_cases e:j=i
  ·subst e;rw[aB]
  ·rw[aR _ _ e]
 have M:bF (fun j=>if some i=some j then none else h j) i (some (Obj.bytes B xs))=bF h i (some (.bytes B xs)):=by
  funext j;by_cases e:j=i
  ·subst e;rw[aB,aB]
  ·rw[aR _ _ e,aR _ _ e];simp[Ne.symm e]
 obtain⟨N,O,_⟩:=m.put (w':=w) (some i) i (.bytes B xs) u (φ i) none ⟨rfl,rfl,rfl,Nat.le_refl _,fun _ _ _=>rfl⟩ (fun k hk=>by cases hk) (.inr ⟨rfl,L⟩)
  (fun _ k hk=>m.lt i _ k hi rfl hk) (fun _ k hk=> .inr ⟨i,_,rfl,hi,rfl,hk⟩)
  (fun F' ρ' hF Z=>by
   rcases X.2 with⟨rfl,hn⟩ | ⟨g,cap,E,rfl,_,hg,I,a1,J,z⟩
   ·exact .inl ⟨rfl,List.eq_nil_of_length_eq_zero hn⟩
   ·refine .inr ⟨g,cap,E,(0,0),rfl,V g rfl,hg,.inl rfl,I,by rw[J];simp[Ty.size],fun j hj=>?_⟩;have:=Y j hj;simp only[ai,Ty.size,Nat.mul_one,Nat.add_zero]at this;rw[←z,List.getElem?_take]at this;split at this
    ·rw[←Array.getElem?_toList];exact this
    ·cases this)
 rw[D,C,M]at N;rw[C,M]at O;exact⟨N,O⟩
theorem Mem.Jc(m:Mem Bw w0 ρ φ h w){i:Nat}{Z:TypeId}{xs:QK}(hi:h i=some (.bytes Z xs)):
  Mem Bw w0 ρ φ (bF h i (some (.fz (.int .u8) xs))) w∧(∀β a v,Fr (own φ h) Bw w β a v→Fr (own φ (bF h i (some (.fz (.int .u8) xs)))) Bw w β a v):=by
 have C:∀id o,id≠i→bF h i (some (.fz (.int .u8) xs)) id=some o→h id=some o:=fun id o e z=>by rwa [aR _ _ e]at z
 have B:∀id o,bF h i (some (.fz (.int .u8) xs)) id=some o→o.live=true→id≠i:=fun id o h1 h2 e=>by subst e;rw[aB]at h1;cases h1;simp[Obj.live]at h2
 have D:∀k,own φ (bF h i (some (.fz (.int .u8) xs))) k→own φ h k:=by rintro k ⟨id,o,h1,h2,J⟩;exact⟨id,o,C _ _ (B _ _ h1 h2) h1,h2,J⟩
 have hF:∀β a v,Fr (own φ h) Bw w β a v→Fr (own φ (bF h i (some (.fz (.int .u8) xs)))) Bw w β a v :=
  fun β a v h=>⟨fun C=>h.1 (D _ C),h.2⟩
 refine⟨⟨fun id o z=>?_,fun id o k h1 h2 L=>m.lt id o k (C _ _ (B _ _ h1 h2) h1) h2 L,fun id E o M k h1 h2 L J h5 h6 =>
  m.dj id E o M k (C _ _ (B _ _ h1 h2) h1) h2 (C _ _ (B _ _ L J) L) J h5 h6,m.bw,fun k hk=>m.ow k (D k hk),m.kp,m.pc⟩,hF⟩
 by_cases e:id=i
 ·subst e;rw[aB]at z;cases z;obtain⟨u,h1,h2⟩:=m.ob id _ hi;refine⟨u,h1,?_⟩;simp only[OR,V];refine⟨rfl,?_⟩;rcases h2 with⟨rfl,rfl⟩ | ⟨g,cap,N,mk,rfl,hs,r1,r2,r3,r5,r6⟩
  ·exact⟨none,0,0,rfl,⟨rfl,Nat.le_refl _⟩,fun j O=>absurd O (by simp)⟩
  ·refine⟨some ⟨g,0,none⟩,xs.length,cap,rfl,⟨rfl,r3⟩,fun j O=>⟨_,rfl,?_⟩⟩;simp only[ai];have ec:w.cell? (⟨g,j,none⟩:Addr)=some (.int .u8 xs[j]):=by rw[cell_of_row w g j N Z mk r1];exact r6 j O
   have ea:((⟨g,0,none⟩:Addr).add (j*Ty.size (.int .u8)+0))=⟨g,j,none⟩:=by
    unfold Addr.add;simp only[Ty.size];by_cases e0:j=0
    ·subst e0;simp
    ·simp[e0]
   rw[ea];refine⟨fun X=>?_,fun _ Y=>m.ow g ⟨id,_,hi,rfl,hs⟩ (m.bw _ Y),ec⟩;obtain⟨E,M,q1,q2,q4⟩:=X;have I:=B _ _ q1 q2;exact I (m.dj E id M _ g (C _ _ I q1) q2 hi rfl q4 hs)
 ·obtain⟨u,h1,h2⟩:=m.ob id o (C _ _ e z);exact⟨u,h1,OR.mono hF (fun _ _ h=>h) (fun _ h=>h) (fun _ _ _=>rfl) h2⟩
theorem ud{G:Addr→Value→Prop}{A:Ty}{xs:List A.den}{v:Value}{g:Nat→Value→Prop}(h:ai G (.slice A) xs (fun _ u=>u=v))(j:g 0 v):ai G (.slice A) xs g:=by
 obtain⟨p,l,c,e,hl,h⟩:=h;exact⟨p,l,c,by rw[e];exact j,hl,h⟩
theorem Mem.FA(m:Mem Bw w0 ρ φ h w){i:Nat}{Z e2:TypeId}{A:Ty}{z:List (List A.den)}(hi:h i=some (.mat Z e2 A z none)):
  Mem Bw w0 ρ φ (bF h i (some (.fz (.slice A) z))) w∧(∀β a v,Fr (own φ h) Bw w β a v→Fr (own φ (bF h i (some (.fz (.slice A) z)))) Bw w β a v):=by
 have E:∀id o,id≠i→bF h i (some (.fz (.slice A) z)) id=some o→h id=some o:=fun id o e B=>by rwa [aR _ _ e]at B
 have C:∀id o,bF h i (some (.fz (.slice A) z)) id=some o→o.live=true→id≠i:=fun id o h1 h2 e=>by subst e;rw[aB]at h1;cases h1;simp[Obj.live]at h2
 have I:∀k,own φ (bF h i (some (.fz (.slice A) z))) k→own φ h k:=by rintro k ⟨id,o,h1,h2,J⟩;exact⟨id,o,E _ _ (C _ _ h1 h2) h1,h2,J⟩
 have N:∀β a v,Fr (own φ h) Bw w β a v→Fr (own φ (bF h i (some (.fz (.slice A) z)))) Bw w β a v :=
  fun β a v h=>⟨fun E=>h.1 (I _ E),h.2⟩
 have hin:∀a v,φ i a.block→w.cell? a=some v→Fr (own φ (bF h i (some (.fz (.slice A) z)))) Bw w false a v:=fun a v hb hc =>
  ⟨fun O=>by
   obtain⟨D,X,q1,q2,q4⟩:=O;have M:=C _ _ q1 q2;exact M (m.dj D i X _ a.block (E _ _ M q1) q2 hi rfl q4 hb),fun _ Y=>m.ow a.block ⟨i,_,hi,rfl,hb⟩ (m.bw _ Y),World.fB hc⟩
 refine⟨⟨fun id o B=>?_,fun id o k h1 h2 L=>m.lt id o k (E _ _ (C _ _ h1 h2) h1) h2 L,fun id D o X k h1 h2 L J h5 h6 =>
  m.dj id D o X k (E _ _ (C _ _ h1 h2) h1) h2 (E _ _ (C _ _ L J) L) J h5 h6,m.bw,fun k hk=>m.ow k (I k hk),m.kp,m.pc⟩,N⟩
 by_cases e:id=i
 ·subst e;rw[aB]at B;cases B;obtain⟨u,h1,hs,_,_,cells,L,J,_⟩:=m.ob id _ hi;refine⟨u,h1,?_⟩;refine lJ (ρ':=ρ) (F:=Fr (own φ (bF h id (some (.fz (.slice A) z)))) Bw w) (A:= .slice A) (e:=Z) (cells:=cells) L (fun j hj=>?_) false (fun _ _ h=>h) (fun a v hb hc=>hin a v (hs _ hb) hc);obtain⟨v,p1,_,p3,_⟩:=J j hj;obtain⟨r1,rc,r2,r3⟩:=p3 (fun k D e=>by cases e);have:=lJ (F:=Fr (own φ h) Bw w) (F':=Fr (own φ (bF h id (some (.fz (.slice A) z)))) Bw w) (ρ':=ρ) r2 r3 false (fun a v h=>N _ _ _ h) (fun a v hb hc=>hin a v (r1 _ hb).1 hc);simp only[V]at this;refine ud this.2 ?_;show cells[j*1+0]? = some v;rw[Nat.mul_one,Nat.add_zero];exact p1
 ·obtain⟨u,h1,h2⟩:=m.ob id o (E _ _ e B);exact⟨u,h1,OR.mono N (fun _ _ h=>h) (fun _ h=>h) (fun _ _ _=>rfl) h2⟩
theorem Mem.rj(m:Mem Bw w0 ρ φ h w){h':Nat→Qz}{φ':Nat→Nat→Prop}{ρ':Nat→QW}(J:∀i u,ρ i=some u→ρ' i=some u)(G:Nat→Prop)
  (hout:∀i,¬G i→h' i=h i∧φ' i=φ i)
  (hin:∀i o,G i→h' i=some o→(∃u,ρ' i=some u∧∀F',(∀β a v,Fr (own φ h) Bw w β a v→F' β a v)→OR F' ρ' (φ' i) w o u)∧(o.live=true→∀k,φ' i k→∃j z,G j∧h j=some z∧z.live=true∧φ j k))
  (Z:∀i j o z k,G i→G j→h' i=some o→o.live=true→h' j=some z→z.live=true→φ' i k→φ' j k→i=j) :
  Mem Bw w0 ρ' φ' h' w∧(∀β a v,Fr (own φ h) Bw w β a v→Fr (own φ' h') Bw w β a v):=by
 have B:∀k,own φ' h' k→own φ h k:=by
  rintro k ⟨id,o,h1,h2,D⟩;by_cases g:G id
  ·obtain⟨j,z,_,Y,q3,q4⟩:=(hin id o g h1).2 h2 k D;exact⟨j,z,Y,q3,q4⟩
  ·obtain⟨L,M⟩:=hout id g;exact⟨id,o,by rw[←L];exact h1,h2,by rw[←M];exact D⟩
 have hF:∀β a v,Fr (own φ h) Bw w β a v→Fr (own φ' h') Bw w β a v:=fun β a v h=>⟨fun x=>h.1 (B _ x),h.2⟩
 have E:∀i j o z k,G i→¬G j→h' i=some o→o.live=true→h' j=some z→z.live=true→φ' i k→φ' j k→False:=fun i j o z k X N h1 h2 C D O I=>by obtain⟨j0,o0,p1,p2,p3,p4⟩:=(hin i o X h1).2 h2 k O;obtain⟨L,M⟩:=hout j N;rw[L]at C;rw[M]at I;have:=m.dj _ _ _ _ k p2 p3 C D p4 I;subst this;exact N p1
 refine⟨⟨fun id o V=>?_,fun id o k h1 h2 C=>m.wS (B k ⟨id,o,h1,h2,C⟩),fun i j o z k h1 h2 C D O I=>?_,m.bw,fun k hk=>m.ow k (B k hk),m.kp,fun i u hi=>J i u (m.pc i u hi)⟩,hF⟩
 ·by_cases g:G id
  ·obtain⟨⟨u,q1,Y⟩,_⟩:=hin id o g V;exact⟨u,q1,Y _ hF⟩
  ·obtain⟨L,M⟩:=hout id g;rw[L]at V;obtain⟨u,q1,Y⟩:=m.ob id o V;exact⟨u,J _ _ q1,by rw[M];exact OR.mono hF J (fun _ h=>h) (fun _ _ _=>rfl) Y⟩
 ·by_cases X:G i <;> by_cases N:G j
  ·exact Z i j o z k X N h1 h2 C D O I
  ·exact(E i j o z k X N h1 h2 C D O I).elim
  ·exact(E j i z o k N X C D h1 h2 I O).elim
  ·obtain⟨L,M⟩:=hout i X;obtain⟨e3,e4⟩:=hout j N;rw[L]at h1;rw[e3]at C;rw[M]at O;rw[e4]at I;exact m.dj i j o z k h1 h2 C D O I
theorem Mem.wX(m:Mem Bw w0 ρ φ h w){i j k:Nat}{te E:TypeId}{A:Ty}{B:List (List A.den)}{ys:List A.den}(hi:h i=some (.mat te E A B (some (k,j))))(I:h j=some (.arr E A ys)):
  Mem Bw w0 ρ (bF φ i (fun b=>φ i b∨φ j b)) (bF (bF h j none) i (some (.mat te E A (B.set k ys) none))) w ∧
  (∀β a v,Fr (own φ h) Bw w β a v→Fr (own (bF φ i (fun b=>φ i b∨φ j b)) (bF (bF h j none) i (some (.mat te E A (B.set k ys) none)))) Bw w β a v):=by
 have z:i≠j:=fun e=>by subst e;rw[hi]at I;cases I
 refine m.rj (fun _ _ h=>h) (fun x=>x=i∨x=j) (fun x J=>⟨?_,?_⟩) (fun x o J N=>?_) (fun x y o o' b J hy h1 h2 M O h5 h6=>?_)
 ·rw[aR _ _ (fun e=>J (.inl e)),aR _ _ (fun e=>J (.inr e))]
 ·rw[aR _ _ (fun e=>J (.inl e))]
 ·rcases J with rfl | rfl
  ·rw[aB]at N;cases N;rw[aB];obtain⟨u,h1,hs,h0,hk,cells,M,O,h5⟩:=m.ob x _ hi;obtain⟨v,g1,V,_,rc,g2,g3⟩:=m.ob j _ I;have a5:=hk k j rfl;refine⟨⟨u,h1,fun F' hF=>⟨fun b hb=> .inl (hs b hb),h0,fun _ _ e=>(by cases e),cells,by rw[List.length_set];exact M,fun r X=>?_,fun r Y vr a1 b L _ _ e1 E b1 b2=>?_⟩⟩,fun _ b hb=>?_⟩
   ·rw[List.length_set]at X;obtain⟨vr,Z,p2,p3,p4⟩:=O r X;refine⟨vr,Z,p2,fun _=>?_,fun id e=>by cases e⟩;by_cases e:r=k
    ·subst e;have:=p4 j rfl;rw[g1]at this;cases this;simp only[List.getElem_set_self];refine⟨fun b hb=>⟨.inr (V b hb),fun a2=>?_⟩,rc,g2,fun q hq=>ai.mono (hF _) (fun _ _ h=>h) (g3 q hq)⟩;exact z (m.dj x j _ _ b hi rfl I rfl (hs b a2) (V b hb))
    ·rw[List.getElem_set_ne (Ne.symm e)];exact(p3 (fun k' C D=>by cases D;exact e)).mono hF (fun _ h=> .inl h) (fun _ _=>rfl)
   ·-- two a4
    have X:r<B.length:=by have:=(List.getElem?_eq_some_iff.1 e1).1;have:=M.1;omega
    have a3:Y<B.length:=by have:=(List.getElem?_eq_some_iff.1 E).1;have:=M.1;omega
    obtain⟨a6,Z,p2,p3,p4⟩:=O r X;obtain⟨a7,q1,q2,q3,q4⟩:=O Y a3;rw[e1]at Z;rw[E]at q1;cases Z;cases q1;by_cases c1:r=k
    ·subst c1;have:=p4 j rfl;rw[g1]at this;cases this;have c2:=q3 (fun k' C D=>by cases D;exact Ne.symm L);exact z (m.dj x j _ _ b hi rfl I rfl (c2.1 b b2).1 (V b b1))
    ·by_cases c2:Y=k
     ·subst c2;have:=q4 j rfl;rw[g1]at this;cases this;have c3:=p3 (fun k' C D=>by cases D;exact L);exact z (m.dj x j _ _ b hi rfl I rfl (c3.1 b b1).1 (V b b2))
     ·exact h5 r Y vr a1 b L (fun k' C D=>by cases D;exact c1) (fun k' C D=>by cases D;exact c2) e1 E b1 b2
   ·rcases hb with hb | hb
    ·exact⟨x,_,.inl rfl,hi,rfl,hb⟩
    ·exact⟨j,_,.inr rfl,I,rfl,hb⟩
  ·rw[aR _ _ (Ne.symm z),aB]at N;cases N
 ·rcases J with rfl | rfl <;> rcases hy with rfl | rfl
  ·rfl
  ·rw[aR _ _ (Ne.symm z),aB]at M;cases M
  ·rw[aR _ _ (Ne.symm z),aB]at h1;cases h1
  ·rfl
theorem Mem.JC(m:Mem Bw w0 ρ φ h w){i j k:Nat}{I D:TypeId}{A:Ty}{z:List (List A.den)}(hi:h i=some (.mat I D A z none))(V:ρ j=none)(hk:k<z.length):
  ∃v cells u,ρ i=some u∧w.ownsRow 0 I 1 u z.length cells∧cells[k]? = some v∧(∃ad n c,v = .slice ad n c) ∧
  Mem Bw w0 (bF ρ j (some v)) (bF (bF φ i (fun b=>φ i b∧dw v≠some b)) j (fun b=>dw v=some b)) (bF (bF h i (some (.mat I D A z (some (k,j))))) j (some (.arr D A z[k]))) w ∧
  (∀β a v',Fr (own φ h) Bw w β a v'→Fr (own (bF (bF φ i (fun b=>φ i b∧dw v≠some b)) j (fun b=>dw v=some b)) (bF (bF h i (some (.mat I D A z (some (k,j))))) j (some (.arr D A z[k])))) Bw w β a v') ∧
  (∀i u,ρ i=some u→bF ρ j (some v) i=some u):=by
 obtain⟨u,h1,hs,h0,_,cells,h3,h4,h5⟩:=m.ob i _ hi;have B:i≠j:=fun e=>by subst e;rw[h1]at V;cases V
 obtain⟨v,J,p2,p3,_⟩:=h4 k hk;obtain⟨r1,rc,r2,r3⟩:=p3 (fun _ _ e=>by cases e);have E:∀x y,ρ x=some y→bF ρ j (some v) x=some y:=fun x y e=>by rw[aR _ _ (fun e'=>by subst e';rw[V]at e;cases e)];exact e
 refine⟨v,cells,u,h1,h3,J,p2,?_⟩;have key:=m.rj (h':=bF (bF h i (some (.mat I D A z (some (k,j))))) j (some (.arr D A z[k]))) (φ':=bF (bF φ i (fun b=>φ i b∧dw v≠some b)) j (fun b=>dw v=some b)) E (fun x=>x=i∨x=j)
  (fun x C=>⟨by rw[aR _ _ (fun e=>C (.inr e)),aR _ _ (fun e=>C (.inl e))],by rw[aR _ _ (fun e=>C (.inr e)),aR _ _ (fun e=>C (.inl e))]⟩) (fun x o C L=>?_) (fun x y o o' b C hy q1 q2 q3 q4 M N=>?_)
 ·exact⟨key.1,key.2,E⟩
 ·rcases C with rfl | rfl
  ·rw[aR _ _ B,aB]at L;cases L;rw[show bF (bF φ x (fun b=>φ x b∧dw v≠some b)) j (fun b=>dw v=some b) x=fun b=>φ x b∧dw v≠some b by rw[aR _ _ B,aB]];refine⟨⟨u,E _ _ h1,fun F' X=>⟨fun b hb=>⟨hs b hb,fun e=>(r1 b e).2 hb⟩,h0,fun _ _ e=>(by cases e;exact hk),cells,h3,fun r hr=>?_,fun r r' O Y b Z s1 s2=>?_⟩⟩,fun _ b hb=>⟨x,_,.inl rfl,hi,rfl,hb.1⟩⟩
   ·obtain⟨O,t1,t2,t3,_⟩:=h4 r hr;refine⟨O,t1,t2,fun a3=>?_,fun id e=>?_⟩
    ·have a4:r≠k:=a3 k j rfl;obtain⟨a1,a2⟩:=t3 (fun _ _ e=>by cases e);refine BK.mono X (fun _ h=>h) (fun _ _=>rfl) (w:=w) (S:=fun b=>φ x b∧dw v≠some b) ⟨fun b hb=>⟨⟨(a1 b hb).1,?_⟩,(a1 b hb).2⟩,a2⟩;exact h5 r k O v b a4 (fun _ _ e=>by cases e) (fun _ _ e=>by cases e) t1 J hb
    ·cases e;rw[t1]at J;cases J;exact aB _ _ _
   ·exact h5 r r' O Y b Z (fun _ _ e=>by cases e) (fun _ _ e=>by cases e)
  ·rw[aB]at L;cases L;rw[show bF (bF φ i (fun b=>φ i b∧dw v≠some b)) x (fun b=>dw v=some b) x=fun b=>dw v=some b from aB _ _ _];exact⟨⟨v,aB _ _ _,fun F' X=>⟨fun b hb=>hb,h0,rc,r2,fun q hq=>ai.mono (X _) (fun _ _ h=>h) (r3 q hq)⟩⟩,fun _ b hb=>⟨i,_,.inl rfl,hi,rfl,(r1 b hb).1⟩⟩
 ·rcases C with rfl | rfl <;> rcases hy with rfl | rfl
  ·rfl
  ·rw[aR _ _ B,aB]at M;rw[aB]at N;exact absurd N M.2
  ·rw[aR _ _ B,aB]at N;rw[aB]at M;exact absurd M N.2
  ·rfl
/-! ### Rows of a5 -/
theorem fO{v:Value}(h:v.oneCell'=true):v.cells = #[v]:=by
 cases v <;> first | rfl | simp[Value.oneCell']at h
def vp(j:TypeId):Bool→Nd→Obj
 | false,x=> .mpq x.1 x.2.1
 | true,x=> .arr j (.int .u8) x.2.2
def Ej(p:TypeId)(f:Bool)(o:Obj)(x:Nd):Option Nd :=
 match f,o with
 | false,.mpq b j=>some (b,j,x.2.2)
 | false,.mpo (.int .i32) (.int .i64) j=>some (true,j,x.2.2)
 | true,.arr e (.int .u8) q=>if e=p then some (x.1,x.2.1,q)else none
 | _,_=>none
theorem I9{G:Addr→Value→Prop}{j:QK}{cells:QY}(hl:cells.length=j.length*1)(h:∀i (h:i<j.length),ai G (.int .u8) j[i] (fun k v=>cells[i*1+k]? = some v)):cells=j.map (Value.int .u8):=by
 refine List.ext_getElem? fun i=>?_
 rcases Nat.lt_or_ge i j.length with hi | hi
 ·have:=h i hi;simp only[ai,Nat.mul_one,Nat.add_zero]at this;rw[this,List.getElem?_map,List.getElem?_eq_getElem hi];rfl
 ·rw[List.getElem?_eq_none (by omega),List.getElem?_eq_none (by rw[List.length_map];exact hi)]
theorem EK{G:Addr→Value→Prop}{xs:QK}:∀i (h:i<xs.length),ai G (.int .u8) xs[i] (fun k v=>(xs.map (Value.int .u8))[i*1+k]? = some v):=fun i hi=>by
 simp only[ai,Nat.mul_one,Nat.add_zero];rw[List.getElem?_map,List.getElem?_eq_getElem hi];rfl
theorem FU{F:Bool→Addr→Value→Prop}{S:Nat→Prop}{w:World}{j:TypeId}{v:Value}{f:Bool}{x:Nd}(h:zi S w j v f x)(h2:BH f v):OR F ρ (fun b=>dw v=some b) w (vp j f x) v:=by
 cases f with
 | false=>exact⟨fun _ h=>h,h2,h.2⟩
 | true=>exact⟨fun _ h=>h,by decide,_,h.2,EK⟩
theorem AG{F:Bool→Addr→Value→Prop}{S:Nat→Prop}{p:Qq}{v:Value}(h:OR F ρ S w (.mpo (.int .i32) (.int .i64) p) v):(∀k,dw v=some k→S k)∧C5 w true p v:=by
 obtain⟨r,u,clock,rfl,z,h1,⟨h2,A⟩,x,B,C⟩:=h;refine⟨fun k e=>by cases e;exact z,r,u,clock,rfl,h1,A,x,List.ext_getElem? fun i=>?_,B⟩;have hl:u.size=p.length:=by have:=congrArg List.length x;simpa using this
 rcases Nat.lt_or_ge i p.length with hi | hi
 ·obtain⟨e,D,q,I,E,_⟩:=C i hi;simp only[ai]at q;have j:=E rfl;have hc:=fO j;rw[hc]at q;simp at q;rw[List.getElem?_map,List.getElem?_map,List.getElem?_eq_getElem hi,Array.getElem?_toList,D];simp only[Option.map_some,q]
 ·rw[List.getElem?_eq_none (by simp;omega),List.getElem?_eq_none (by simpa using hi)]
theorem Gw{F:Bool→Addr→Value→Prop}{S:Nat→Prop}{w:World}{p:TypeId}{v:Value}{f:Bool}{o:Obj}{x y:Nd}(h:Ej p f o x=some y)(q:OR F ρ S w o v):
  zi S w p v f y∧o.live=true∧∀g,g≠f→∀S w v,zi S w p v g x→zi S w p v g y:=by
 unfold Ej at h;split at h
 ·cases h;refine⟨⟨q.1,q.2.2⟩,rfl,fun g j=>?_⟩;cases g
  ·exact absurd rfl j
  ·exact fun _ _ _ h=>h
 ·cases h;refine⟨AG q,rfl,fun g j=>?_⟩;cases g
  ·exact absurd rfl j
  ·exact fun _ _ _ h=>h
 ·split at h
  ·rename_i e;subst e;cases h;obtain⟨h1,_,cells,h2,u⟩:=q;refine⟨⟨h1,?_⟩,rfl,fun g j=>?_⟩
   ·rw[←I9 h2.1 u];exact h2
   ·cases g
    ·exact fun _ _ _ h=>h
    ·exact absurd rfl j
  ·cases h
 ·cases h
theorem Mem.Jk(m:Mem Bw w0 ρ φ h w){i j k:Nat}{f:Bool}{te E:TypeId}{J:List Nd}{o:Obj}{y:Nd}(hi:h i=some (.nds te E J (some (k,f,j))))(hj:h j=some o)(L:i≠j)(hy:Ej E f o (J.getD k Nd.z)=some y):
  Mem Bw w0 ρ (bF φ i (fun b=>φ i b∨φ j b)) (bF (bF h j none) i (some (.nds te E (J.set k y) none))) w ∧
  (∀β a v,Fr (own φ h) Bw w β a v→Fr (own (bF φ i (fun b=>φ i b∨φ j b)) (bF (bF h j none) i (some (.nds te E (J.set k y) none)))) Bw w β a v):=by
 obtain⟨vj,g1,gj⟩:=m.ob j _ hj;obtain⟨p1,Y,p2⟩:=Gw hy gj;have M:∀b,φ i b→φ j b→False:=fun b h1 h2=>L (m.dj i j _ _ b hi rfl hj Y h1 h2)
 refine m.rj (fun _ _ h=>h) (fun x=>x=i∨x=j) (fun x N=>⟨?_,?_⟩) (fun x o' N ho=>?_) (fun x y' o' a6 b N hy h1 h2 Z h4 h5 h6=>?_)
 ·rw[aR _ _ (fun e=>N (.inl e)),aR _ _ (fun e=>N (.inr e))]
 ·rw[aR _ _ (fun e=>N (.inl e))]
 ·rcases N with rfl | rfl
  ·rw[aB]at ho;cases ho;rw[aB];obtain⟨u,h1,hs,hk,cells,Z,h4,h5⟩:=m.ob x _ hi;have a1:=hk k f j rfl;have hout:∀r g,¬(r=k∧g=f)→m7 (some (k,f,j)) r g:=fun r g C k' O a7 e=>by cases e;exact C
   have B:∀v,cells[k*2+f.toNat]? = some v→v=vj:=fun v hv=>by obtain⟨v2,D,_,_,c4⟩:=h4 k f a1;have:=c4 j rfl;rw[g1]at this;cases this;rw[D]at hv;exact(Option.some.inj hv).symm
   refine⟨⟨u,h1,fun F' hF=>⟨fun b hb=> .inl (hs b hb),fun _ _ _ e=>(by cases e),cells,by rw[List.length_set];exact Z,fun r g V=>?_,fun r g X O vr a2 b C _ _ e1 E b1 b2=>?_⟩⟩,fun _ b hb=>?_⟩
   ·rw[List.length_set]at V;obtain⟨vr,D,I,c3,c4⟩:=h4 r g V;refine⟨vr,D,I,fun _=>?_,fun id e=>by cases e⟩;by_cases e:r=k∧g=f
    ·obtain⟨rfl,rfl⟩:=e;cases B vr D;simp only[List.getElem_set_self];exact⟨p1.mono (fun _ _ h=> .inr h) (fun _ _=>rfl),fun b hb a3=>M b (hs b a3) (by cases g <;> exact p1.1 b hb)⟩
    ·obtain⟨d1,d2⟩:=c3 (hout r g e);have d3:=d1.mono (S':=fun b=>φ x b∨φ j b) (fun _ _ h=> .inl h) (fun _ _=>rfl) (w':=w);refine⟨?_,d2⟩;by_cases er:r=k
     ·subst er;simp only[List.getElem_set_self];have hg:g≠f:=fun e'=>e ⟨rfl,e'⟩
      refine p2 g hg _ _ _ ?_;rw[show J.getD r Nd.z=J[r] by simp[a1]];exact d3
     ·rw[List.getElem_set_ne (Ne.symm er)];exact d3
   ·-- two parts
    have a5:=Z.1;have V:r<J.length:=by have:=(List.getElem?_eq_some_iff.1 e1).1;cases g <;> simp at this <;> omega
    have a4:X<J.length:=by have:=(List.getElem?_eq_some_iff.1 E).1;cases O <;> simp at this <;> omega
    have hin:∀r g v b,r<J.length→¬(r=k∧g=f)→cells[r*2+g.toNat]? = some v→dw v=some b→φ x b:=fun r g v b V C hv hb=>by obtain⟨v2,D,_,c3,_⟩:=h4 r g V;rw[D]at hv;cases hv;have:=(c3 (hout r g C)).1;cases g <;> exact this.1 b hb
    by_cases D:r=k∧g=f
    ·have I:¬(X=k∧O=f):=fun I=>C ⟨D.1.trans I.1.symm,D.2.trans I.2.symm⟩
     rw[D.1,D.2]at e1;cases B _ e1;exact M b (hin X O a2 b a4 I E b2) (by cases f <;> exact p1.1 b b1)
    ·by_cases I:X=k∧O=f
     ·rw[I.1,I.2]at E;cases B _ E;exact M b (hin r g vr b V D e1 b1) (by cases f <;> exact p1.1 b b2)
     ·exact h5 r g X O vr a2 b C (hout r g D) (hout X O I) e1 E b1 b2
   ·rcases hb with hb | hb
    ·exact⟨x,_,.inl rfl,hi,rfl,hb⟩
    ·exact⟨j,_,.inr rfl,hj,Y,hb⟩
  ·rw[aR _ _ (Ne.symm L),aB]at ho;cases ho
 ·rcases N with rfl | rfl <;> rcases hy with rfl | rfl
  ·rfl
  ·rw[aR _ _ (Ne.symm L),aB]at Z;cases Z
  ·rw[aR _ _ (Ne.symm L),aB]at h1;cases h1
  ·rfl
theorem Mem.Lg(m:Mem Bw w0 ρ φ h w){i j k:Nat}(f:Bool){L I:TypeId}{C:List Nd}(hi:h i=some (.nds L I C none))(X:ρ j=none)(hk:k<C.length):
  ∃v,BH f v∧Mem Bw w0 (bF ρ j (some v)) (bF (bF φ i (fun b=>φ i b∧dw v≠some b)) j (fun b=>dw v=some b)) (bF (bF h i (some (.nds L I C (some (k,f,j))))) j (some (vp I f (C.getD k Nd.z)))) w ∧
  (∀β a v',Fr (own φ h) Bw w β a v'→Fr (own (bF (bF φ i (fun b=>φ i b∧dw v≠some b)) j (fun b=>dw v=some b)) (bF (bF h i (some (.nds L I C (some (k,f,j))))) j (some (vp I f (C.getD k Nd.z))))) Bw w β a v') ∧
  (∀i u,ρ i=some u→bF ρ j (some v) i=some u):=by
 obtain⟨u,h1,hs,_,cells,h3,h4,h5⟩:=m.ob i _ hi;have D:i≠j:=fun e=>by subst e;rw[h1]at X;cases X
 obtain⟨v,Y,p2,p3,_⟩:=h4 k f hk;have B:∀r g,m7 none r g:=fun _ _ _ _ _ e=>by cases e
 obtain⟨r1,r2⟩:=p3 (B _ _);have hin:∀b,dw v=some b→φ i b:=by cases f <;> exact r1.1
 have J:∀x y,ρ x=some y→bF ρ j (some v) x=some y:=fun x y e=>by rw[aR _ _ (fun e'=>by subst e';rw[X]at e;cases e)];exact e
 rw[show C.getD k Nd.z=C[k] by simp[hk]];refine⟨v,p2,?_⟩;have key:=m.rj (h':=bF (bF h i (some (.nds L I C (some (k,f,j))))) j (some (vp I f C[k]))) (φ':=bF (bF φ i (fun b=>φ i b∧dw v≠some b)) j (fun b=>dw v=some b)) J (fun x=>x=i∨x=j)
  (fun x E=>⟨by rw[aR _ _ (fun e=>E (.inr e)),aR _ _ (fun e=>E (.inl e))],by rw[aR _ _ (fun e=>E (.inr e)),aR _ _ (fun e=>E (.inl e))]⟩) (fun x o E M=>?_) (fun x y o o' b E hy q1 q2 q3 q4 N O=>?_)
 ·exact⟨key.1,key.2,J⟩
 ·rcases E with rfl | rfl
  ·rw[aR _ _ D,aB]at M;cases M;rw[show bF (bF φ x (fun b=>φ x b∧dw v≠some b)) j (fun b=>dw v=some b) x=fun b=>φ x b∧dw v≠some b by rw[aR _ _ D,aB]];refine⟨⟨u,J _ _ h1,fun F' hF=>⟨fun b hb=>⟨hs b hb,fun e=>r2 b e hb⟩,fun _ _ _ e=>(by cases e;exact hk),cells,h3,fun r g hr=>?_,fun r g r' g' V Z b a3 s1 s2=>?_⟩⟩,fun _ b hb=>⟨x,_,.inl rfl,hi,rfl,hb.1⟩⟩
   ·obtain⟨V,t1,t2,t3,_⟩:=h4 r g hr;refine⟨V,t1,t2,fun a4=>?_,fun id e=>?_⟩
    ·have a5:¬(r=k∧g=f):=a4 k f j rfl;obtain⟨a1,a2⟩:=t3 (B _ _);exact⟨a1.mono (fun b hb a6=>⟨a6,fun e=>h5 r g k f V v b a5 (B _ _) (B _ _) t1 Y hb e⟩) (fun _ _=>rfl),a2⟩
    ·cases e;rw[t1]at Y;cases Y;exact aB _ _ _
   ·exact h5 r g r' g' V Z b a3 (B _ _) (B _ _)
  ·rw[aB]at M;cases M;rw[show bF (bF φ i (fun b=>φ i b∧dw v≠some b)) x (fun b=>dw v=some b) x=fun b=>dw v=some b from aB _ _ _];exact⟨⟨v,aB _ _ _,fun F' hF=>FU r1 p2⟩,fun _ b hb=>⟨i,_,.inl rfl,hi,rfl,hin b hb⟩⟩
 ·rcases E with rfl | rfl <;> rcases hy with rfl | rfl
  ·rfl
  ·rw[aR _ _ D,aB]at N;rw[aB]at O;exact absurd O N.2
  ·rw[aR _ _ D,aB]at O;rw[aB]at N;exact absurd N O.2
  ·rfl
theorem Mem.Fq(m:Mem Bw w0 ρ φ h w){i:Nat}{te N:TypeId}{z:List Nd}(hi:h i=some (.nds te N z none)):
  Mem Bw w0 ρ φ (bF h i (some (.fz Fz (z.map (·.2))))) w∧(∀β a v,Fr (own φ h) Bw w β a v→Fr (own φ (bF h i (some (.fz Fz (z.map (·.2)))))) Bw w β a v):=by
 have D:∀id o,id≠i→bF h i (some (.fz Fz (z.map (·.2)))) id=some o→h id=some o:=fun id o e B=>by rwa [aR _ _ e]at B
 have C:∀id o,bF h i (some (.fz Fz (z.map (·.2)))) id=some o→o.live=true→id≠i:=fun id o h1 h2 e=>by subst e;rw[aB]at h1;cases h1;simp[Obj.live]at h2
 have E:∀k,own φ (bF h i (some (.fz Fz (z.map (·.2))))) k→own φ h k:=by rintro k ⟨id,o,h1,h2,I⟩;exact⟨id,o,D _ _ (C _ _ h1 h2) h1,h2,I⟩
 have hF:∀β a v,Fr (own φ h) Bw w β a v→Fr (own φ (bF h i (some (.fz Fz (z.map (·.2)))))) Bw w β a v :=
  fun β a v h=>⟨fun D=>h.1 (E _ D),h.2⟩
 have J:∀(a:Addr) v,φ i a.block→w.qJ a=some v→Fr (own φ (bF h i (some (.fz Fz (z.map (·.2)))))) Bw w false a v:=fun a v hb hc =>
  ⟨fun Z=>by
   obtain⟨L,o',q1,q2,q4⟩:=Z;have O:=C _ _ q1 q2;exact O (m.dj L i o' _ a.block (D _ _ O q1) q2 hi rfl q4 hb),fun _ a6=>m.ow a.block ⟨i,_,hi,rfl,hb⟩ (m.bw _ a6),hc⟩
 refine⟨⟨fun id o B=>?_,fun id o k h1 h2 M=>m.lt id o k (D _ _ (C _ _ h1 h2) h1) h2 M,fun id L o o' k h1 h2 M I h5 h6 =>
  m.dj id L o o' k (D _ _ (C _ _ h1 h2) h1) h2 (D _ _ (C _ _ M I) M) I h5 h6,m.bw,fun k hk=>m.ow k (E k hk),m.kp,m.pc⟩,hF⟩
 by_cases e:id=i
 ·subst e;rw[aB]at B;cases B;obtain⟨u,h1,hs,_,cells,M,I,_⟩:=m.ob id _ hi;refine⟨u,h1,?_⟩;refine lJ (ρ':=ρ) (F:=Fr (own φ (bF h id (some (.fz Fz (z.map (·.2)))))) Bw w) (A:=Fz) (e:=te) (cells:=cells) (by rw[List.length_map];exact M) (fun j hj=>?_) false (fun _ _ h=>h) (fun a v hb hc=>J a v (hs _ hb) (World.fB hc));rw[List.length_map]at hj;obtain⟨v0,a1,⟨r0,a2⟩,a3,_⟩:=I j false hj;obtain⟨v1,b1,b2,b3,_⟩:=I j true hj;obtain⟨⟨a4,X⟩,_⟩:=a3 (fun _ _ _ e=>by cases e);obtain⟨⟨b4,b5⟩,_⟩:=b3 (fun _ _ _ e=>by cases e);rw[List.getElem_map];refine⟨?_,?_⟩
  ·subst a2;refine⟨r0,a1,?_⟩;cases hb:z[j].1 with
   | false =>
    rw[hb]at X;obtain⟨e1,N⟩:=X;cases e1;exact N
   | true =>
    rw[hb]at X;obtain⟨r,es,clock,e1,N,e3,e4,e5,e6⟩:=X;cases e1;refine⟨J ⟨r,0,some 0⟩ _ (a4 r rfl) ?_,e6⟩;unfold World.qJ Ls;simp only[N];congr 2;refine Array.ext' (List.ext_getElem? fun q=>?_);have Y:=congrArg (fun l=>l[q]?) e4;have g2:=congrArg (fun l=>l[q]?) e5;simp only[List.getElem?_map]at Y g2;simp only[Array.toList_map,List.getElem?_map];cases c1:es.toList[q]? <;> cases c2:z[j].2.1[q]? <;> rw[c1,c2]at Y g2 <;> simp at Y g2 ⊢
    exact⟨Y,g2⟩
  ·have:=lJ (A:= .int .u8) (xs:=z[j].2.2) (F:=Fr (own φ (bF h id (some (.fz Fz (z.map (·.2)))))) Bw w) (F':=Fr (own φ (bF h id (some (.fz Fz (z.map (·.2)))))) Bw w) (ρ':=ρ) b5 EK false (fun a v h=>h) (fun a v hb hc=>J a v (b4 _ hb) (World.fB hc));simp only[V]at this;refine ud (A:= .int .u8) this.2 ?_;exact b1
 ·obtain⟨u,h1,h2⟩:=m.ob id o (D _ _ e B);exact⟨u,h1,OR.mono hF (fun _ _ h=>h) (fun _ h=>h) (fun _ _ _=>rfl) h2⟩
theorem Mem.as(m:Mem Bw w0 ρ φ h w){i:Nat}{o j:Obj}(hi:h i=some o)(hl:o.live=true)(_:j.live=true)(hc:∀F ρ S w u,OR F ρ S w o u→OR F ρ S w j u):
  Mem Bw w0 ρ φ (bF h i (some j)) w∧(∀β a v,Fr (own φ h) Bw w β a v→Fr (own φ (bF h i (some j))) Bw w β a v):=by
 refine m.rj (fun _ _ h=>h) (fun x=>x=i) (fun x z=>⟨aR _ _ z,rfl⟩) (fun x o2 z B=>?_) (fun x y j C b z D _ _ _ _ _ _=>z.trans D.symm);subst z;rw[aB]at B;cases B;obtain⟨u,E,I⟩:=m.ob x _ hi;exact⟨⟨u,E,fun F' J=>hc _ _ _ _ _ (OR.mono J (fun _ _ h=>h) (fun _ h=>h) (fun _ _ _=>rfl) I)⟩,fun _ k hk=>⟨x,o,rfl,hi,hl,hk⟩⟩
theorem Mem.less(m:Mem Bw w0 ρ φ h w){h':Nat→Qz}(z:∀i o,h' i=some o→h i=some o):
  Mem Bw w0 ρ φ h' w∧(∀β a v,Fr (own φ h) Bw w β a v→Fr (own φ h') Bw w β a v):=by
 have j:∀k,own φ h' k→own φ h k:=fun k ⟨id,o,h1,h2,B⟩=>⟨id,o,z _ _ h1,h2,B⟩
 have I:∀β a v,Fr (own φ h) Bw w β a v→Fr (own φ h') Bw w β a v:=fun β a v h=>⟨fun x=>h.1 (j _ x),h.2⟩
 refine⟨⟨fun id o C=>?_,fun id o k h1 h2 D=>m.lt id o k (z _ _ h1) h2 D,fun id E o J k h1 h2 D B L M=>m.dj id E o J k (z _ _ h1) h2 (z _ _ D) B L M,m.bw,fun k hk=>m.ow k (j k hk),m.kp,m.pc⟩,I⟩;obtain⟨u,N,O⟩:=m.ob id o (z _ _ C);exact⟨u,N,OR.mono I (fun _ _ h=>h) (fun _ h=>h) (fun _ _ _=>rfl) O⟩
theorem fb.mono{F F':Bool→Addr→Value→Prop}{ρ ρ':Nat→QW}{s:Nat→ag}(z:∀β a v,F β a v→F' β a v)(j:∀i u,ρ i=some u→ρ' i=some u)
  (h:fb n F ρ s a):fb n F' ρ' s a:=⟨h.tm,h.df,fun t=>V.mono z j (h.sl t)⟩
theorem fb.put{F:Bool→Addr→Value→Prop}{ρ:Nat→QW}{s:Nat→ag}(h:fb n F ρ s a){x:ag}{v:Value}(j:V F ρ x v){d:Nat}(hd:d<n.sz):
  fb n F ρ (bF s d x) (a.put (some d) v):=by
 refine⟨by simp[Act.put,h.tm],h.df,fun t=>?_⟩;have p:=h.tm;by_cases e:t=d
 ·subst e;rw[aB];have:(a.put (some t) v).tmps.getD t undef=v:=by simp[Act.put,Array.getD,p,hd]
  rw[this];exact j
 ·rw[aR _ _ e];have:(a.put (some d) v).tmps.getD t undef=a.tmps.getD t undef:=by simp only[Act.put,Array.getD_eq_getD_getElem?];rw[Array.getElem?_setIfInBounds_ne (Ne.symm e)]
  rw[this];exact h.sl t
theorem Mem.drew(m:Mem Bw w0 ρ φ h w):Mem Bw w0 ρ φ h w.drew∧(∀β a v,Fr (own φ h) Bw w β a v→Fr (own φ h) Bw w.drew β a v) :=
 ⟨⟨fun id o j=>let ⟨u,z,B⟩:=m.ob id o j;⟨u,z,OR.mono (fun _ _ _ h=>h) (fun _ _ h=>h) (fun _ h=>h) (fun _ _ _=>rfl) B⟩,m.lt,m.dj,m.bw,m.ow,m.kp.drew,m.pc⟩,fun _ _ _ h=>h⟩
end
end Go.Tv
