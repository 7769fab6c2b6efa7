import Derived.Test.YtbedjpdfkmfplaaGreatDoorTvFam
namespace Go
def World.pb(w:World)(a:Addr):QW :=
 match a.spot with
 | none=>w.cell? a
 | some _=>match w.heap[a.block]? with
  | some (.map f _)=>some (.tuple (f.map fun e=>Value.tuple #[e.key,e.val]))
  | _=>none
theorem World.fM{w:World}{a:Addr}{v:Value}(h:w.cell? a=some v):w.pb a=some v:=by
 unfold World.pb;split
 ·exact h
 ·rename_i s f;unfold World.cell? at h;split at h
  ·rw[f]at h;cases h
  ·cases h
theorem World.jK{w:World}{a:Addr}{v:Value}(h:w.pb a=some v)(f:v.oneCell'=true):w.cell? a=some v:=by
 unfold World.pb at h;split at h
 ·exact h
 ·split at h
  ·cases h;cases f
  ·cases h
theorem World.qO{w w':World}{a:Addr}(h:w'.heap[a.block]? = w.heap[a.block]?):w'.pb a=w.pb a:=by
 unfold World.pb;split
 ·exact World.cell?_of_block h
 ·rw[h]
theorem World.Bh{w:World}{a:Addr}{v:Value}(h:w.pb a=some v):a.block<w.heap.size:=by
 unfold World.pb at h;split at h
 ·exact World.block_lt_of_cell? w a h
 ·grind
end Go
namespace Go.Tv
open Go Go.RowKit
abbrev Nd:=Bool×Qq×QK
def Nd.z:Nd:=(false,[],[])
abbrev jD(e:List Nd)(i:Nat):List Nd:=e.set i ((e.getD i Nd.z).1,(e.getD i Nd.z).2.1,(e.getD i Nd.z).2.2)
abbrev Gu:Ty:= .prod (.mapi .i32 .i64) (.slice (.int .u8))
inductive Obj where
 | arr (e:TypeId) (A:Ty) (xs:List A.den)
 | fz (A:Ty) (xs:List A.den)
 | box (cs:List ag)
 | mpo (K A:Ty) (kv:List (K.den×A.den))
 | mpl (K:Ty) (kv:List (K.den×Value))
 | mat (e e2:TypeId) (A:Ty) (xss:List (List A.den)) (ho:Option (Nat×Nat))
 | bytes (e:TypeId) (xs:QK)
 | cutz (A:Ty) (xs:List A.den)
 | lmp (k:IntKind) (n:Nat) (xs:fG n) (cs:List ag)
 | vrow (n sz:Nat) (cs:List ag)
 | nds (e e2:TypeId) (ns:List Nd) (ho:Option (Nat×Bool×Nat))
 | mpq (b:Bool) (kv:Qq)
abbrev Qw:=List (Nat×Obj)
abbrev Qv:=Qw
abbrev Qz:=Option Obj
def Obj.live:Obj→Bool
 | .fz _ _=>false
 | .cutz _ _=>false
 | _=>true
structure St where
 s:Nat→ag
 h:Nat→Qz
 nx:Nat
 pn:Nat
def bu{α:Type}(f:Nat→α)(i:Nat)(x:α):Nat→α:=fun k=>if k=i then x else f k
theorem av{α:Type}(f:Nat→α)(i:Nat)(x:α):bu f i x i=x:=by simp[bu]
theorem aD{α:Type}(f:Nat→α){i k:Nat}(x:α)(h:k≠i):bu f i x k=f k:=by simp[bu,h]
def dH:Value→QJ
 | .slice (some a) _ _=>some a.block
 | .pointer (some a)=>some a.block
 | .map r=>r
 | _=>none
def own(φ:Nat→Nat→Prop)(h:Nat→Qz)(k:Nat):Prop :=
 ∃id ob,h id=some ob∧ob.live=true∧φ id k
def KY:QK:=[0,1,28,2,29,14,24,3,30,22,20,15,25,17,4,8,31,27,13,23,21,19,16,7,26,12,18,6,11,5,10,9]
def vu(P:Program)(w:World):Prop:=∀g,P.globalNamed "math/bits.deBruijn32tab" = some g→∀i,i<32→w.cell? ⟨g,i,none⟩=some (.int .u8 (KY.getD i 0))
structure cE(P:Program) where
 w:World
 kp:Nat→Prop
 lt:∀k,kp k→k<w.heap.size
 pk:Nat→QW
 ld:vu P w
 lk:∀g,P.globalNamed "math/bits.deBruijn32tab" = some g→kp g
structure Kept{P:Program}(b:cE P)(w:World):Prop where
 os:w.os=b.w.os
 tape:w.tape=b.w.tape
 output:w.output=b.w.output
 size:b.w.heap.size≤w.heap.size
 block:∀k,b.kp k→w.heap[k]? = b.w.heap[k]?
def lJ{P:Program}{w:World}(hl:vu P w):cE P:=⟨w,fun k=>k<w.heap.size,fun _ h=>h,fun _=>none,hl,fun g e=>World.block_lt_of_cell? w _ (hl g e 0 (by decide))⟩
section
variable{P:Program}
theorem Kept.refl(b:cE P):Kept b b.w:=⟨rfl,rfl,rfl,Nat.le_refl _,fun _ _=>rfl⟩
theorem Kept.drew{b:cE P}{w:World}(h:Kept b w):Kept b w.drew:=⟨h.os,h.tape,h.output,h.size,h.block⟩
theorem Kept.grown{b:cE P}{w j:World}{row:QJ}(h:Kept b w)(f:w.grownBy j row)(q:∀k,row=some k→¬b.kp k):Kept b j :=
 ⟨f.os.trans h.os,f.tape.trans h.tape,f.output.trans h.output,Nat.le_trans h.size f.size,fun k hk =>
  (f.block k (Nat.lt_of_lt_of_le (b.lt k hk) h.size) (fun e=>q k e.symm hk)).trans (h.block k hk)⟩
theorem Kept.below{w e:World}{hl:vu P w}(h:Kept (lJ hl) e):Below w.heap.size w e:=⟨h.os,h.tape,h.output,h.size,h.block⟩
theorem Kept.Gi{b:cE P}{w w':World}(h:Kept b w)(k:Below w.heap.size w w'):Kept b w' :=
 ⟨k.os.trans h.os,k.tape.trans h.tape,k.output.trans h.output,Nat.le_trans h.size k.size,fun i hi =>
  (k.block i (Nat.lt_of_lt_of_le (b.lt i hi) h.size)).trans (h.block i hi)⟩
theorem Kept.laid{b:cE P}{w:World}(h:Kept b w):vu P w:=fun g e i hi=>by
 rw[World.cell?_of_block (w:=b.w) (h.block g (b.lk g e))];exact b.ld g e i hi
end
def Fr(ow Bw:Nat→Prop)(w:World)(β:Bool)(a:Addr)(v:Value):Prop:=¬ow a.block∧(β=false→¬Bw a.block)∧w.pb a=some v
def Ty.isKey:Ty→Bool
 | .int _=>true
 | .bool=>true
 | .str=>true
 | .unit=>true
 | .prod a b=>a.isKey && b.isKey
 | .arr _ _=>true
 | _=>false
def cR:(K:Ty)→K.den→QY
 | .int k,n=>[.int k n]
 | .bool,b=>[.bool b]
 | .str,s=>[.string ⟨s.toArray⟩]
 | .prod a b,p=>cR a p.1++cR b p.2
 | .arr k _,e=>e.1.map (Value.int k)
 | _,_=>[]
def aP:(K:Ty)→K.den→Value
 | .int k,n=> .int k n
 | .bool,b=> .bool b
 | .str,s=> .string ⟨s.toArray⟩
 | K,x=> .agg (cR K x).toArray
def MV(F:Addr→Value→Prop)(A:Ty)(x:A.den)(v:Value):Prop :=
 ai F A x (fun k u=>v.cells.toList[k]? = some u)∧v.cells.size=A.size∧(A.scalar=true→v.oneCell'=true)∧(A.scalar=false→∃e,v = .agg e)
def Bx(F:Bool→Addr→Value→Prop)(S:Nat→Prop)(w:World)(q:TypeId)(A:Ty)(u v:Value)(e:List A.den):Prop :=
 (∀k,dH v=some k→S k∧dH u≠some k)∧∃f,w.ownsRow 0 q A.size v e.length f∧∀j (h:j<e.length),ai (F false) A e[j] (fun k v=>f[j*A.size+k]? = some v)
def Dq(e:Option (Nat×Nat))(i:Nat):Prop:=∀k id,e=some (k,id)→i≠k
def xB(f:Array MapEntry)(clock:Nat):Prop:=(f.toList.map (·.born)).Nodup∧∀e∈f.toList,e.born<clock
def EJ(w:World)(b:Bool)(e:Qq)(v:Value):Prop :=
 match b with
 | false=>v = .map none∧e=[]
 | true=>∃r f clock,v = .map (some r)∧w.heap[r]? = some (.map f clock)∧xB f clock∧f.toList.map (·.key)=e.map (fun p=>Value.int .i32 p.1)∧f.toList.map (·.val)=e.map (fun p=>Value.int .i64 p.2)∧(e.map (·.1)).Nodup
def Ao(S:Nat→Prop)(w:World)(e:TypeId)(v:Value):Bool→Nd→Prop
 | false,x=>(∀k,dH v=some k→S k)∧EJ w x.1 x.2.1 v
 | true,x=>(∀k,dH v=some k→S k)∧w.ownsRow 0 e 1 v x.2.2.length (x.2.2.map (Value.int .u8))
def Bt:Bool→Value→Prop
 | false,v=>∃r,v = .map r
 | true,v=>∃e n c,v = .slice e n c
def nJ(e:Option (Nat×Bool×Nat))(i:Nat)(f:Bool):Prop:=∀k g id,e=some (k,g,id)→¬(i=k∧f=g)
def OR(F:Bool→Addr→Value→Prop)(ρ:Nat→QW)(S:Nat→Prop)(w:World):Obj→Value→Prop
 | .arr e A xs,u=>(∀k,dH u=some k→S k)∧0<A.size∧∃cells,w.ownsRow 0 e A.size u xs.length cells ∧
   ∀i (h:i<xs.length),ai (F false) A xs[i] (fun k v=>cells[i*A.size+k]? = some v)
 | .fz A xs,u=>V F ρ (.p false (.slice A) xs) u
 | .box C,u=>∃g t cells,u = .pointer (some ⟨g,0,none⟩)∧S g∧w.heap[g]? = some (.cells cells t (0,0))∧cells.size=C.length ∧
   VL F ρ C (fun k v=>cells[k]? = some v)
 | .mpo K A q,u=>∃r E clock,u = .map (some r)∧S r∧w.heap[r]? = some (.map E clock)∧(K.isKey=true∧xB E clock)∧E.toList.map (·.key)=q.map (fun p=>aP K p.1)∧(q.map (·.1)).Nodup ∧
   ∀i (h:i<q.length),∃e:MapEntry,E[i]? = some e∧MV (F false) A q[i].2 e.val
 | .mpl K q,u=>∃r E clock,u = .map (some r)∧S r∧w.heap[r]? = some (.map E clock)∧K.isKey=true∧E.toList.map (·.key)=q.map (fun p=>aP K p.1)∧(q.map (·.1)).Nodup ∧
   ∀i (h:i<q.length),∃e:MapEntry,E[i]? = some e∧e.val=q[i].2
 | .mat e M A D z,u=>(∀k,dH u=some k→S k)∧0<A.size∧(∀k id,z=some (k,id)→k<D.length)∧∃cells:QY,w.ownsRow 0 e 1 u D.length cells ∧
   (∀i (h:i<D.length),∃v,cells[i]? = some v∧(∃N n c,v = .slice N n c)∧(Dq z i→Bx F S w M A u v D[i])∧∀id,z=some (i,id)→ρ id=some v) ∧
   ∀i j I J b,i≠j→Dq z i→Dq z j→cells[i]? = some I→cells[j]? = some J→dH I=some b→dH J≠some b
 | .bytes e xs,u=>(u = .slice none 0 0∧xs=[])∨∃g cap B mk,u = .slice (some ⟨g,0,none⟩) xs.length cap∧S g∧w.heap[g]? = some (.cells B e mk)∧(mk=(0,0)∨mk=(B.size,B.size+1))∧xs.length≤cap∧B.size=cap ∧
   ∀i (h:i<xs.length),B[i]? = some (.int .u8 xs[i])
 | .lmp k n xs C,u=>∃g t cells,u = .pointer (some ⟨g,0,none⟩)∧S g∧w.heap[g]? = some (.cells cells t (0,0))∧cells.size=n+C.length∧(∀i (h:i<xs.1.length),cells[i]? = some (.int k xs.1[i])) ∧
   VL F ρ C (fun j v=>cells[n+j]? = some v)
 | .vrow n sz C,u=>∃g t cells,u = .slice (some ⟨g,0,none⟩) n n∧S g∧w.heap[g]? = some (.cells cells t (0,0))∧cells.size=C.length∧C.length=n*sz∧VL F ρ C (fun k v=>cells[k]? = some v)
 | .cutz A xs,u=>(∃N,u = .slice N xs.length xs.length)∧V F ρ (.p false (.slice A) xs) u
 | .nds e M L z,u=>(∀k,dH u=some k→S k)∧(∀k f id,z=some (k,f,id)→k<L.length)∧∃cells:QY,w.ownsRow 0 e 2 u L.length cells ∧
   (∀i f (h:i<L.length),∃v,cells[i*2+f.toNat]? = some v∧Bt f v∧(nJ z i f→Ao S w M v f L[i]∧∀k,dH v=some k→dH u≠some k)∧∀id,z=some (i,f,id)→ρ id=some v) ∧
   ∀i f j g I J b,¬(i=j∧f=g)→nJ z i f→nJ z j g→cells[i*2+f.toNat]? = some I→cells[j*2+g.toNat]? = some J→dH I=some b→dH J≠some b
 | .mpq b q,u=>(∀k,dH u=some k→S k)∧(∃r,u = .map r)∧EJ w b q u
theorem gf{w w':World}{e:TypeId}{sz n:Nat}{u:Value}{cells:QY}(hb:∀k,dH u=some k→w'.heap[k]? = w.heap[k]?)(h:w.ownsRow 0 e sz u n cells):w'.ownsRow 0 e sz u n cells:=by
 obtain⟨q,f⟩:=h;refine⟨q,?_⟩;rcases f with f | ⟨g,cap,j,rfl,z,A,B⟩
 ·exact .inl f
 ·exact .inr ⟨g,cap,j,rfl,z,by rw[hb g rfl];exact A,B⟩
theorem Bx.mono{F F':Bool→Addr→Value→Prop}{S S':Nat→Prop}{w w':World}{B:TypeId}{A:Ty}{u v:Value}{xs:List A.den}
  (D:∀β a v,F β a v→F' β a v) (E:∀k,S k→S' k) (hb:∀k,S k→w'.heap[k]? = w.heap[k]?) (h:Bx F S w B A u v xs):Bx F' S' w' B A u v xs:=by
 obtain⟨z,I,J,L⟩:=h;exact⟨fun k hk=>⟨E k (z k hk).1,(z k hk).2⟩,I,gf (fun k hk=>hb k (z k hk).1) J,fun j M=>ai.mono (D _) (fun _ _ h=>h) (L j M)⟩
theorem EJ.mono{w w':World}{b:Bool}{j:Qq}{v:Value}(hb:∀k,dH v=some k→w'.heap[k]? = w.heap[k]?)(h:EJ w b j v):EJ w' b j v:=by
 cases b with
 | false=>exact h
 | true =>
  obtain⟨r,z,clock,rfl,B,D⟩:=h;exact⟨r,z,clock,rfl,by rw[hb r rfl];exact B,D⟩
theorem Ao.mono{S S':Nat→Prop}{w w':World}{j:TypeId}{v:Value}{f:Bool}{x:Nd}(z:∀k,dH v=some k→S k→S' k)(hb:∀k,S k→w'.heap[k]? = w.heap[k]?)(h:Ao S w j v f x):Ao S' w' j v f x:=by
 cases f with
 | false=>exact⟨fun k hk=>z k hk (h.1 k hk),h.2.mono fun k hk=>hb k (h.1 k hk)⟩
 | true=>exact⟨fun k hk=>z k hk (h.1 k hk),gf (fun k hk=>hb k (h.1 k hk)) h.2⟩
structure Mem{P:Program}(Bw:Nat→Prop)(w0:cE P)(ρ:Nat→QW)(φ:Nat→Nat→Prop)(h:Nat→Qz)(w:World):Prop where
 ob:∀id o,h id=some o→∃u,ρ id=some u∧OR (Fr (own φ h) Bw w) ρ (φ id) w o u
 lt:∀id o k,h id=some o→o.live=true→φ id k→k<w.heap.size
 dj:∀id id' o o' k,h id=some o→o.live=true→h id'=some o'→o'.live=true→φ id k→φ id' k→id=id'
 bw:∀k,Bw k→w0.kp k
 ow:∀k,own φ h k→¬w0.kp k
 kp:Kept w0 w
 pk:∀i u,w0.pk i=some u→ρ i=some u
structure NS where
 sz:Nat
 D:List Deferred
instance:Coe Nat NS:=⟨fun n=>⟨n,[]⟩⟩
structure bV(n:NS)(F:Bool→Addr→Value→Prop)(ρ:Nat→QW)(s:Nat→ag)(a:Act):Prop where
 tm:a.tmps.size=n.sz
 df:a.defers=n.D
 sl:∀t,V F ρ (s t) (a.tmps.getD t undef)
structure Rel{P:Program}(n:NS)(Bw:Nat→Prop)(w0:cE P)(ρ:Nat→QW)(φ:Nat→Nat→Prop)(σ:St)(a:Act)(w:World):Prop where
 mem:Mem Bw w0 ρ φ σ.h w
 OU:bV n (Fr (own φ σ.h) Bw w) ρ σ.s a
 nx:∀id u,ρ id=some u→id<σ.nx
theorem OR.mono{F F':Bool→Addr→Value→Prop}{ρ ρ':Nat→QW}{S S':Nat→Prop}{w w':World}{o:Obj}{u:Value}
  (L:∀β a v,F β a v→F' β a v) (D:∀i u,ρ i=some u→ρ' i=some u) (I:∀k,S k→S' k)
  (hb:o.live=true→∀k,S k→w'.heap[k]? = w.heap[k]?) (h:OR F ρ S w o u):OR F' ρ' S' w' o u:=by
 cases o with
 | arr e A xs =>
  obtain⟨j,h0,cells,⟨B,z⟩,E⟩:=h;refine⟨fun k hk=>I k (j k hk),h0,cells,⟨B,?_⟩,fun i hi=>ai.mono (L _) (fun _ _ h=>h) (E i hi)⟩;rcases z with z | ⟨g,cap,M,rfl,r1,r2,r3⟩
  ·exact .inl z
  ·exact .inr ⟨g,cap,M,rfl,r1,by rw[hb rfl g (j g rfl)];exact r2,r3⟩
 | fz A xs=>exact V.mono L D h
 | box cs =>
  obtain⟨g,t,cells,rfl,j,B,z,E⟩:=h;exact⟨g,t,cells,rfl,I _ j,by rw[hb rfl g j];exact B,z,VL.mono L D (fun _ _ h=>h) E⟩
 | mpo K A kv =>
  obtain⟨r,es,clock,rfl,j,B,z,E,O,h5⟩:=h;exact⟨r,es,clock,rfl,I _ j,by rw[hb rfl r j];exact B,z,E,O,fun i hi=>let ⟨e,Y,Z,N⟩:=h5 i hi;⟨e,Y,ai.mono (L _) (fun _ _ h=>h) Z,N⟩⟩
 | mpl K kv =>
  obtain⟨r,es,clock,rfl,j,B,z⟩:=h;exact⟨r,es,clock,rfl,I _ j,by rw[hb rfl r j];exact B,z⟩
 | mat e e2 A a1 ho =>
  obtain⟨j,h0,hk,cells,B,z,E⟩:=h;refine⟨fun k hk=>I k (j k hk),h0,hk,cells,gf (fun k hk=>hb rfl k (j k hk)) B,fun i hi=>?_,E⟩;obtain⟨v,Y,Z,N,q4⟩:=z i hi;exact⟨v,Y,Z,fun J=>(N J).mono L I (hb rfl),fun id e=>D _ _ (q4 id e)⟩
 | bytes e xs =>
  rcases h with h | ⟨g,cap,M,mk,rfl,j,B,z⟩
  ·exact .inl h
  ·exact .inr ⟨g,cap,M,mk,rfl,I _ j,by rw[hb rfl g j];exact B,z⟩
 | cutz A xs=>exact⟨h.1,V.mono L D h.2⟩
 | lmp k n xs cs =>
  obtain⟨g,t,cells,rfl,j,B,z,E,O⟩:=h;exact⟨g,t,cells,rfl,I _ j,by rw[hb rfl g j];exact B,z,E,VL.mono L D (fun _ _ h=>h) O⟩
 | vrow n sz cs =>
  obtain⟨g,t,cells,rfl,j,B,z,E,O⟩:=h;exact⟨g,t,cells,rfl,I _ j,by rw[hb rfl g j];exact B,z,E,VL.mono L D (fun _ _ h=>h) O⟩
 | nds e e2 ns ho =>
  obtain⟨j,hk,cells,B,z,E⟩:=h;refine⟨fun k hk=>I k (j k hk),hk,cells,gf (fun k hk=>hb rfl k (j k hk)) B,fun i f hi=>?_,E⟩;obtain⟨v,Y,Z,N,q4⟩:=z i f hi;exact⟨v,Y,Z,fun J=>⟨(N J).1.mono (fun k _=>I k) (hb rfl),(N J).2⟩,fun id e=>D _ _ (q4 id e)⟩
 | mpq b kv=>exact⟨fun k hk=>I k (h.1 k hk),h.2.1,h.2.2.mono fun k hk=>hb rfl k (h.1 k hk)⟩
section
variable{P:Program}{n:NS}{Bw:Nat→Prop}{w0:cE P}{ρ:Nat→QW}{φ:Nat→Nat→Prop}{h:Nat→Qz}{σ:St}{a:Act}{w:World}
theorem Fr.LP{ow j:Nat→Prop}{w':World}(D:∀k,k<w.heap.size→¬ow k→w'.heap[k]? = w.heap[k]?)
  (E:∀k,j k→ow k∨w.heap.size≤k) (β:Bool) (a:Addr) (v:Value) (h:Fr ow Bw w β a v):Fr j Bw w' β a v:=by
 obtain⟨B,I,C⟩:=h;have z:=World.Bh C;refine⟨fun J=>?_,I,by rw[World.qO (w:=w) (D _ z B)];exact C⟩;rcases E _ J with h' | h'
 ·exact B h'
 ·omega
theorem Mem.rO(m:Mem Bw w0 ρ φ h w){k:Nat}(hk:own φ h k):k<w.heap.size:=by
 obtain⟨id,o,j,z,B⟩:=hk;exact m.lt id o k j z B
theorem Mem.put(m:Mem Bw w0 ρ φ h w){w':World}(E:QJ)(j:Nat)(o1:Obj)(u1:Value)(Y:Nat→Prop)(row:QJ)
  (hg:w.grownBy w' row)
  (h0:∀k,row=some k→∃i o,E=some i∧h i=some o∧o.live=true∧φ i k)
  (a5:ρ j=none∨(E=some j∧ρ j=some u1))
  (a7:o1.live=true→∀k,Y k→k<w'.heap.size)
  (hb:o1.live=true→∀k,Y k→w.heap.size≤k∨∃i o,E=some i∧h i=some o∧o.live=true∧φ i k)
  (ho:∀F' ρ',(∀β a v,Fr (own φ h) Bw w β a v→F' β a v)→(∀i u,ρ i=some u→ρ' i=some u)→OR F' ρ' Y w' o1 u1) :
  Mem Bw w0 (bu ρ j (some u1)) (bu φ j Y) (bu (fun i=>if E=some i then none else h i) j (some o1)) w' ∧
  (∀β a v,Fr (own φ h) Bw w β a v→Fr (own (bu φ j Y) (bu (fun i=>if E=some i then none else h i) j (some o1))) Bw w' β a v) ∧
  (∀i u,ρ i=some u→bu ρ j (some u1) i=some u):=by
 have a1:∀i u,ρ i=some u→bu ρ j (some u1) i=some u:=fun i u hi=>by
  grind (splits:=6) (ematch:=4) [av,aD]
 have a3:∀i,i≠j→bu ρ j (some u1) i=ρ i:=fun i e=>aD _ _ e
 have z:∀i,i≠j→bu φ j Y i=φ i:=fun i e=>aD _ _ e
 have B:∀i o,i≠j→bu (fun i=>if E=some i then none else h i) j (some o1) i=some o→h i=some o∧E≠some i:=fun i o e hi=>by simp_all [aD]
 have Z:∀k,own (bu φ j Y) (bu (fun i=>if E=some i then none else h i) j (some o1)) k→own φ h k∨w.heap.size≤k:=by
  rintro k ⟨id,o,C,L,M⟩;by_cases e:id=j
  ·subst e;rw[av]at C M;cases C;rcases hb L k M with N | ⟨i,o,_,D,O,V⟩
   ·exact .inr N
   ·exact .inl ⟨i,o,D,O,V⟩
  ·rw[z _ e]at M;exact .inl ⟨id,o,(B _ _ e C).1,L,M⟩
 have a2:∀k,k<w.heap.size→¬own φ h k→w'.heap[k]? = w.heap[k]? :=fun k hk hn =>
  hg.block k hk fun e=>by obtain⟨i,o,_,D,O,V⟩:=h0 k e.symm;exact hn ⟨i,o,D,O,V⟩
 have hF:∀β a v,Fr (own φ h) Bw w β a v→Fr (own (bu φ j Y) (bu (fun i=>if E=some i then none else h i) j (some o1))) Bw w' β a v :=
  fun β a v=>Fr.LP a2 Z β a v
 have I:∀id o k,id≠j→h id=some o→E≠some id→o.live=true→φ id k→¬(∃i o,E=some i∧h i=some o∧o.live=true∧φ i k):=by rintro id o k e J D O V ⟨i,o',r1,r2,r3,r4⟩;have:=m.dj id i o o' k J O r2 r3 V r4;subst this;exact D r1
 refine⟨⟨fun id o a6=>?_,fun id o k C L h3=>?_,fun id X o o' k C L h3 M N h6=>?_,m.bw,fun k hk a4=>?_,?_,?_⟩,hF,a1⟩
 ·by_cases e:id=j
  ·simp_all [av]
  ·obtain⟨J,D⟩:=B _ _ e a6;obtain⟨u,O,V⟩:=m.ob id o J;refine⟨u,by rw[a3 _ e];exact O,?_⟩;rw[z _ e];refine OR.mono hF a1 (fun _ h=>h) (fun hl k hk=>?_) V;refine hg.block k (m.lt id o k J hl hk) fun er=>?_
   exact I id o k e J D hl hk (h0 k er.symm)
 ·by_cases e:id=j
  ·simp_all [av]
  ·rw[z _ e]at h3;exact Nat.lt_of_lt_of_le (m.lt id o k (B _ _ e C).1 L h3) hg.size
 ·by_cases e:id=j <;> by_cases e':X=j
  ·rw[e,e']
  ·subst e;rw[av]at C N;cases C;rw[z _ e']at h6;obtain⟨J,D⟩:=B _ _ e' h3;rcases hb L k N with h9 | h9
   ·have:=m.lt X o' k J M h6;omega
   ·exact absurd h9 (I X o' k e' J D M h6)
  ·subst e';rw[av]at h3 h6;cases h3;rw[z _ e]at N;obtain⟨J,D⟩:=B _ _ e C;rcases hb M k h6 with h9 | h9
   ·have:=m.lt id o k J L N;omega
   ·exact absurd h9 (I id o k e J D L N)
  ·rw[z _ e]at N;rw[z _ e']at h6;exact m.dj id X o o' k (B _ _ e C).1 L (B _ _ e' h3).1 M N h6
 ·rcases Z k hk with C | C
  ·exact m.ow k C a4
  ·have:=w0.lt k a4;have:=m.kp.size;omega
 ·exact m.kp.grown hg (fun k hk=>by
   obtain⟨i,o,_,D,O,V⟩:=h0 k hk;exact m.ow k ⟨i,o,D,O,V⟩)
 ·exact fun i u hi=>a1 i u (m.pk i u hi)
theorem lT{F F':Bool→Addr→Value→Prop}{ρ':Nat→QW}{A:Ty}{xs:List A.den}{u:Value}{w:World}{e:TypeId}{cells:QY}
  (f:w.ownsRow 0 e A.size u xs.length cells) (j:∀i (h:i<xs.length),ai (F false) A xs[i] (fun k v=>cells[i*A.size+k]? = some v))
  (β:Bool) (q:∀a v,F false a v→F' β a v) (z:∀a v,dH u=some a.block→w.cell? a=some v→F' β a v):V F' ρ' (.p β (.slice A) xs) u:=by
 simp only[V,ai];refine⟨rfl,?_⟩;rcases f.2 with⟨rfl,hn⟩ | ⟨g,cap,B,rfl,C⟩
 ·grind
 ·refine⟨_,_,_,rfl,⟨rfl,C.2.2.1⟩,fun i hi=>⟨_,rfl,ai.mono q (fun k v hk=>?_) (j i hi)⟩⟩;refine z _ _ (by simp only[dH,Addr.add];split <;> rfl) (f.cells (g:=g) rfl _ _ hk)
theorem Mem.freeze(m:Mem Bw w0 ρ φ h w){i:Nat}{te:TypeId}{A:Ty}{xs:List A.den}(hi:h i=some (.arr te A xs)):
  Mem Bw w0 ρ φ (bu h i (some (.fz A xs))) w∧(∀β a v,Fr (own φ h) Bw w β a v→Fr (own φ (bu h i (some (.fz A xs)))) Bw w β a v):=by
 have D:∀id o,id≠i→bu h i (some (.fz A xs)) id=some o→h id=some o:=fun id o e B=>by rwa [aD _ _ e]at B
 have C:∀id o,bu h i (some (.fz A xs)) id=some o→o.live=true→id≠i:=fun id o j z e=>by
  grind (splits:=6) (ematch:=4) [av,Obj.live]
 have E:∀k,own φ (bu h i (some (.fz A xs))) k→own φ h k:=by rintro k ⟨id,o,j,z,J⟩;exact⟨id,o,D _ _ (C _ _ j z) j,z,J⟩
 have N:∀β a v,Fr (own φ h) Bw w β a v→Fr (own φ (bu h i (some (.fz A xs)))) Bw w β a v :=
  fun β a v h=>⟨fun D=>h.1 (E _ D),h.2⟩
 refine⟨⟨fun id o B=>?_,fun id o k j z L=>m.lt id o k (D _ _ (C _ _ j z) j) z L,fun id I o O k j z L J h5 h6 =>
  m.dj id I o O k (D _ _ (C _ _ j z) j) z (D _ _ (C _ _ L J) L) J h5 h6,m.bw,fun k hk=>m.ow k (E k hk),m.kp,m.pk⟩,N⟩
 by_cases e:id=i
 ·subst e;rw[av]at B;cases B;obtain⟨u,j,z⟩:=m.ob id _ hi;refine⟨u,j,?_⟩;obtain⟨Y,_,cells,L,J⟩:=z;refine lT (ρ':=ρ) L J false (fun a v h=>N _ _ _ h) fun a v hb hc=>⟨fun V=>?_,fun _ X=>?_,World.fM hc⟩
  ·obtain⟨I,O,Z,q2,q4⟩:=V;have M:=C _ _ Z q2;exact M (m.dj I id O _ a.block (D _ _ M Z) q2 hi rfl q4 (Y _ hb))
  ·exact m.ow a.block ⟨id,_,hi,rfl,Y _ hb⟩ (m.bw _ X)
 ·obtain⟨u,j,z⟩:=m.ob id o (D _ _ e B);exact⟨u,j,OR.mono N (fun _ _ h=>h) (fun _ h=>h) (fun _ _ _=>rfl) z⟩
theorem JW{F:Bool→Addr→Value→Prop}{ρ ρ':Nat→QW}{S:Nat→Prop}{w:World}{z:TypeId}{e:QK}{u:Value}(h:OR F ρ S w (.bytes z e) u):
  V (fun _ a v=>w.cell? a=some v) ρ' (.p false (.slice (.int .u8)) e) u:=by
 simp only[V];refine⟨rfl,?_⟩;rcases h with⟨rfl,rfl⟩ | ⟨g,cap,f,mk,rfl,I,B,J,C,L,D⟩
 ·exact⟨none,0,0,rfl,⟨rfl,Nat.le_refl _⟩,fun j q=>absurd q (by simp)⟩
 ·refine⟨some ⟨g,0,none⟩,e.length,cap,rfl,⟨rfl,C⟩,fun j q=>⟨_,rfl,?_⟩⟩;simp only[ai];have E:((⟨g,0,none⟩:Addr).add (j*Ty.size (.int .u8)+0))=⟨g,j,none⟩:=by
   unfold Addr.add;simp only[Ty.size];by_cases A:j=0
   ·subst A;simp
   ·simp[A]
  rw[E,cell_of_row w g j f z mk B];exact D j q
theorem Mem.Gl(m:Mem Bw w0 ρ φ h w){i:Nat}{B:TypeId}{xs:QK}(hi:h i=some (.arr B (.int .u8) xs)):
  Mem Bw w0 ρ φ (bu h i (some (.bytes B xs))) w∧(∀β a v,Fr (own φ h) Bw w β a v→Fr (own φ (bu h i (some (.bytes B xs)))) Bw w β a v):=by
 obtain⟨u,O,V,h0,cells,X,Y⟩:=m.ob i _ hi;have D:bu ρ i (some u)=ρ:=by
  grind (splits:=6) (ematch:=4) [av,aD]
 have C:bu φ i (φ i)=φ:=by
  grind (splits:=6) (ematch:=4) [av,aD]
 have L:bu (fun j=>if some i=some j then none else h j) i (some (Obj.bytes B xs))=bu h i (some (.bytes B xs)):=by
  grind (splits:=6) (ematch:=4) [av,aD]
 obtain⟨M,N,_⟩:=m.put (w':=w) (some i) i (.bytes B xs) u (φ i) none ⟨rfl,rfl,rfl,Nat.le_refl _,fun _ _ _=>rfl⟩ (fun k hk=>by cases hk) (.inr ⟨rfl,O⟩)
  (fun _ k hk=>m.lt i _ k hi rfl hk) (fun _ k hk=> .inr ⟨i,_,rfl,hi,rfl,hk⟩)
  (fun F' ρ' hF Z=>by
   rcases X.2 with⟨rfl,hn⟩ | ⟨g,cap,E,rfl,_,hg,I,a1,J,z⟩
   ·exact .inl ⟨rfl,List.eq_nil_of_length_eq_zero hn⟩
   ·refine .inr ⟨g,cap,E,(0,0),rfl,V g rfl,hg,.inl rfl,I,by rw[J];simp[Ty.size],fun j hj=>?_⟩;have:=Y j hj;simp only[ai,Ty.size,Nat.mul_one,Nat.add_zero]at this;rw[←z,List.getElem?_take]at this;split at this
    ·rw[←Array.getElem?_toList];exact this
    ·cases this)
 rw[D,C,L]at M;rw[C,L]at N;exact⟨M,N⟩
theorem Mem.KR(m:Mem Bw w0 ρ φ h w){i:Nat}{te:TypeId}{xs:QK}(hi:h i=some (.bytes te xs)):
  Mem Bw w0 ρ φ (bu h i (some (.fz (.int .u8) xs))) w∧(∀β a v,Fr (own φ h) Bw w β a v→Fr (own φ (bu h i (some (.fz (.int .u8) xs)))) Bw w β a v):=by
 have E:∀id o,id≠i→bu h i (some (.fz (.int .u8) xs)) id=some o→h id=some o:=fun id o e C=>by rwa [aD _ _ e]at C
 have D:∀id o,bu h i (some (.fz (.int .u8) xs)) id=some o→o.live=true→id≠i:=fun id o z B e=>by
  grind (splits:=6) (ematch:=4) [av,Obj.live]
 have I:∀k,own φ (bu h i (some (.fz (.int .u8) xs))) k→own φ h k:=by rintro k ⟨id,o,z,B,M⟩;exact⟨id,o,E _ _ (D _ _ z B) z,B,M⟩
 have hF:∀β a v,Fr (own φ h) Bw w β a v→Fr (own φ (bu h i (some (.fz (.int .u8) xs)))) Bw w β a v :=
  fun β a v h=>⟨fun E=>h.1 (I _ E),h.2⟩
 refine⟨⟨fun id o C=>?_,fun id o k z B N=>m.lt id o k (E _ _ (D _ _ z B) z) B N,fun id J o O k z B N M h5 h6 =>
  m.dj id J o O k (E _ _ (D _ _ z B) z) B (E _ _ (D _ _ N M) N) M h5 h6,m.bw,fun k hk=>m.ow k (I k hk),m.kp,m.pk⟩,hF⟩
 by_cases e:id=i
 ·subst e;rw[av]at C;cases C;obtain⟨u,z,B⟩:=m.ob id _ hi;refine⟨u,z,?_⟩;simp only[OR,V];refine⟨rfl,?_⟩;rcases B with⟨rfl,rfl⟩ | ⟨g,cap,X,mk,rfl,hs,r1,r2,r3,r5,r6⟩
  ·exact⟨none,0,0,rfl,⟨rfl,Nat.le_refl _⟩,fun j Y=>absurd Y (by simp)⟩
  ·refine⟨some ⟨g,0,none⟩,xs.length,cap,rfl,⟨rfl,r3⟩,fun j Y=>⟨_,rfl,?_⟩⟩;simp only[ai];have ec:w.cell? (⟨g,j,none⟩:Addr)=some (.int .u8 xs[j]):=by rw[cell_of_row w g j X te mk r1];exact r6 j Y
   have ea:((⟨g,0,none⟩:Addr).add (j*Ty.size (.int .u8)+0))=⟨g,j,none⟩:=by
    unfold Addr.add;simp only[Ty.size];by_cases e0:j=0
    ·subst e0;simp
    ·simp[e0]
   rw[ea];refine⟨fun Z=>?_,fun _ a1=>m.ow g ⟨id,_,hi,rfl,hs⟩ (m.bw _ a1),ec⟩;obtain⟨J,O,q1,q2,q4⟩:=Z;have L:=D _ _ q1 q2;exact L (m.dj J id O _ g (E _ _ L q1) q2 hi rfl q4 hs)
 ·obtain⟨u,z,B⟩:=m.ob id o (E _ _ e C);exact⟨u,z,OR.mono hF (fun _ _ h=>h) (fun _ h=>h) (fun _ _ _=>rfl) B⟩
theorem uW{G:Addr→Value→Prop}{A:Ty}{xs:List A.den}{v:Value}{g:Nat→Value→Prop}(h:ai G (.slice A) xs (fun _ u=>u=v))(f:g 0 v):ai G (.slice A) xs g:=by
 obtain⟨j,l,c,e,hl,h⟩:=h;exact⟨j,l,c,by rw[e];exact f,hl,h⟩
theorem Mem.Hk(m:Mem Bw w0 ρ φ h w){i:Nat}{te e2:TypeId}{A:Ty}{z:List (List A.den)}(hi:h i=some (.mat te e2 A z none)):
  Mem Bw w0 ρ φ (bu h i (some (.fz (.slice A) z))) w∧(∀β a v,Fr (own φ h) Bw w β a v→Fr (own φ (bu h i (some (.fz (.slice A) z)))) Bw w β a v):=by
 have J:∀id o,id≠i→bu h i (some (.fz (.slice A) z)) id=some o→h id=some o:=fun id o e C=>by rwa [aD _ _ e]at C
 have D:∀id o,bu h i (some (.fz (.slice A) z)) id=some o→o.live=true→id≠i:=fun id o B E e=>by
  grind (splits:=6) (ematch:=4) [av,Obj.live]
 have L:∀k,own φ (bu h i (some (.fz (.slice A) z))) k→own φ h k:=by rintro k ⟨id,o,B,E,M⟩;exact⟨id,o,J _ _ (D _ _ B E) B,E,M⟩
 have Y:∀β a v,Fr (own φ h) Bw w β a v→Fr (own φ (bu h i (some (.fz (.slice A) z)))) Bw w β a v :=
  fun β a v h=>⟨fun J=>h.1 (L _ J),h.2⟩
 have hin:∀a v,φ i a.block→w.cell? a=some v→Fr (own φ (bu h i (some (.fz (.slice A) z)))) Bw w false a v:=fun a v hb O =>
  ⟨fun Z=>by
   obtain⟨I,o',q1,q2,q4⟩:=Z;have X:=D _ _ q1 q2;exact X (m.dj I i o' _ a.block (J _ _ X q1) q2 hi rfl q4 hb),fun _ a1=>m.ow a.block ⟨i,_,hi,rfl,hb⟩ (m.bw _ a1),World.fM O⟩
 refine⟨⟨fun id o C=>?_,fun id o k B E N=>m.lt id o k (J _ _ (D _ _ B E) B) E N,fun id I o o' k B E N M h5 h6 =>
  m.dj id I o o' k (J _ _ (D _ _ B E) B) E (J _ _ (D _ _ N M) N) M h5 h6,m.bw,fun k hk=>m.ow k (L k hk),m.kp,m.pk⟩,Y⟩
 by_cases e:id=i
 ·subst e;rw[av]at C;cases C;obtain⟨u,B,hs,_,_,cells,N,M,_⟩:=m.ob id _ hi;refine⟨u,B,?_⟩;refine lT (ρ':=ρ) (F:=Fr (own φ (bu h id (some (.fz (.slice A) z)))) Bw w) (A:= .slice A) (e:=te) (cells:=cells) N (fun j hj=>?_) false (fun _ _ h=>h) (fun a v hb O=>hin a v (hs _ hb) O);obtain⟨v,p1,_,p3,_⟩:=M j hj;obtain⟨r1,rc,r2,r3⟩:=p3 (fun k I e=>by cases e);have:=lT (F:=Fr (own φ h) Bw w) (F':=Fr (own φ (bu h id (some (.fz (.slice A) z)))) Bw w) (ρ':=ρ) r2 r3 false (fun a v h=>Y _ _ _ h) (fun a v hb O=>hin a v (r1 _ hb).1 O);simp only[V]at this;refine uW this.2 ?_;show cells[j*1+0]? = some v;rw[Nat.mul_one,Nat.add_zero];exact p1
 ·obtain⟨u,B,E⟩:=m.ob id o (J _ _ e C);exact⟨u,B,OR.mono Y (fun _ _ h=>h) (fun _ h=>h) (fun _ _ _=>rfl) E⟩
theorem Mem.sJ(m:Mem Bw w0 ρ φ h w){h':Nat→Qz}{φ':Nat→Nat→Prop}{ρ':Nat→QW}(I:∀i u,ρ i=some u→ρ' i=some u)(G:Nat→Prop)
  (hout:∀i,¬G i→h' i=h i∧φ' i=φ i)
  (hin:∀i o,G i→h' i=some o→(∃u,ρ' i=some u∧∀F',(∀β a v,Fr (own φ h) Bw w β a v→F' β a v)→OR F' ρ' (φ' i) w o u)∧(o.live=true→∀k,φ' i k→∃j z,G j∧h j=some z∧z.live=true∧φ j k))
  (Z:∀i j o z k,G i→G j→h' i=some o→o.live=true→h' j=some z→z.live=true→φ' i k→φ' j k→i=j) :
  Mem Bw w0 ρ' φ' h' w∧(∀β a v,Fr (own φ h) Bw w β a v→Fr (own φ' h') Bw w β a v):=by
 have B:∀k,own φ' h' k→own φ h k:=by
  rintro k ⟨id,o,C,D,J⟩;by_cases g:G id
  ·obtain⟨j,z,_,q2,q3,q4⟩:=(hin id o g C).2 D k J;exact⟨j,z,q2,q3,q4⟩
  ·obtain⟨L,M⟩:=hout id g;exact⟨id,o,by rw[←L];exact C,D,by rw[←M];exact J⟩
 have hF:∀β a v,Fr (own φ h) Bw w β a v→Fr (own φ' h') Bw w β a v:=fun β a v h=>⟨fun x=>h.1 (B _ x),h.2⟩
 have a1:∀i j o z k,G i→¬G j→h' i=some o→o.live=true→h' j=some z→z.live=true→φ' i k→φ' j k→False:=fun i j o z k Y O C D E J V N=>by obtain⟨j0,o0,p1,p2,p3,p4⟩:=(hin i o Y C).2 D k V;obtain⟨L,M⟩:=hout j O;rw[L]at E;rw[M]at N;have:=m.dj _ _ _ _ k p2 p3 E J p4 N;subst this;exact O p1
 refine⟨⟨fun id o X=>?_,fun id o k C D E=>m.rO (B k ⟨id,o,C,D,E⟩),fun i j o z k C D E J V N=>?_,m.bw,fun k hk=>m.ow k (B k hk),m.kp,fun i u hi=>I i u (m.pk i u hi)⟩,hF⟩
 ·by_cases g:G id
  ·grind
  ·obtain⟨L,M⟩:=hout id g;rw[L]at X;obtain⟨u,q1,q2⟩:=m.ob id o X;exact⟨u,I _ _ q1,by rw[M];exact OR.mono hF I (fun _ h=>h) (fun _ _ _=>rfl) q2⟩
 ·by_cases Y:G i <;> by_cases O:G j
  ·exact Z i j o z k Y O C D E J V N
  ·grind
  ·grind
  ·obtain⟨L,M⟩:=hout i Y;obtain⟨e3,e4⟩:=hout j O;rw[L]at C;rw[e3]at E;rw[M]at V;rw[e4]at N;exact m.dj i j o z k C D E J V N
theorem Mem.xX(m:Mem Bw w0 ρ φ h w){i j k:Nat}{te D:TypeId}{A:Ty}{z:List (List A.den)}{ys:List A.den}(hi:h i=some (.mat te D A z (some (k,j))))(E:h j=some (.arr D A ys)):
  Mem Bw w0 ρ (bu φ i (fun b=>φ i b∨φ j b)) (bu (bu h j none) i (some (.mat te D A (z.set k ys) none))) w ∧
  (∀β a v,Fr (own φ h) Bw w β a v→Fr (own (bu φ i (fun b=>φ i b∨φ j b)) (bu (bu h j none) i (some (.mat te D A (z.set k ys) none)))) Bw w β a v):=by
 have I:i≠j:=fun e=>by subst e;rw[hi]at E;cases E
 refine m.sJ (fun _ _ h=>h) (fun x=>x=i∨x=j) (fun x L=>⟨?_,?_⟩) (fun x o L ho=>?_) (fun x y o o' b L hy h1 h2 M N h5 h6=>?_)
 ·simp_all [aD]
 ·rw[aD _ _ (fun e=>L (.inl e))]
 ·rcases L with rfl | rfl
  ·rw[av]at ho;cases ho;rw[av];obtain⟨u,h1,hs,h0,hk,cells,M,N,h5⟩:=m.ob x _ hi;obtain⟨v,g1,O,_,rc,g2,g3⟩:=m.ob j _ E;have a5:=hk k j rfl;refine⟨⟨u,h1,fun F' hF=>⟨fun b hb=> .inl (hs b hb),h0,fun _ _ e=>(by cases e),cells,by rw[List.length_set];exact M,fun r V=>?_,fun r X vr a1 b J _ _ e1 D b1 b2=>?_⟩⟩,fun _ b hb=>?_⟩
   ·rw[List.length_set]at V;obtain⟨vr,Y,p2,p3,p4⟩:=N r V;refine⟨vr,Y,p2,fun _=>?_,fun id e=>by cases e⟩;by_cases e:r=k
    ·subst e;have:=p4 j rfl;rw[g1]at this;cases this;simp only[List.getElem_set_self];refine⟨fun b hb=>⟨.inr (O b hb),fun a2=>?_⟩,rc,g2,fun q hq=>ai.mono (hF _) (fun _ _ h=>h) (g3 q hq)⟩;exact I (m.dj x j _ _ b hi rfl E rfl (hs b a2) (O b hb))
    ·rw[List.getElem_set_ne (Ne.symm e)];exact(p3 (fun Z B C=>by cases C;exact e)).mono hF (fun _ h=> .inl h) (fun _ _=>rfl)
   ·-- two a4
    have V:r<z.length:=by have:=(List.getElem?_eq_some_iff.1 e1).1;have:=M.1;omega
    have a3:X<z.length:=by have:=(List.getElem?_eq_some_iff.1 D).1;have:=M.1;omega
    obtain⟨a6,Y,p2,p3,p4⟩:=N r V;obtain⟨a7,q1,q2,q3,q4⟩:=N X a3;rw[e1]at Y;rw[D]at q1;cases Y;cases q1;by_cases c1:r=k
    ·subst c1;have:=p4 j rfl;rw[g1]at this;cases this;have c2:=q3 (fun Z B C=>by cases C;exact Ne.symm J);exact I (m.dj x j _ _ b hi rfl E rfl (c2.1 b b2).1 (O b b1))
    ·by_cases c2:X=k
     ·subst c2;have:=q4 j rfl;rw[g1]at this;cases this;have c3:=p3 (fun Z B C=>by cases C;exact J);exact I (m.dj x j _ _ b hi rfl E rfl (c3.1 b b1).1 (O b b2))
     ·exact h5 r X vr a1 b J (fun Z B C=>by cases C;exact c1) (fun Z B C=>by cases C;exact c2) e1 D b1 b2
   ·rcases hb with hb | hb
    ·exact⟨x,_,.inl rfl,hi,rfl,hb⟩
    ·exact⟨j,_,.inr rfl,E,rfl,hb⟩
  ·grind (splits:=6) (ematch:=4) [aD,av]
 ·grind (splits:=6) (ematch:=4) [aD,av]
theorem Mem.KO(m:Mem Bw w0 ρ φ h w){i j k:Nat}{E B:TypeId}{A:Ty}{z:List (List A.den)}(hi:h i=some (.mat E B A z none))(hj:ρ j=none)(hk:k<z.length):
  ∃v cells u,ρ i=some u∧w.ownsRow 0 E 1 u z.length cells∧cells[k]? = some v∧(∃ad n c,v = .slice ad n c) ∧
  Mem Bw w0 (bu ρ j (some v)) (bu (bu φ i (fun b=>φ i b∧dH v≠some b)) j (fun b=>dH v=some b)) (bu (bu h i (some (.mat E B A z (some (k,j))))) j (some (.arr B A z[k]))) w ∧
  (∀β a v',Fr (own φ h) Bw w β a v'→Fr (own (bu (bu φ i (fun b=>φ i b∧dH v≠some b)) j (fun b=>dH v=some b)) (bu (bu h i (some (.mat E B A z (some (k,j))))) j (some (.arr B A z[k])))) Bw w β a v') ∧
  (∀i u,ρ i=some u→bu ρ j (some v) i=some u):=by
 obtain⟨u,M,hs,h0,_,cells,h3,h4,h5⟩:=m.ob i _ hi;have I:i≠j:=fun e=>by subst e;rw[M]at hj;cases hj
 obtain⟨v,p1,p2,p3,_⟩:=h4 k hk;obtain⟨r1,rc,r2,r3⟩:=p3 (fun _ _ e=>by cases e);have C:∀x y,ρ x=some y→bu ρ j (some v) x=some y:=fun x y e=>by
  grind (splits:=6) (ematch:=4) [aD]
 refine⟨v,cells,u,M,h3,p1,p2,?_⟩;have key:=m.sJ (h':=bu (bu h i (some (.mat E B A z (some (k,j))))) j (some (.arr B A z[k]))) (φ':=bu (bu φ i (fun b=>φ i b∧dH v≠some b)) j (fun b=>dH v=some b)) C (fun x=>x=i∨x=j)
  (fun x D=>⟨by rw[aD _ _ (fun e=>D (.inr e)),aD _ _ (fun e=>D (.inl e))],by rw[aD _ _ (fun e=>D (.inr e)),aD _ _ (fun e=>D (.inl e))]⟩) (fun x o D J=>?_) (fun x y o o' b D hy q1 q2 q3 q4 q5 q6=>?_)
 ·exact⟨key.1,key.2,C⟩
 ·rcases D with rfl | rfl
  ·rw[aD _ _ I,av]at J;cases J;rw[show bu (bu φ x (fun b=>φ x b∧dH v≠some b)) j (fun b=>dH v=some b) x=fun b=>φ x b∧dH v≠some b by rw[aD _ _ I,av]];refine⟨⟨u,C _ _ M,fun F' N=>⟨fun b hb=>⟨hs b hb,fun e=>(r1 b e).2 hb⟩,h0,fun _ _ e=>(by cases e;exact hk),cells,h3,fun r hr=>?_,fun r r' L O b V s1 s2=>?_⟩⟩,fun _ b hb=>⟨x,_,.inl rfl,hi,rfl,hb.1⟩⟩
   ·obtain⟨L,t1,t2,t3,_⟩:=h4 r hr;refine⟨L,t1,t2,fun X=>?_,fun id e=>?_⟩
    ·have Y:r≠k:=X k j rfl;obtain⟨a1,a2⟩:=t3 (fun _ _ e=>by cases e);refine Bx.mono N (fun _ h=>h) (fun _ _=>rfl) (w:=w) (S:=fun b=>φ x b∧dH v≠some b) ⟨fun b hb=>⟨⟨(a1 b hb).1,?_⟩,(a1 b hb).2⟩,a2⟩;exact h5 r k L v b Y (fun _ _ e=>by cases e) (fun _ _ e=>by cases e) t1 p1 hb
    ·simp_all [av]
   ·exact h5 r r' L O b V (fun _ _ e=>by cases e) (fun _ _ e=>by cases e)
  ·rw[av]at J;cases J;rw[show bu (bu φ i (fun b=>φ i b∧dH v≠some b)) x (fun b=>dH v=some b) x=fun b=>dH v=some b from av _ _ _];exact⟨⟨v,av _ _ _,fun F' N=>⟨fun b hb=>hb,h0,rc,r2,fun q hq=>ai.mono (N _) (fun _ _ h=>h) (r3 q hq)⟩⟩,fun _ b hb=>⟨i,_,.inl rfl,hi,rfl,(r1 b hb).1⟩⟩
 ·grind (splits:=6) (ematch:=4) [aD,av]
/-! ### Rows of Z -/
theorem fW{v:Value}(h:v.oneCell'=true):v.cells = #[v]:=by
 cases v <;> first | rfl | simp[Value.oneCell']at h
def yl(e:TypeId):Bool→Nd→Obj
 | false,x=> .mpq x.1 x.2.1
 | true,x=> .arr e (.int .u8) x.2.2
def FB(q:TypeId)(f:Bool)(o:Obj)(x:Nd):Option Nd :=
 match f,o with
 | false,.mpq b j=>some (b,j,x.2.2)
 | false,.mpo (.int .i32) (.int .i64) j=>some (true,j,x.2.2)
 | true,.arr e (.int .u8) u=>if e=q then some (x.1,x.2.1,u)else none
 | _,_=>none
theorem J3{G:Addr→Value→Prop}{e:QK}{cells:QY}(hl:cells.length=e.length*1)(h:∀i (h:i<e.length),ai G (.int .u8) e[i] (fun k v=>cells[i*1+k]? = some v)):cells=e.map (Value.int .u8):=by
 refine List.ext_getElem? fun i=>?_
 rcases Nat.lt_or_ge i e.length with hi | hi
 ·simp_all [ai,Nat.mul_one,Nat.add_zero]
 ·simp_all
theorem Gm{G:Addr→Value→Prop}{xs:QK}:∀i (h:i<xs.length),ai G (.int .u8) xs[i] (fun k v=>(xs.map (Value.int .u8))[i*1+k]? = some v):=fun i hi=>by
 simp_all [ai,Nat.mul_one,Nat.add_zero]
theorem Hm{F:Bool→Addr→Value→Prop}{S:Nat→Prop}{w:World}{e:TypeId}{v:Value}{f:Bool}{x:Nd}(h:Ao S w e v f x)(j:Bt f v):OR F ρ (fun b=>dH v=some b) w (yl e f x) v:=by
 cases f with
 | false=>exact⟨fun _ h=>h,j,h.2⟩
 | true=>exact⟨fun _ h=>h,by decide,_,h.2,Gm⟩
theorem C3{F:Bool→Addr→Value→Prop}{S:Nat→Prop}{j:Qq}{v:Value}(h:OR F ρ S w (.mpo (.int .i32) (.int .i64) j) v):(∀k,dH v=some k→S k)∧EJ w true j v:=by
 obtain⟨r,u,clock,rfl,A,B,⟨M,C⟩,z,D,E⟩:=h;refine⟨fun k e=>by cases e;exact A,r,u,clock,rfl,B,C,z,List.ext_getElem? fun i=>?_,D⟩;have hl:u.size=j.length:=by have:=congrArg List.length z;simpa using this
 rcases Nat.lt_or_ge i j.length with hi | hi
 ·obtain⟨e,I,q,N,J,_⟩:=E i hi;simp only[ai]at q;have f:=J rfl;have L:=fW f;rw[L]at q;simp at q;rw[List.getElem?_map,List.getElem?_map,List.getElem?_eq_getElem hi,Array.getElem?_toList,I];simp only[Option.map_some,q]
 ·simp_all
theorem I5{F:Bool→Addr→Value→Prop}{S:Nat→Prop}{w:World}{q:TypeId}{v:Value}{f:Bool}{o:Obj}{x y:Nd}(h:FB q f o x=some y)(u:OR F ρ S w o v):
  Ao S w q v f y∧o.live=true∧∀g,g≠f→∀S w v,Ao S w q v g x→Ao S w q v g y:=by
 unfold FB at h;split at h
 ·cases h;refine⟨⟨u.1,u.2.2⟩,rfl,fun g j=>?_⟩;cases g
  ·exact absurd rfl j
  ·exact fun _ _ _ h=>h
 ·cases h;refine⟨C3 u,rfl,fun g j=>?_⟩;cases g
  ·exact absurd rfl j
  ·exact fun _ _ _ h=>h
 ·split at h
  ·rename_i e;subst e;cases h;obtain⟨A,_,cells,z,B⟩:=u;refine⟨⟨A,?_⟩,rfl,fun g j=>?_⟩
   ·rw[←J3 z.1 B];exact z
   ·cases g
    ·exact fun _ _ _ h=>h
    ·exact absurd rfl j
  ·cases h
 ·cases h
theorem Mem.Kw(m:Mem Bw w0 ρ φ h w){i j k:Nat}{f:Bool}{te I:TypeId}{J:List Nd}{o:Obj}{y:Nd}(hi:h i=some (.nds te I J (some (k,f,j))))(hj:h j=some o)(a1:i≠j)(hy:FB I f o (J.getD k Nd.z)=some y):
  Mem Bw w0 ρ (bu φ i (fun b=>φ i b∨φ j b)) (bu (bu h j none) i (some (.nds te I (J.set k y) none))) w ∧
  (∀β a v,Fr (own φ h) Bw w β a v→Fr (own (bu φ i (fun b=>φ i b∨φ j b)) (bu (bu h j none) i (some (.nds te I (J.set k y) none)))) Bw w β a v):=by
 obtain⟨vj,g1,gj⟩:=m.ob j _ hj;obtain⟨V,N,p2⟩:=I5 hy gj;have L:∀b,φ i b→φ j b→False:=fun b X h2=>a1 (m.dj i j _ _ b hi rfl hj N X h2)
 refine m.sJ (fun _ _ h=>h) (fun x=>x=i∨x=j) (fun x Y=>⟨?_,?_⟩) (fun x o' Y ho=>?_) (fun x y' o' a7 b Y hy X h2 h3 Z h5 h6=>?_)
 ·simp_all [aD]
 ·rw[aD _ _ (fun e=>Y (.inl e))]
 ·rcases Y with rfl | rfl
  ·rw[av]at ho;cases ho;rw[av];obtain⟨u,X,hs,hk,cells,h3,Z,h5⟩:=m.ob x _ hi;have a2:=hk k f j rfl;have hout:∀r g,¬(r=k∧g=f)→nJ (some (k,f,j)) r g:=fun r g D k' g' a8 e=>by cases e;exact D
   have B:∀v,cells[k*2+f.toNat]? = some v→v=vj:=fun v O=>by obtain⟨v2,C,_,_,c4⟩:=Z k f a2;have:=c4 j rfl;rw[g1]at this;cases this;rw[C]at O;exact(Option.some.inj O).symm
   refine⟨⟨u,X,fun F' hF=>⟨fun b hb=> .inl (hs b hb),fun _ _ _ e=>(by cases e),cells,by rw[List.length_set];exact h3,fun r g M=>?_,fun r g r' g' vr a3 b D _ _ e1 I b1 b2=>?_⟩⟩,fun _ b hb=>?_⟩
   ·rw[List.length_set]at M;obtain⟨vr,C,E,c3,c4⟩:=Z r g M;refine⟨vr,C,E,fun _=>?_,fun id e=>by cases e⟩;by_cases e:r=k∧g=f
    ·obtain⟨rfl,rfl⟩:=e;cases B vr C;simp only[List.getElem_set_self];exact⟨V.mono (fun _ _ h=> .inr h) (fun _ _=>rfl),fun b hb a4=>L b (hs b a4) (by cases g <;> exact V.1 b hb)⟩
    ·obtain⟨d1,d2⟩:=c3 (hout r g e);have d3:=d1.mono (S':=fun b=>φ x b∨φ j b) (fun _ _ h=> .inl h) (fun _ _=>rfl) (w':=w);refine⟨?_,d2⟩;by_cases er:r=k
     ·grind
     ·rw[List.getElem_set_ne (Ne.symm er)];exact d3
   ·-- two parts
    have a6:=h3.1;have M:r<J.length:=by
     grind
    have a5:r'<J.length:=by
     grind
    have hin:∀r g v b,r<J.length→¬(r=k∧g=f)→cells[r*2+g.toNat]? = some v→dH v=some b→φ x b:=fun r g v b M D O hb=>by obtain⟨v2,C,_,c3,_⟩:=Z r g M;rw[C]at O;cases O;have:=(c3 (hout r g D)).1;cases g <;> exact this.1 b hb
    by_cases C:r=k∧g=f
    ·have E:¬(r'=k∧g'=f):=fun E=>D ⟨C.1.trans E.1.symm,C.2.trans E.2.symm⟩
     rw[C.1,C.2]at e1;cases B _ e1;exact L b (hin r' g' a3 b a5 E I b2) (by cases f <;> exact V.1 b b1)
    ·by_cases E:r'=k∧g'=f
     ·rw[E.1,E.2]at I;cases B _ I;exact L b (hin r g vr b M C e1 b1) (by cases f <;> exact V.1 b b2)
     ·grind
   ·rcases hb with hb | hb
    ·exact⟨x,_,.inl rfl,hi,rfl,hb⟩
    ·exact⟨j,_,.inr rfl,hj,N,hb⟩
  ·grind (splits:=6) (ematch:=4) [aD,av]
 ·grind (splits:=6) (ematch:=4) [aD,av]
theorem Mem.LJ(m:Mem Bw w0 ρ φ h w){i j k:Nat}(f:Bool){L D:TypeId}{B:List Nd}(hi:h i=some (.nds L D B none))(Y:ρ j=none)(hk:k<B.length):
  ∃v,Bt f v∧Mem Bw w0 (bu ρ j (some v)) (bu (bu φ i (fun b=>φ i b∧dH v≠some b)) j (fun b=>dH v=some b)) (bu (bu h i (some (.nds L D B (some (k,f,j))))) j (some (yl D f (B.getD k Nd.z)))) w ∧
  (∀β a Z,Fr (own φ h) Bw w β a Z→Fr (own (bu (bu φ i (fun b=>φ i b∧dH v≠some b)) j (fun b=>dH v=some b)) (bu (bu h i (some (.nds L D B (some (k,f,j))))) j (some (yl D f (B.getD k Nd.z))))) Bw w β a Z) ∧
  (∀i u,ρ i=some u→bu ρ j (some v) i=some u):=by
 obtain⟨u,h1,hs,_,cells,h3,h4,h5⟩:=m.ob i _ hi;have J:i≠j:=fun e=>by subst e;rw[h1]at Y;cases Y
 obtain⟨v,p1,p2,p3,_⟩:=h4 k f hk;have C:∀r g,nJ none r g:=fun _ _ _ _ _ e=>by cases e
 obtain⟨r1,r2⟩:=p3 (C _ _);have hin:∀b,dH v=some b→φ i b:=by cases f <;> exact r1.1
 have E:∀x y,ρ x=some y→bu ρ j (some v) x=some y:=fun x y e=>by
  grind (splits:=6) (ematch:=4) [aD]
 rw[show B.getD k Nd.z=B[k] by simp[hk]];refine⟨v,p2,?_⟩;have key:=m.sJ (h':=bu (bu h i (some (.nds L D B (some (k,f,j))))) j (some (yl D f B[k]))) (φ':=bu (bu φ i (fun b=>φ i b∧dH v≠some b)) j (fun b=>dH v=some b)) E (fun x=>x=i∨x=j)
  (fun x I=>⟨by rw[aD _ _ (fun e=>I (.inr e)),aD _ _ (fun e=>I (.inl e))],by rw[aD _ _ (fun e=>I (.inr e)),aD _ _ (fun e=>I (.inl e))]⟩) (fun x o I M=>?_) (fun x y o o' b I hy q1 q2 q3 q4 q5 q6=>?_)
 ·exact⟨key.1,key.2,E⟩
 ·rcases I with rfl | rfl
  ·rw[aD _ _ J,av]at M;cases M;rw[show bu (bu φ x (fun b=>φ x b∧dH v≠some b)) j (fun b=>dH v=some b) x=fun b=>φ x b∧dH v≠some b by rw[aD _ _ J,av]];refine⟨⟨u,E _ _ h1,fun F' hF=>⟨fun b hb=>⟨hs b hb,fun e=>r2 b e hb⟩,fun _ _ _ e=>(by cases e;exact hk),cells,h3,fun r g hr=>?_,fun r g r' g' N a3 b a4 s1 s2=>?_⟩⟩,fun _ b hb=>⟨x,_,.inl rfl,hi,rfl,hb.1⟩⟩
   ·obtain⟨N,t1,t2,t3,_⟩:=h4 r g hr;refine⟨N,t1,t2,fun O=>?_,fun id e=>?_⟩
    ·have V:¬(r=k∧g=f):=O k f j rfl;obtain⟨a1,a2⟩:=t3 (C _ _);exact⟨a1.mono (fun b hb X=>⟨X,fun e=>h5 r g k f N v b V (C _ _) (C _ _) t1 p1 hb e⟩) (fun _ _=>rfl),a2⟩
    ·simp_all [av]
   ·grind
  ·rw[av]at M;cases M;rw[show bu (bu φ i (fun b=>φ i b∧dH v≠some b)) x (fun b=>dH v=some b) x=fun b=>dH v=some b from av _ _ _];exact⟨⟨v,av _ _ _,fun F' hF=>Hm r1 p2⟩,fun _ b hb=>⟨i,_,.inl rfl,hi,rfl,hin b hb⟩⟩
 ·grind (splits:=6) (ematch:=4) [aD,av]
theorem Mem.Hx(m:Mem Bw w0 ρ φ h w){i:Nat}{te X:TypeId}{z:List Nd}(hi:h i=some (.nds te X z none)):
  Mem Bw w0 ρ φ (bu h i (some (.fz Gu (z.map (·.2))))) w∧(∀β a v,Fr (own φ h) Bw w β a v→Fr (own φ (bu h i (some (.fz Gu (z.map (·.2)))))) Bw w β a v):=by
 have I:∀id o,id≠i→bu h i (some (.fz Gu (z.map (·.2)))) id=some o→h id=some o:=fun id o e C=>by rwa [aD _ _ e]at C
 have D:∀id o,bu h i (some (.fz Gu (z.map (·.2)))) id=some o→o.live=true→id≠i:=fun id o B E e=>by
  grind (splits:=6) (ematch:=4) [av,Obj.live]
 have J:∀k,own φ (bu h i (some (.fz Gu (z.map (·.2))))) k→own φ h k:=by rintro k ⟨id,o,B,E,L⟩;exact⟨id,o,I _ _ (D _ _ B E) B,E,L⟩
 have hF:∀β a v,Fr (own φ h) Bw w β a v→Fr (own φ (bu h i (some (.fz Gu (z.map (·.2)))))) Bw w β a v :=
  fun β a v h=>⟨fun I=>h.1 (J _ I),h.2⟩
 have M:∀(a:Addr) v,φ i a.block→w.pb a=some v→Fr (own φ (bu h i (some (.fz Gu (z.map (·.2)))))) Bw w false a v:=fun a v hb Y =>
  ⟨fun a6=>by
   obtain⟨N,o',q1,q2,q4⟩:=a6;have Z:=D _ _ q1 q2;exact Z (m.dj N i o' _ a.block (I _ _ Z q1) q2 hi rfl q4 hb),fun _ a7=>m.ow a.block ⟨i,_,hi,rfl,hb⟩ (m.bw _ a7),Y⟩
 refine⟨⟨fun id o C=>?_,fun id o k B E O=>m.lt id o k (I _ _ (D _ _ B E) B) E O,fun id N o o' k B E O L h5 h6 =>
  m.dj id N o o' k (I _ _ (D _ _ B E) B) E (I _ _ (D _ _ O L) O) L h5 h6,m.bw,fun k hk=>m.ow k (J k hk),m.kp,m.pk⟩,hF⟩
 by_cases e:id=i
 ·subst e;rw[av]at C;cases C;obtain⟨u,B,hs,_,cells,O,L,_⟩:=m.ob id _ hi;refine⟨u,B,?_⟩;refine lT (ρ':=ρ) (F:=Fr (own φ (bu h id (some (.fz Gu (z.map (·.2)))))) Bw w) (A:=Gu) (e:=te) (cells:=cells) (by rw[List.length_map];exact O) (fun j hj=>?_) false (fun _ _ h=>h) (fun a v hb Y=>M a v (hs _ hb) (World.fM Y));rw[List.length_map]at hj;obtain⟨v0,a1,⟨r0,a2⟩,a3,_⟩:=L j false hj;obtain⟨v1,b1,b2,b3,_⟩:=L j true hj;obtain⟨⟨a4,a5⟩,_⟩:=a3 (fun _ _ _ e=>by cases e);obtain⟨⟨b4,b5⟩,_⟩:=b3 (fun _ _ _ e=>by cases e);rw[List.getElem_map];refine⟨?_,?_⟩
  ·subst a2;refine⟨r0,a1,?_⟩;cases hb:z[j].1 with
   | false =>
    rw[hb]at a5;obtain⟨e1,X⟩:=a5;cases e1;exact X
   | true =>
    rw[hb]at a5;obtain⟨r,es,clock,e1,X,e3,e4,e5,e6⟩:=a5;cases e1;refine⟨M ⟨r,0,some 0⟩ _ (a4 r rfl) ?_,e6⟩;unfold World.pb LA;simp only[X];congr 2;refine Array.ext' (List.ext_getElem? fun q=>?_);have g1:=congrArg (fun l=>l[q]?) e4;have g2:=congrArg (fun l=>l[q]?) e5;simp only[List.getElem?_map]at g1 g2;simp only[Array.toList_map,List.getElem?_map];cases c1:es.toList[q]? <;> cases c2:z[j].2.1[q]? <;> rw[c1,c2]at g1 g2 <;> simp at g1 g2 ⊢
    exact⟨g1,g2⟩
  ·have:=lT (A:= .int .u8) (xs:=z[j].2.2) (F:=Fr (own φ (bu h id (some (.fz Gu (z.map (·.2)))))) Bw w) (F':=Fr (own φ (bu h id (some (.fz Gu (z.map (·.2)))))) Bw w) (ρ':=ρ) b5 Gm false (fun a v h=>h) (fun a v hb Y=>M a v (b4 _ hb) (World.fM Y));simp only[V]at this;refine uW (A:= .int .u8) this.2 ?_;exact b1
 ·obtain⟨u,B,E⟩:=m.ob id o (I _ _ e C);exact⟨u,B,OR.mono hF (fun _ _ h=>h) (fun _ h=>h) (fun _ _ _=>rfl) E⟩
theorem Mem.as(m:Mem Bw w0 ρ φ h w){i:Nat}{o j:Obj}(hi:h i=some o)(hl:o.live=true)(_:j.live=true)(C:∀F ρ S w u,OR F ρ S w o u→OR F ρ S w j u):
  Mem Bw w0 ρ φ (bu h i (some j)) w∧(∀β a v,Fr (own φ h) Bw w β a v→Fr (own φ (bu h i (some j))) Bw w β a v):=by
 refine m.sJ (fun _ _ h=>h) (fun x=>x=i) (fun x z=>⟨aD _ _ z,rfl⟩) (fun x o2 z B=>?_) (fun x y j D b z E _ _ _ _ _ _=>z.trans E.symm);subst z;rw[av]at B;cases B;obtain⟨u,I,J⟩:=m.ob x _ hi;exact⟨⟨u,I,fun F' L=>C _ _ _ _ _ (OR.mono L (fun _ _ h=>h) (fun _ h=>h) (fun _ _ _=>rfl) J)⟩,fun _ k hk=>⟨x,o,rfl,hi,hl,hk⟩⟩
theorem Mem.less(m:Mem Bw w0 ρ φ h w){h':Nat→Qz}(z:∀i o,h' i=some o→h i=some o):
  Mem Bw w0 ρ φ h' w∧(∀β a v,Fr (own φ h) Bw w β a v→Fr (own φ h') Bw w β a v):=by
 have j:∀k,own φ h' k→own φ h k:=fun k ⟨id,o,B,C,D⟩=>⟨id,o,z _ _ B,C,D⟩
 have L:∀β a v,Fr (own φ h) Bw w β a v→Fr (own φ h') Bw w β a v:=fun β a v h=>⟨fun x=>h.1 (j _ x),h.2⟩
 refine⟨⟨fun id o E=>?_,fun id o k B C I=>m.lt id o k (z _ _ B) C I,fun id J o M k B C I D N O=>m.dj id J o M k (z _ _ B) C (z _ _ I) D N O,m.bw,fun k hk=>m.ow k (j k hk),m.kp,m.pk⟩,L⟩;obtain⟨u,V,X⟩:=m.ob id o (z _ _ E);exact⟨u,V,OR.mono L (fun _ _ h=>h) (fun _ h=>h) (fun _ _ _=>rfl) X⟩
theorem bV.mono{F F':Bool→Addr→Value→Prop}{ρ ρ':Nat→QW}{s:Nat→ag}(z:∀β a v,F β a v→F' β a v)(j:∀i u,ρ i=some u→ρ' i=some u)
  (h:bV n F ρ s a):bV n F' ρ' s a:=⟨h.tm,h.df,fun t=>V.mono z j (h.sl t)⟩
theorem bV.put{F:Bool→Addr→Value→Prop}{ρ:Nat→QW}{s:Nat→ag}(h:bV n F ρ s a){x:ag}{v:Value}(f:V F ρ x v){d:Nat}(hd:d<n.sz):
  bV n F ρ (bu s d x) (a.put (some d) v):=by
 refine⟨by simp[Act.put,h.tm],h.df,fun t=>?_⟩;have j:=h.tm;by_cases e:t=d
 ·subst e;rw[av];have:(a.put (some t) v).tmps.getD t undef=v:=by simp[Act.put,Array.getD,j,hd]
  rw[this];exact f
 ·rw[aD _ _ e];have:(a.put (some d) v).tmps.getD t undef=a.tmps.getD t undef:=by simp only[Act.put,Array.getD_eq_getD_getElem?];rw[Array.getElem?_setIfInBounds_ne (Ne.symm e)]
  rw[this];exact h.sl t
theorem Mem.drew(m:Mem Bw w0 ρ φ h w):Mem Bw w0 ρ φ h w.drew∧(∀β a v,Fr (own φ h) Bw w β a v→Fr (own φ h) Bw w.drew β a v) :=
 ⟨⟨fun id o j=>let ⟨u,z,B⟩:=m.ob id o j;⟨u,z,OR.mono (fun _ _ _ h=>h) (fun _ _ h=>h) (fun _ h=>h) (fun _ _ _=>rfl) B⟩,m.lt,m.dj,m.bw,m.ow,m.kp.drew,m.pk⟩,fun _ _ _ h=>h⟩
end
end Go.Tv
