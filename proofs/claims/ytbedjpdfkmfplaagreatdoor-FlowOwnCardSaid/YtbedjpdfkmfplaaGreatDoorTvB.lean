/- States, their relation to the model's, and how it is kept. -/
import Derived.Test.YtbedjpdfkmfplaaGreatDoorTvFam
namespace Go
def World.peek(w:World)(a:Addr):Option Value :=
 match a.spot with
 | none=>w.cell? a
 | some _=>match w.heap[a.block]? with
  | some (.map es _)=>some (.tuple (es.map fun e=>Value.tuple #[e.key,e.val]))
  | _=>none
theorem World.cell_peek{w:World}{a:Addr}{v:Value}(h:w.cell? a=some v):w.peek a=some v:=by
 unfold World.peek
 split
 ·exact h
 ·rename_i s hs
  unfold World.cell? at h
  split at h
  ·rw[hs]at h;cases h
  ·cases h
theorem World.peek_cell{w:World}{a:Addr}{v:Value}(h:w.peek a=some v)(h1:v.oneCell'=true):w.cell? a=some v:=by
 unfold World.peek at h
 split at h
 ·exact h
 ·split at h
  ·cases h;cases h1
  ·cases h
theorem World.peek_of_block{w w':World}{a:Addr}(h:w'.heap[a.block]? = w.heap[a.block]?):w'.peek a=w.peek a:=by
 unfold World.peek
 split
 ·exact World.cell?_of_block h
 ·rw[h]
theorem World.peek_lt{w:World}{a:Addr}{v:Value}(h:w.peek a=some v):a.block<w.heap.size:=by
 unfold World.peek at h
 split at h
 ·exact World.block_lt_of_cell? w a h
 ·rcases Nat.lt_or_ge a.block w.heap.size with q | q
  ·exact q
  ·rw[Array.getElem?_eq_none q]at h
   cases h
end Go
namespace Go.Tv
open Go Go.RowKit
inductive Obj where
 | arr (e:TypeId) (A:Ty) (xs:List A.den)
 | fz (A:Ty) (xs:List A.den)
 | box (cs:List AVal)
 | mpo (K A:Ty) (kv:List (K.den×A.den))
 | mpl (K:Ty) (kv:List (K.den×Value))
 | mat (e e2:TypeId) (A:Ty) (xss:List (List A.den)) (ho:Option (Nat×Nat))
 | bytes (e:TypeId) (xs:List Int)
 | cutz (A:Ty) (xs:List A.den)
 | lmp (k:IntKind) (n:Nat) (xs:Arr n) (cs:List AVal)
 | vrow (n sz:Nat) (cs:List AVal)
def Obj.live:Obj→Bool
 | .fz _ _=>false
 | .cutz _ _=>false
 | _=>true
structure St where
 s:Nat→AVal
 h:Nat→Option Obj
 nx:Nat
 pn:Nat
def upd{α:Type}(f:Nat→α)(i:Nat)(x:α):Nat→α:=fun k=>if k=i then x else f k
theorem aI{α:Type}(f:Nat→α)(i:Nat)(x:α):upd f i x i=x:=by simp[upd]
theorem aP{α:Type}(f:Nat→α){i k:Nat}(x:α)(h:k≠i):upd f i x k=f k:=by simp[upd,h]
def jT:Value→Option Nat
 | .slice (some a) _ _=>some a.block
 | .pointer (some a)=>some a.block
 | .map r=>r
 | _=>none
def own(φ:Nat→Nat→Prop)(h:Nat→Option Obj)(k:Nat):Prop :=
 ∃id ob,h id=some ob∧ob.live=true∧φ id k
def deB:List Int:=[0,1,28,2,29,14,24,3,30,22,20,15,25,17,4,8,31,27,13,23,21,19,16,7,26,12,18,6,11,5,10,9]
def K4(P:Program)(w:World):Prop:=∀g,P.globalNamed "math/bits.deBruijn32tab" = some g→∀i,i<32→w.cell? ⟨g,i,none⟩=some (.int .u8 (deB.getD i 0))
structure Base(P:Program) where
 w:World
 kp:Nat→Prop
 lt:∀k,kp k→k<w.heap.size
 pin:Nat→Option Value
 ld:K4 P w
 lk:∀g,P.globalNamed "math/bits.deBruijn32tab" = some g→kp g
structure Kept{P:Program}(b:Base P)(w:World):Prop where
 os:w.os=b.w.os
 tape:w.tape=b.w.tape
 output:w.output=b.w.output
 size:b.w.heap.size≤w.heap.size
 block:∀k,b.kp k→w.heap[k]? = b.w.heap[k]?
def nH{P:Program}{w:World}(hl:K4 P w):Base P:=⟨w,fun k=>k<w.heap.size,fun _ h=>h,fun _=>none,hl,fun g hg=>World.block_lt_of_cell? w _ (hl g hg 0 (by decide))⟩
section
variable{P:Program}
theorem Kept.refl(b:Base P):Kept b b.w:=⟨rfl,rfl,rfl,Nat.le_refl _,fun _ _=>rfl⟩
theorem Kept.drew{b:Base P}{w:World}(h:Kept b w):Kept b w.drew:=⟨h.os,h.tape,h.output,h.size,h.block⟩
theorem Kept.grown{b:Base P}{w w':World}{row:Option Nat}(h:Kept b w)(hg:w.grownBy w' row)(hr:∀k,row=some k→¬b.kp k):Kept b w' :=
 ⟨hg.os.trans h.os,hg.tape.trans h.tape,hg.output.trans h.output,Nat.le_trans h.size hg.size,fun k hk =>
  (hg.block k (Nat.lt_of_lt_of_le (b.lt k hk) h.size) (fun e=>hr k e.symm hk)).trans (h.block k hk)⟩
theorem Kept.below{w w':World}{hl:K4 P w}(h:Kept (nH hl) w'):Below w.heap.size w w':=⟨h.os,h.tape,h.output,h.size,h.block⟩
theorem Kept.ofBelow{b:Base P}{w w':World}(h:Kept b w)(k:Below w.heap.size w w'):Kept b w' :=
 ⟨k.os.trans h.os,k.tape.trans h.tape,k.output.trans h.output,Nat.le_trans h.size k.size,fun i hi =>
  (k.block i (Nat.lt_of_lt_of_le (b.lt i hi) h.size)).trans (h.block i hi)⟩
theorem Kept.laid{b:Base P}{w:World}(h:Kept b w):K4 P w:=fun g hg i hi=>by
 rw[World.cell?_of_block (w:=b.w) (h.block g (b.lk g hg))]
 exact b.ld g hg i hi
end
def Fr(ow Bw:Nat→Prop)(w:World)(β:Bool)(a:Addr)(v:Value):Prop:=¬ow a.block∧(β=false→¬Bw a.block)∧w.peek a=some v
def Ty.isKey:Ty→Bool
 | .int _=>true
 | .bool=>true
 | .str=>true
 | .unit=>true
 | .prod a b=>a.isKey && b.isKey
 | .arr _ _=>true
 | _=>false
def dF:(K:Ty)→K.den→List Value
 | .int k,n=>[.int k n]
 | .bool,b=>[.bool b]
 | .str,s=>[.string ⟨s.toArray⟩]
 | .prod a b,p=>dF a p.1++dF b p.2
 | .arr k _,xs=>xs.1.map (Value.int k)
 | _,_=>[]
def aZ:(K:Ty)→K.den→Value
 | .int k,n=> .int k n
 | .bool,b=> .bool b
 | .str,s=> .string ⟨s.toArray⟩
 | K,x=> .agg (dF K x).toArray
def MV(F:Addr→Value→Prop)(A:Ty)(x:A.den)(v:Value):Prop :=
 Vcells F A x (fun k u=>v.cells.toList[k]? = some u)∧v.cells.size=A.size∧(A.scalar=true→v.oneCell'=true)∧(A.scalar=false→∃cs,v = .agg cs)
def RowOK(F:Bool→Addr→Value→Prop)(S:Nat→Prop)(w:World)(e2:TypeId)(A:Ty)(u v:Value)(xs:List A.den):Prop :=
 (∀k,jT v=some k→S k∧jT u≠some k)∧∃rc,w.ownsRow 0 e2 A.size v xs.length rc∧∀j (h:j<xs.length),Vcells (F false) A xs[j] (fun k v=>rc[j*A.size+k]? = some v)
def aDE(ho:Option (Nat×Nat))(i:Nat):Prop:=∀k id,ho=some (k,id)→i≠k
def Born(es:Array MapEntry)(clock:Nat):Prop:=(es.toList.map (·.born)).Nodup∧∀e∈es.toList,e.born<clock
def OR(F:Bool→Addr→Value→Prop)(ρ:Nat→Option Value)(S:Nat→Prop)(w:World):Obj→Value→Prop
 | .arr e A xs,u=>(∀k,jT u=some k→S k)∧0<A.size∧∃cells,w.ownsRow 0 e A.size u xs.length cells ∧
   ∀i (h:i<xs.length),Vcells (F false) A xs[i] (fun k v=>cells[i*A.size+k]? = some v)
 | .fz A xs,u=>V F ρ (.p false (.slice A) xs) u
 | .box cs,u=>∃g t cells,u = .pointer (some ⟨g,0,none⟩)∧S g∧w.heap[g]? = some (.cells cells t (0,0))∧cells.size=cs.length ∧
   VL F ρ cs (fun k v=>cells[k]? = some v)
 | .mpo K A kv,u=>∃r es clock,u = .map (some r)∧S r∧w.heap[r]? = some (.map es clock)∧(K.isKey=true∧Born es clock)∧es.toList.map (·.key)=kv.map (fun p=>aZ K p.1)∧(kv.map (·.1)).Nodup ∧
   ∀i (h:i<kv.length),∃e:MapEntry,es[i]? = some e∧MV (F false) A kv[i].2 e.val
 | .mpl K kv,u=>∃r es clock,u = .map (some r)∧S r∧w.heap[r]? = some (.map es clock)∧K.isKey=true∧es.toList.map (·.key)=kv.map (fun p=>aZ K p.1)∧(kv.map (·.1)).Nodup ∧
   ∀i (h:i<kv.length),∃e:MapEntry,es[i]? = some e∧e.val=kv[i].2
 | .mat e e2 A xss ho,u=>(∀k,jT u=some k→S k)∧0<A.size∧(∀k id,ho=some (k,id)→k<xss.length)∧∃cells:List Value,w.ownsRow 0 e 1 u xss.length cells ∧
   (∀i (h:i<xss.length),∃v,cells[i]? = some v∧(∃ad n c,v = .slice ad n c)∧(aDE ho i→RowOK F S w e2 A u v xss[i])∧∀id,ho=some (i,id)→ρ id=some v) ∧
   ∀i j vi vj b,i≠j→aDE ho i→aDE ho j→cells[i]? = some vi→cells[j]? = some vj→jT vi=some b→jT vj≠some b
 | .bytes e xs,u=>(u = .slice none 0 0∧xs=[])∨∃g cap cur mk,u = .slice (some ⟨g,0,none⟩) xs.length cap∧S g∧w.heap[g]? = some (.cells cur e mk)∧(mk=(0,0)∨mk=(cur.size,cur.size+1))∧xs.length≤cap∧cur.size=cap ∧
   ∀i (h:i<xs.length),cur[i]? = some (.int .u8 xs[i])
 | .lmp k n xs cs,u=>∃g t cells,u = .pointer (some ⟨g,0,none⟩)∧S g∧w.heap[g]? = some (.cells cells t (0,0))∧cells.size=n+cs.length∧(∀i (h:i<xs.1.length),cells[i]? = some (.int k xs.1[i])) ∧
   VL F ρ cs (fun j v=>cells[n+j]? = some v)
 | .vrow n sz cs,u=>∃g t cells,u = .slice (some ⟨g,0,none⟩) n n∧S g∧w.heap[g]? = some (.cells cells t (0,0))∧cells.size=cs.length∧cs.length=n*sz∧VL F ρ cs (fun k v=>cells[k]? = some v)
 | .cutz A xs,u=>(∃ad,u = .slice ad xs.length xs.length)∧V F ρ (.p false (.slice A) xs) u
theorem rW{w w':World}{e:TypeId}{sz n:Nat}{u:Value}{cells:List Value}(hb:∀k,jT u=some k→w'.heap[k]? = w.heap[k]?)(h:w.ownsRow 0 e sz u n cells):w'.ownsRow 0 e sz u n cells:=by
 obtain⟨h1,h2⟩:=h
 refine⟨h1,?_⟩
 rcases h2 with h2 | ⟨g,cap,cur,rfl,r1,r2,r3⟩
 ·exact .inl h2
 ·exact .inr ⟨g,cap,cur,rfl,r1,by rw[hb g rfl];exact r2,r3⟩
theorem RowOK.mono{F F':Bool→Addr→Value→Prop}{S S':Nat→Prop}{w w':World}{e2:TypeId}{A:Ty}{u v:Value}{xs:List A.den}
  (hF:∀β a v,F β a v→F' β a v) (hS:∀k,S k→S' k) (hb:∀k,S k→w'.heap[k]? = w.heap[k]?) (h:RowOK F S w e2 A u v xs):RowOK F' S' w' e2 A u v xs:=by
 obtain⟨h1,rc,h2,h3⟩:=h
 exact⟨fun k hk=>⟨hS k (h1 k hk).1,(h1 k hk).2⟩,rc,rW (fun k hk=>hb k (h1 k hk).1) h2,fun j hj=>Vcells.mono (hF _) (fun _ _ h=>h) (h3 j hj)⟩
structure Mem{P:Program}(Bw:Nat→Prop)(w0:Base P)(ρ:Nat→Option Value)(φ:Nat→Nat→Prop)(h:Nat→Option Obj)(w:World):Prop where
 ob:∀id o,h id=some o→∃u,ρ id=some u∧OR (Fr (own φ h) Bw w) ρ (φ id) w o u
 lt:∀id o k,h id=some o→o.live=true→φ id k→k<w.heap.size
 dj:∀id id' o o' k,h id=some o→o.live=true→h id'=some o'→o'.live=true→φ id k→φ id' k→id=id'
 bw:∀k,Bw k→w0.kp k
 ow:∀k,own φ h k→¬w0.kp k
 kp:Kept w0 w
 pin:∀i u,w0.pin i=some u→ρ i=some u
structure NS where
 sz:Nat
 D:List Deferred
instance:Coe Nat NS:=⟨fun n=>⟨n,[]⟩⟩
structure Slots(n:NS)(F:Bool→Addr→Value→Prop)(ρ:Nat→Option Value)(s:Nat→AVal)(a:Act):Prop where
 tm:a.tmps.size=n.sz
 df:a.defers=n.D
 sl:∀t,V F ρ (s t) (a.tmps.getD t undef)
structure Rel{P:Program}(n:NS)(Bw:Nat→Prop)(w0:Base P)(ρ:Nat→Option Value)(φ:Nat→Nat→Prop)(σ:St)(a:Act)(w:World):Prop where
 mem:Mem Bw w0 ρ φ σ.h w
 slots:Slots n (Fr (own φ σ.h) Bw w) ρ σ.s a
 nx:∀id u,ρ id=some u→id<σ.nx
theorem OR.mono{F F':Bool→Addr→Value→Prop}{ρ ρ':Nat→Option Value}{S S':Nat→Prop}{w w':World}{o:Obj}{u:Value}
  (hF:∀β a v,F β a v→F' β a v) (hρ:∀i u,ρ i=some u→ρ' i=some u) (hS:∀k,S k→S' k)
  (hb:o.live=true→∀k,S k→w'.heap[k]? = w.heap[k]?) (h:OR F ρ S w o u):OR F' ρ' S' w' o u:=by
 cases o with
 | arr e A xs =>
  obtain⟨hs,h0,cells,⟨h1,h2⟩,h3⟩:=h
  refine⟨fun k hk=>hS k (hs k hk),h0,cells,⟨h1,?_⟩,fun i hi=>Vcells.mono (hF _) (fun _ _ h=>h) (h3 i hi)⟩
  rcases h2 with h2 | ⟨g,cap,cur,rfl,r1,r2,r3⟩
  ·exact .inl h2
  ·exact .inr ⟨g,cap,cur,rfl,r1,by rw[hb rfl g (hs g rfl)];exact r2,r3⟩
 | fz A xs=>exact V.mono hF hρ h
 | box cs =>
  obtain⟨g,t,cells,rfl,hs,h1,h2,h3⟩:=h
  exact⟨g,t,cells,rfl,hS _ hs,by rw[hb rfl g hs];exact h1,h2,VL.mono hF hρ (fun _ _ h=>h) h3⟩
 | mpo K A kv =>
  obtain⟨r,es,clock,rfl,hs,h1,h2,h3,h4,h5⟩:=h
  exact⟨r,es,clock,rfl,hS _ hs,by rw[hb rfl r hs];exact h1,h2,h3,h4,fun i hi=>let ⟨e,q1,q2,q3⟩:=h5 i hi;⟨e,q1,Vcells.mono (hF _) (fun _ _ h=>h) q2,q3⟩⟩
 | mpl K kv =>
  obtain⟨r,es,clock,rfl,hs,h1,h2⟩:=h
  exact⟨r,es,clock,rfl,hS _ hs,by rw[hb rfl r hs];exact h1,h2⟩
 | mat e e2 A xss ho =>
  obtain⟨hs,h0,hk,cells,h1,h2,h3⟩:=h
  refine⟨fun k hk=>hS k (hs k hk),h0,hk,cells,rW (fun k hk=>hb rfl k (hs k hk)) h1,fun i hi=> ?_,h3⟩
  obtain⟨v,q1,q2,q3,q4⟩:=h2 i hi
  exact⟨v,q1,q2,fun hsh=>(q3 hsh).mono hF hS (hb rfl),fun id e=>hρ _ _ (q4 id e)⟩
 | bytes e xs =>
  rcases h with h | ⟨g,cap,cur,mk,rfl,hs,h1,h2⟩
  ·exact .inl h
  ·exact .inr ⟨g,cap,cur,mk,rfl,hS _ hs,by rw[hb rfl g hs];exact h1,h2⟩
 | cutz A xs=>exact⟨h.1,V.mono hF hρ h.2⟩
 | lmp k n xs cs =>
  obtain⟨g,t,cells,rfl,hs,h1,h2,h3,h4⟩:=h
  exact⟨g,t,cells,rfl,hS _ hs,by rw[hb rfl g hs];exact h1,h2,h3,VL.mono hF hρ (fun _ _ h=>h) h4⟩
 | vrow n sz cs =>
  obtain⟨g,t,cells,rfl,hs,h1,h2,h3,h4⟩:=h
  exact⟨g,t,cells,rfl,hS _ hs,by rw[hb rfl g hs];exact h1,h2,h3,VL.mono hF hρ (fun _ _ h=>h) h4⟩
section
variable{P:Program}{n:NS}{Bw:Nat→Prop}{w0:Base P}{ρ:Nat→Option Value}{φ:Nat→Nat→Prop}{h:Nat→Option Obj}{σ:St}{a:Act}{w:World}
theorem Fr.evo{ow ow':Nat→Prop}{w':World}(hs:∀k,k<w.heap.size→¬ow k→w'.heap[k]? = w.heap[k]?)
  (ho:∀k,ow' k→ow k∨w.heap.size≤k) (β:Bool) (a:Addr) (v:Value) (h:Fr ow Bw w β a v):Fr ow' Bw w' β a v:=by
 obtain⟨h1,h2,h3⟩:=h
 have hlt:=World.peek_lt h3
 refine⟨fun hh=> ?_,h2,by rw[World.peek_of_block (w:=w) (hs _ hlt h1)];exact h3⟩
 rcases ho _ hh with h' | h'
 ·exact h1 h'
 ·omega
theorem Mem.own_lt(m:Mem Bw w0 ρ φ h w){k:Nat}(hk:own φ h k):k<w.heap.size:=by
 obtain⟨id,o,h1,h2,h3⟩:=hk
 exact m.lt id o k h1 h2 h3
theorem Mem.put(m:Mem Bw w0 ρ φ h w){w':World}(i0:Option Nat)(i1:Nat)(o1:Obj)(u1:Value)(S1:Nat→Prop)(row:Option Nat)
  (hg:w.grownBy w' row)
  (h0:∀k,row=some k→∃i o,i0=some i∧h i=some o∧o.live=true∧φ i k)
  (hfresh:ρ i1=none∨(i0=some i1∧ρ i1=some u1))
  (hlt:o1.live=true→∀k,S1 k→k<w'.heap.size)
  (hb:o1.live=true→∀k,S1 k→w.heap.size≤k∨∃i o,i0=some i∧h i=some o∧o.live=true∧φ i k)
  (ho:∀F' ρ',(∀β a v,Fr (own φ h) Bw w β a v→F' β a v)→(∀i u,ρ i=some u→ρ' i=some u)→OR F' ρ' S1 w' o1 u1) :
  Mem Bw w0 (upd ρ i1 (some u1)) (upd φ i1 S1) (upd (fun i=>if i0=some i then none else h i) i1 (some o1)) w' ∧
  (∀β a v,Fr (own φ h) Bw w β a v→Fr (own (upd φ i1 S1) (upd (fun i=>if i0=some i then none else h i) i1 (some o1))) Bw w' β a v) ∧
  (∀i u,ρ i=some u→upd ρ i1 (some u1) i=some u):=by
 have hρ:∀i u,ρ i=some u→upd ρ i1 (some u1) i=some u:=fun i u hi=>by
  by_cases e:i=i1
  ·subst e
   rcases hfresh with hf | ⟨_,hf⟩
   ·rw[hf]at hi;cases hi
   ·rw[aI,←hf,hi]
  ·rw[aP _ _ e,hi]
 have hρ':∀i,i≠i1→upd ρ i1 (some u1) i=ρ i:=fun i e=>aP _ _ e
 have hφ':∀i,i≠i1→upd φ i1 S1 i=φ i:=fun i e=>aP _ _ e
 have hh':∀i o,i≠i1→upd (fun i=>if i0=some i then none else h i) i1 (some o1) i=some o→h i=some o∧i0≠some i:=fun i o e hi=>by
  rw[aP _ _ e]at hi
  by_cases e0:i0=some i
  ·simp[e0]at hi
  ·simp[e0]at hi;exact⟨hi,e0⟩
 have hown:∀k,own (upd φ i1 S1) (upd (fun i=>if i0=some i then none else h i) i1 (some o1)) k→own φ h k∨w.heap.size≤k:=by
  rintro k ⟨id,o,h1,h2,h4⟩
  by_cases e:id=i1
  ·subst e
   rw[aI]at h1 h4
   cases h1
   rcases hb h2 k h4 with h5 | ⟨i,o,_,q2,q3,q4⟩
   ·exact .inr h5
   ·exact .inl ⟨i,o,q2,q3,q4⟩
  ·rw[hφ' _ e]at h4
   exact .inl ⟨id,o,(hh' _ _ e h1).1,h2,h4⟩
 have hsame:∀k,k<w.heap.size→¬own φ h k→w'.heap[k]? = w.heap[k]? :=fun k hk hn =>
  hg.block k hk fun e=>by
   obtain⟨i,o,_,q2,q3,q4⟩:=h0 k e.symm
   exact hn ⟨i,o,q2,q3,q4⟩
 have hF:∀β a v,Fr (own φ h) Bw w β a v→Fr (own (upd φ i1 S1) (upd (fun i=>if i0=some i then none else h i) i1 (some o1))) Bw w' β a v :=
  fun β a v=>Fr.evo hsame hown β a v
 have hone:∀id o k,id≠i1→h id=some o→i0≠some id→o.live=true→φ id k→¬(∃i o,i0=some i∧h i=some o∧o.live=true∧φ i k):=by
  rintro id o k e q1 q2 q3 q4 ⟨i,o',r1,r2,r3,r4⟩
  have:=m.dj id i o o' k q1 q3 r2 r3 q4 r4
  subst this
  exact q2 r1
 refine⟨⟨fun id o hid=> ?_,fun id o k h1 h2 h3=> ?_,fun id id' o o' k h1 h2 h3 h4 h5 h6=> ?_,m.bw,fun k hk hkp=> ?_,?_,?_⟩,hF,hρ⟩
 ·by_cases e:id=i1
  ·subst e
   rw[aI]at hid
   cases hid
   refine⟨u1,aI _ _ _,?_⟩
   rw[aI]
   exact ho _ _ hF hρ
  ·obtain⟨q1,q2⟩:=hh' _ _ e hid
   obtain⟨u,q3,q4⟩:=m.ob id o q1
   refine⟨u,by rw[hρ' _ e];exact q3,?_⟩
   rw[hφ' _ e]
   refine OR.mono hF hρ (fun _ h=>h) (fun hl k hk=> ?_) q4
   refine hg.block k (m.lt id o k q1 hl hk) fun er=> ?_
   exact hone id o k e q1 q2 hl hk (h0 k er.symm)
 ·by_cases e:id=i1
  ·subst e
   rw[aI]at h1 h3;cases h1
   exact hlt h2 k h3
  ·rw[hφ' _ e]at h3
   exact Nat.lt_of_lt_of_le (m.lt id o k (hh' _ _ e h1).1 h2 h3) hg.size
 ·by_cases e:id=i1 <;> by_cases e':id'=i1
  ·rw[e,e']
  ·subst e
   rw[aI]at h1 h5;cases h1
   rw[hφ' _ e']at h6
   obtain⟨q1,q2⟩:=hh' _ _ e' h3
   rcases hb h2 k h5 with h9 | h9
   ·have:=m.lt id' o' k q1 h4 h6
    omega
   ·exact absurd h9 (hone id' o' k e' q1 q2 h4 h6)
  ·subst e'
   rw[aI]at h3 h6;cases h3
   rw[hφ' _ e]at h5
   obtain⟨q1,q2⟩:=hh' _ _ e h1
   rcases hb h4 k h6 with h9 | h9
   ·have:=m.lt id o k q1 h2 h5
    omega
   ·exact absurd h9 (hone id o k e q1 q2 h2 h5)
  ·rw[hφ' _ e]at h5;rw[hφ' _ e']at h6
   exact m.dj id id' o o' k (hh' _ _ e h1).1 h2 (hh' _ _ e' h3).1 h4 h5 h6
 ·rcases hown k hk with h1 | h1
  ·exact m.ow k h1 hkp
  ·have:=w0.lt k hkp
   have:=m.kp.size
   omega
 ·exact m.kp.grown hg (fun k hk=>by
   obtain⟨i,o,_,q2,q3,q4⟩:=h0 k hk
   exact m.ow k ⟨i,o,q2,q3,q4⟩)
 ·exact fun i u hi=>hρ i u (m.pin i u hi)
theorem vP{F F':Bool→Addr→Value→Prop}{ρ':Nat→Option Value}{A:Ty}{xs:List A.den}{u:Value}{w:World}{e:TypeId}{cells:List Value}
  (h1:w.ownsRow 0 e A.size u xs.length cells) (h2:∀i (h:i<xs.length),Vcells (F false) A xs[i] (fun k v=>cells[i*A.size+k]? = some v))
  (β:Bool) (hF:∀a v,F false a v→F' β a v) (hc:∀a v,jT u=some a.block→w.cell? a=some v→F' β a v):V F' ρ' (.p β (.slice A) xs) u:=by
 simp only[V,Vcells]
 refine⟨rfl,?_⟩
 rcases h1.2 with⟨rfl,hn⟩ | ⟨g,cap,cur,rfl,r1⟩
 ·exact⟨none,0,0,rfl,⟨hn.symm,Nat.le_refl _⟩,fun i hi=>absurd hi (by omega)⟩
 ·refine⟨_,_,_,rfl,⟨rfl,r1.2.2.1⟩,fun i hi=>⟨_,rfl,Vcells.mono hF (fun k v hk=> ?_) (h2 i hi)⟩⟩
  refine hc _ _ (by simp only[jT,Addr.add];split <;> rfl) (h1.cells (g:=g) rfl _ _ hk)
theorem Mem.freeze(m:Mem Bw w0 ρ φ h w){i:Nat}{te:TypeId}{A:Ty}{xs:List A.den}(hi:h i=some (.arr te A xs)):
  Mem Bw w0 ρ φ (upd h i (some (.fz A xs))) w∧(∀β a v,Fr (own φ h) Bw w β a v→Fr (own φ (upd h i (some (.fz A xs)))) Bw w β a v):=by
 have hh:∀id o,id≠i→upd h i (some (.fz A xs)) id=some o→h id=some o:=fun id o e hid=>by rwa [aP _ _ e]at hid
 have hlv:∀id o,upd h i (some (.fz A xs)) id=some o→o.live=true→id≠i:=fun id o h1 h2 e=>by
  subst e
  rw[aI]at h1
  cases h1
  simp[Obj.live]at h2
 have hown:∀k,own φ (upd h i (some (.fz A xs))) k→own φ h k:=by
  rintro k ⟨id,o,h1,h2,h4⟩
  exact⟨id,o,hh _ _ (hlv _ _ h1 h2) h1,h2,h4⟩
 have hF:∀β a v,Fr (own φ h) Bw w β a v→Fr (own φ (upd h i (some (.fz A xs)))) Bw w β a v :=
  fun β a v h=>⟨fun hh=>h.1 (hown _ hh),h.2⟩
 refine⟨⟨fun id o hid=> ?_,fun id o k h1 h2 h3=>m.lt id o k (hh _ _ (hlv _ _ h1 h2) h1) h2 h3,fun id id' o o' k h1 h2 h3 h4 h5 h6 =>
  m.dj id id' o o' k (hh _ _ (hlv _ _ h1 h2) h1) h2 (hh _ _ (hlv _ _ h3 h4) h3) h4 h5 h6,m.bw,fun k hk=>m.ow k (hown k hk),m.kp,m.pin⟩,hF⟩
 by_cases e:id=i
 ·subst e
  rw[aI]at hid
  cases hid
  obtain⟨u,h1,h2⟩:=m.ob id _ hi
  refine⟨u,h1,?_⟩
  obtain⟨hs,_,cells,h3,h4⟩:=h2
  refine vP (ρ':=ρ) h3 h4 false (fun a v h=>hF _ _ _ h) fun a v hb hc=>⟨fun hh'=> ?_,fun _ hbw=> ?_,World.cell_peek hc⟩
  ·obtain⟨id',o',q1,q2,q4⟩:=hh'
   have hne:=hlv _ _ q1 q2
   exact hne (m.dj id' id o' _ a.block (hh _ _ hne q1) q2 hi rfl q4 (hs _ hb))
  ·exact m.ow a.block ⟨id,_,hi,rfl,hs _ hb⟩ (m.bw _ hbw)
 ·obtain⟨u,h1,h2⟩:=m.ob id o (hh _ _ e hid)
  exact⟨u,h1,OR.mono hF (fun _ _ h=>h) (fun _ h=>h) (fun _ _ _=>rfl) h2⟩
theorem aI0{F:Bool→Addr→Value→Prop}{ρ ρ':Nat→Option Value}{S:Nat→Prop}{w:World}{te:TypeId}{xs:List Int}{u:Value}(h:OR F ρ S w (.bytes te xs) u):
  V (fun _ a v=>w.cell? a=some v) ρ' (.p false (.slice (.int .u8)) xs) u:=by
 simp only[V]
 refine⟨rfl,?_⟩
 rcases h with⟨rfl,rfl⟩ | ⟨g,cap,cur,mk,rfl,hs,r1,r2,r3,r5,r6⟩
 ·exact⟨none,0,0,rfl,⟨rfl,Nat.le_refl _⟩,fun j hj=>absurd hj (by simp)⟩
 ·refine⟨some ⟨g,0,none⟩,xs.length,cap,rfl,⟨rfl,r3⟩,fun j hj=>⟨_,rfl,?_⟩⟩
  simp only[Vcells]
  have ea:((⟨g,0,none⟩:Addr).add (j*Ty.size (.int .u8)+0))=⟨g,j,none⟩:=by
   unfold Addr.add
   simp only[Ty.size]
   by_cases e0:j=0
   ·subst e0;simp
   ·simp[e0]
  rw[ea,cell_of_row w g j cur te mk r1]
  exact r6 j hj
theorem Mem.toBytes(m:Mem Bw w0 ρ φ h w){i:Nat}{te:TypeId}{xs:List Int}(hi:h i=some (.arr te (.int .u8) xs)):
  Mem Bw w0 ρ φ (upd h i (some (.bytes te xs))) w∧(∀β a v,Fr (own φ h) Bw w β a v→Fr (own φ (upd h i (some (.bytes te xs)))) Bw w β a v):=by
 obtain⟨u,q1,hs,h0,cells,r1,r2⟩:=m.ob i _ hi
 have eρ:upd ρ i (some u)=ρ:=by
  funext j
  by_cases e:j=i
  ·subst e;rw[aI,q1]
  ·rw[aP _ _ e]
 have eφ:upd φ i (φ i)=φ:=by
  funext j
  by_cases e:j=i
  ·subst e;rw[aI]
  ·rw[aP _ _ e]
 have eh:upd (fun j=>if some i=some j then none else h j) i (some (Obj.bytes te xs))=upd h i (some (.bytes te xs)):=by
  funext j
  by_cases e:j=i
  ·subst e;rw[aI,aI]
  ·rw[aP _ _ e,aP _ _ e]
   simp[Ne.symm e]
 obtain⟨m',f',_⟩:=m.put (w':=w) (some i) i (.bytes te xs) u (φ i) none ⟨rfl,rfl,rfl,Nat.le_refl _,fun _ _ _=>rfl⟩ (fun k hk=>by cases hk) (.inr ⟨rfl,q1⟩)
  (fun _ k hk=>m.lt i _ k hi rfl hk) (fun _ k hk=> .inr ⟨i,_,rfl,hi,rfl,hk⟩)
  (fun F' ρ' hF hρ=>by
   rcases r1.2 with⟨rfl,hn⟩ | ⟨g,cap,cur,rfl,_,hg,hnc,hcm,hcs,htake⟩
   ·exact .inl ⟨rfl,List.eq_nil_of_length_eq_zero hn⟩
   ·refine .inr ⟨g,cap,cur,(0,0),rfl,hs g rfl,hg,.inl rfl,hnc,by rw[hcs];simp[Ty.size],fun j hj=> ?_⟩
    have:=r2 j hj
    simp only[Vcells,Ty.size,Nat.mul_one,Nat.add_zero]at this
    rw[←htake,List.getElem?_take]at this
    split at this
    ·rw[←Array.getElem?_toList];exact this
    ·cases this)
 rw[eρ,eφ,eh]at m'
 rw[eφ,eh]at f'
 exact⟨m',f'⟩
theorem Mem.freezeB(m:Mem Bw w0 ρ φ h w){i:Nat}{te:TypeId}{xs:List Int}(hi:h i=some (.bytes te xs)):
  Mem Bw w0 ρ φ (upd h i (some (.fz (.int .u8) xs))) w∧(∀β a v,Fr (own φ h) Bw w β a v→Fr (own φ (upd h i (some (.fz (.int .u8) xs)))) Bw w β a v):=by
 have hh:∀id o,id≠i→upd h i (some (.fz (.int .u8) xs)) id=some o→h id=some o:=fun id o e hid=>by rwa [aP _ _ e]at hid
 have hlv:∀id o,upd h i (some (.fz (.int .u8) xs)) id=some o→o.live=true→id≠i:=fun id o h1 h2 e=>by
  subst e
  rw[aI]at h1
  cases h1
  simp[Obj.live]at h2
 have hown:∀k,own φ (upd h i (some (.fz (.int .u8) xs))) k→own φ h k:=by
  rintro k ⟨id,o,h1,h2,h4⟩
  exact⟨id,o,hh _ _ (hlv _ _ h1 h2) h1,h2,h4⟩
 have hF:∀β a v,Fr (own φ h) Bw w β a v→Fr (own φ (upd h i (some (.fz (.int .u8) xs)))) Bw w β a v :=
  fun β a v h=>⟨fun hh=>h.1 (hown _ hh),h.2⟩
 refine⟨⟨fun id o hid=> ?_,fun id o k h1 h2 h3=>m.lt id o k (hh _ _ (hlv _ _ h1 h2) h1) h2 h3,fun id id' o o' k h1 h2 h3 h4 h5 h6 =>
  m.dj id id' o o' k (hh _ _ (hlv _ _ h1 h2) h1) h2 (hh _ _ (hlv _ _ h3 h4) h3) h4 h5 h6,m.bw,fun k hk=>m.ow k (hown k hk),m.kp,m.pin⟩,hF⟩
 by_cases e:id=i
 ·subst e
  rw[aI]at hid
  cases hid
  obtain⟨u,h1,h2⟩:=m.ob id _ hi
  refine⟨u,h1,?_⟩
  simp only[OR,V]
  refine⟨rfl,?_⟩
  rcases h2 with⟨rfl,rfl⟩ | ⟨g,cap,cur,mk,rfl,hs,r1,r2,r3,r5,r6⟩
  ·exact⟨none,0,0,rfl,⟨rfl,Nat.le_refl _⟩,fun j hj=>absurd hj (by simp)⟩
  ·refine⟨some ⟨g,0,none⟩,xs.length,cap,rfl,⟨rfl,r3⟩,fun j hj=>⟨_,rfl,?_⟩⟩
   simp only[Vcells]
   have ec:w.cell? (⟨g,j,none⟩:Addr)=some (.int .u8 xs[j]):=by
    rw[cell_of_row w g j cur te mk r1]
    exact r6 j hj
   have ea:((⟨g,0,none⟩:Addr).add (j*Ty.size (.int .u8)+0))=⟨g,j,none⟩:=by
    unfold Addr.add
    simp only[Ty.size]
    by_cases e0:j=0
    ·subst e0;simp
    ·simp[e0]
   rw[ea]
   refine⟨fun hh'=> ?_,fun _ hbw=>m.ow g ⟨id,_,hi,rfl,hs⟩ (m.bw _ hbw),ec⟩
   obtain⟨id',o',q1,q2,q4⟩:=hh'
   have hne:=hlv _ _ q1 q2
   exact hne (m.dj id' id o' _ g (hh _ _ hne q1) q2 hi rfl q4 hs)
 ·obtain⟨u,h1,h2⟩:=m.ob id o (hh _ _ e hid)
  exact⟨u,h1,OR.mono hF (fun _ _ h=>h) (fun _ h=>h) (fun _ _ _=>rfl) h2⟩
theorem aDZ{G:Addr→Value→Prop}{A:Ty}{xs:List A.den}{v:Value}{g:Nat→Value→Prop}(h:Vcells G (.slice A) xs (fun _ u=>u=v))(h0:g 0 v):Vcells G (.slice A) xs g:=by
 obtain⟨ad,l,c,e,hl,h⟩:=h
 exact⟨ad,l,c,by rw[e];exact h0,hl,h⟩
theorem Mem.freezeMat(m:Mem Bw w0 ρ φ h w){i:Nat}{te e2:TypeId}{A:Ty}{xss:List (List A.den)}(hi:h i=some (.mat te e2 A xss none)):
  Mem Bw w0 ρ φ (upd h i (some (.fz (.slice A) xss))) w∧(∀β a v,Fr (own φ h) Bw w β a v→Fr (own φ (upd h i (some (.fz (.slice A) xss)))) Bw w β a v):=by
 have hh:∀id o,id≠i→upd h i (some (.fz (.slice A) xss)) id=some o→h id=some o:=fun id o e hid=>by rwa [aP _ _ e]at hid
 have hlv:∀id o,upd h i (some (.fz (.slice A) xss)) id=some o→o.live=true→id≠i:=fun id o h1 h2 e=>by
  subst e
  rw[aI]at h1
  cases h1
  simp[Obj.live]at h2
 have hown:∀k,own φ (upd h i (some (.fz (.slice A) xss))) k→own φ h k:=by
  rintro k ⟨id,o,h1,h2,h4⟩
  exact⟨id,o,hh _ _ (hlv _ _ h1 h2) h1,h2,h4⟩
 have hF:∀β a v,Fr (own φ h) Bw w β a v→Fr (own φ (upd h i (some (.fz (.slice A) xss)))) Bw w β a v :=
  fun β a v h=>⟨fun hh=>h.1 (hown _ hh),h.2⟩
 have hin:∀a v,φ i a.block→w.cell? a=some v→Fr (own φ (upd h i (some (.fz (.slice A) xss)))) Bw w false a v:=fun a v hb hc =>
  ⟨fun hh'=>by
   obtain⟨id',o',q1,q2,q4⟩:=hh'
   have hne:=hlv _ _ q1 q2
   exact hne (m.dj id' i o' _ a.block (hh _ _ hne q1) q2 hi rfl q4 hb),fun _ hbw=>m.ow a.block ⟨i,_,hi,rfl,hb⟩ (m.bw _ hbw),World.cell_peek hc⟩
 refine⟨⟨fun id o hid=> ?_,fun id o k h1 h2 h3=>m.lt id o k (hh _ _ (hlv _ _ h1 h2) h1) h2 h3,fun id id' o o' k h1 h2 h3 h4 h5 h6 =>
  m.dj id id' o o' k (hh _ _ (hlv _ _ h1 h2) h1) h2 (hh _ _ (hlv _ _ h3 h4) h3) h4 h5 h6,m.bw,fun k hk=>m.ow k (hown k hk),m.kp,m.pin⟩,hF⟩
 by_cases e:id=i
 ·subst e
  rw[aI]at hid
  cases hid
  obtain⟨u,h1,hs,_,_,cells,h3,h4,_⟩:=m.ob id _ hi
  refine⟨u,h1,?_⟩
  refine vP (ρ':=ρ) (F:=Fr (own φ (upd h id (some (.fz (.slice A) xss)))) Bw w) (A:= .slice A) (e:=te) (cells:=cells) h3 (fun j hj=> ?_) false (fun _ _ h=>h) (fun a v hb hc=>hin a v (hs _ hb) hc)
  obtain⟨v,p1,_,p3,_⟩:=h4 j hj
  obtain⟨r1,rc,r2,r3⟩:=p3 (fun k id' e=>by cases e)
  have:=vP (F:=Fr (own φ h) Bw w) (F':=Fr (own φ (upd h id (some (.fz (.slice A) xss)))) Bw w) (ρ':=ρ) r2 r3 false (fun a v h=>hF _ _ _ h) (fun a v hb hc=>hin a v (r1 _ hb).1 hc)
  simp only[V]at this
  refine aDZ this.2 ?_
  show cells[j*1+0]? = some v
  rw[Nat.mul_one,Nat.add_zero]
  exact p1
 ·obtain⟨u,h1,h2⟩:=m.ob id o (hh _ _ e hid)
  exact⟨u,h1,OR.mono hF (fun _ _ h=>h) (fun _ h=>h) (fun _ _ _=>rfl) h2⟩
theorem Mem.regroup(m:Mem Bw w0 ρ φ h w){h':Nat→Option Obj}{φ':Nat→Nat→Prop}{ρ':Nat→Option Value}(hρ:∀i u,ρ i=some u→ρ' i=some u)(G:Nat→Prop)
  (hout:∀i,¬G i→h' i=h i∧φ' i=φ i)
  (hin:∀i o,G i→h' i=some o→(∃u,ρ' i=some u∧∀F',(∀β a v,Fr (own φ h) Bw w β a v→F' β a v)→OR F' ρ' (φ' i) w o u)∧(o.live=true→∀k,φ' i k→∃j o',G j∧h j=some o'∧o'.live=true∧φ j k))
  (hdj:∀i j o o' k,G i→G j→h' i=some o→o.live=true→h' j=some o'→o'.live=true→φ' i k→φ' j k→i=j) :
  Mem Bw w0 ρ' φ' h' w∧(∀β a v,Fr (own φ h) Bw w β a v→Fr (own φ' h') Bw w β a v):=by
 have hown:∀k,own φ' h' k→own φ h k:=by
  rintro k ⟨id,o,h1,h2,h4⟩
  by_cases g:G id
  ·obtain⟨j,o',_,q2,q3,q4⟩:=(hin id o g h1).2 h2 k h4
   exact⟨j,o',q2,q3,q4⟩
  ·obtain⟨e1,e2⟩:=hout id g
   exact⟨id,o,by rw[←e1];exact h1,h2,by rw[←e2];exact h4⟩
 have hF:∀β a v,Fr (own φ h) Bw w β a v→Fr (own φ' h') Bw w β a v:=fun β a v h=>⟨fun x=>h.1 (hown _ x),h.2⟩
 have hmix:∀i j o o' k,G i→¬G j→h' i=some o→o.live=true→h' j=some o'→o'.live=true→φ' i k→φ' j k→False:=fun i j o o' k gi gj h1 h2 h3 h4 h5 h6=>by
  obtain⟨j0,o0,p1,p2,p3,p4⟩:=(hin i o gi h1).2 h2 k h5
  obtain⟨e1,e2⟩:=hout j gj
  rw[e1]at h3
  rw[e2]at h6
  have:=m.dj _ _ _ _ k p2 p3 h3 h4 p4 h6
  subst this
  exact gj p1
 refine⟨⟨fun id o hid=> ?_,fun id o k h1 h2 h3=>m.own_lt (hown k ⟨id,o,h1,h2,h3⟩),fun i j o o' k h1 h2 h3 h4 h5 h6=> ?_,m.bw,fun k hk=>m.ow k (hown k hk),m.kp,fun i u hi=>hρ i u (m.pin i u hi)⟩,hF⟩
 ·by_cases g:G id
  ·obtain⟨⟨u,q1,q2⟩,_⟩:=hin id o g hid
   exact⟨u,q1,q2 _ hF⟩
  ·obtain⟨e1,e2⟩:=hout id g
   rw[e1]at hid
   obtain⟨u,q1,q2⟩:=m.ob id o hid
   exact⟨u,hρ _ _ q1,by rw[e2];exact OR.mono hF hρ (fun _ h=>h) (fun _ _ _=>rfl) q2⟩
 ·by_cases gi:G i <;> by_cases gj:G j
  ·exact hdj i j o o' k gi gj h1 h2 h3 h4 h5 h6
  ·exact(hmix i j o o' k gi gj h1 h2 h3 h4 h5 h6).elim
  ·exact(hmix j i o' o k gj gi h3 h4 h1 h2 h6 h5).elim
  ·obtain⟨e1,e2⟩:=hout i gi
   obtain⟨e3,e4⟩:=hout j gj
   rw[e1]at h1
   rw[e3]at h3
   rw[e2]at h5
   rw[e4]at h6
   exact m.dj i j o o' k h1 h2 h3 h4 h5 h6
theorem Mem.closeRow(m:Mem Bw w0 ρ φ h w){i j k:Nat}{te e2:TypeId}{A:Ty}{xss:List (List A.den)}{ys:List A.den}(hi:h i=some (.mat te e2 A xss (some (k,j))))(hj:h j=some (.arr e2 A ys)):
  Mem Bw w0 ρ (upd φ i (fun b=>φ i b∨φ j b)) (upd (upd h j none) i (some (.mat te e2 A (xss.set k ys) none))) w ∧
  (∀β a v,Fr (own φ h) Bw w β a v→Fr (own (upd φ i (fun b=>φ i b∨φ j b)) (upd (upd h j none) i (some (.mat te e2 A (xss.set k ys) none)))) Bw w β a v):=by
 have hij:i≠j:=fun e=>by subst e;rw[hi]at hj;cases hj
 refine m.regroup (fun _ _ h=>h) (fun x=>x=i∨x=j) (fun x hx=>⟨?_,?_⟩) (fun x o hx ho=> ?_) (fun x y o o' b hx hy h1 h2 h3 h4 h5 h6=> ?_)
 ·rw[aP _ _ (fun e=>hx (.inl e)),aP _ _ (fun e=>hx (.inr e))]
 ·rw[aP _ _ (fun e=>hx (.inl e))]
 ·rcases hx with rfl | rfl
  ·rw[aI]at ho
   cases ho
   rw[aI]
   obtain⟨u,h1,hs,h0,hk,cells,h3,h4,h5⟩:=m.ob x _ hi
   obtain⟨v,g1,gs,_,rc,g2,g3⟩:=m.ob j _ hj
   have hkl:=hk k j rfl
   refine⟨⟨u,h1,fun F' hF=>⟨fun b hb=> .inl (hs b hb),h0,fun _ _ e=>(by cases e),cells,by rw[List.length_set];exact h3,fun r hr=> ?_,fun r r' vr vr' b hne _ _ e1 e2 b1 b2=> ?_⟩⟩,fun _ b hb=> ?_⟩
   ·rw[List.length_set]at hr
    obtain⟨vr,p1,p2,p3,p4⟩:=h4 r hr
    refine⟨vr,p1,p2,fun _=> ?_,fun id e=>by cases e⟩
    by_cases e:r=k
    ·subst e
     have:=p4 j rfl
     rw[g1]at this
     cases this
     simp only[List.getElem_set_self]
     refine⟨fun b hb=>⟨.inr (gs b hb),fun hb2=> ?_⟩,rc,g2,fun q hq=>Vcells.mono (hF _) (fun _ _ h=>h) (g3 q hq)⟩
     exact hij (m.dj x j _ _ b hi rfl hj rfl (hs b hb2) (gs b hb))
    ·rw[List.getElem_set_ne (Ne.symm e)]
     exact(p3 (fun k' id' e'=>by cases e';exact e)).mono hF (fun _ h=> .inl h) (fun _ _=>rfl)
   ·-- two rows
    have hr:r<xss.length:=by
     have:=(List.getElem?_eq_some_iff.1 e1).1
     have:=h3.1
     omega
    have hr':r'<xss.length:=by
     have:=(List.getElem?_eq_some_iff.1 e2).1
     have:=h3.1
     omega
    obtain⟨vr1,p1,p2,p3,p4⟩:=h4 r hr
    obtain⟨vr2,q1,q2,q3,q4⟩:=h4 r' hr'
    rw[e1]at p1
    rw[e2]at q1
    cases p1
    cases q1
    by_cases c1:r=k
    ·subst c1
     have:=p4 j rfl
     rw[g1]at this
     cases this
     have c2:=q3 (fun k' id' e'=>by cases e';exact Ne.symm hne)
     exact hij (m.dj x j _ _ b hi rfl hj rfl (c2.1 b b2).1 (gs b b1))
    ·by_cases c2:r'=k
     ·subst c2
      have:=q4 j rfl
      rw[g1]at this
      cases this
      have c3:=p3 (fun k' id' e'=>by cases e';exact hne)
      exact hij (m.dj x j _ _ b hi rfl hj rfl (c3.1 b b1).1 (gs b b2))
     ·exact h5 r r' vr vr' b hne (fun k' id' e'=>by cases e';exact c1) (fun k' id' e'=>by cases e';exact c2) e1 e2 b1 b2
   ·rcases hb with hb | hb
    ·exact⟨x,_,.inl rfl,hi,rfl,hb⟩
    ·exact⟨j,_,.inr rfl,hj,rfl,hb⟩
  ·rw[aP _ _ (Ne.symm hij),aI]at ho
   cases ho
 ·rcases hx with rfl | rfl <;> rcases hy with rfl | rfl
  ·rfl
  ·rw[aP _ _ (Ne.symm hij),aI]at h3;cases h3
  ·rw[aP _ _ (Ne.symm hij),aI]at h1;cases h1
  ·rfl
theorem Mem.openRow(m:Mem Bw w0 ρ φ h w){i j k:Nat}{te e2:TypeId}{A:Ty}{xss:List (List A.den)}(hi:h i=some (.mat te e2 A xss none))(hj:ρ j=none)(hk:k<xss.length):
  ∃v cells u,ρ i=some u∧w.ownsRow 0 te 1 u xss.length cells∧cells[k]? = some v∧(∃ad n c,v = .slice ad n c) ∧
  Mem Bw w0 (upd ρ j (some v)) (upd (upd φ i (fun b=>φ i b∧jT v≠some b)) j (fun b=>jT v=some b)) (upd (upd h i (some (.mat te e2 A xss (some (k,j))))) j (some (.arr e2 A xss[k]))) w ∧
  (∀β a v',Fr (own φ h) Bw w β a v'→Fr (own (upd (upd φ i (fun b=>φ i b∧jT v≠some b)) j (fun b=>jT v=some b)) (upd (upd h i (some (.mat te e2 A xss (some (k,j))))) j (some (.arr e2 A xss[k])))) Bw w β a v') ∧
  (∀i u,ρ i=some u→upd ρ j (some v) i=some u):=by
 obtain⟨u,h1,hs,h0,_,cells,h3,h4,h5⟩:=m.ob i _ hi
 have hij:i≠j:=fun e=>by subst e;rw[h1]at hj;cases hj
 obtain⟨v,p1,p2,p3,_⟩:=h4 k hk
 obtain⟨r1,rc,r2,r3⟩:=p3 (fun _ _ e=>by cases e)
 have hρ:∀x y,ρ x=some y→upd ρ j (some v) x=some y:=fun x y e=>by
  rw[aP _ _ (fun e'=>by subst e';rw[hj]at e;cases e)];exact e
 refine⟨v,cells,u,h1,h3,p1,p2,?_⟩
 have key:=m.regroup (h':=upd (upd h i (some (.mat te e2 A xss (some (k,j))))) j (some (.arr e2 A xss[k]))) (φ':=upd (upd φ i (fun b=>φ i b∧jT v≠some b)) j (fun b=>jT v=some b)) hρ (fun x=>x=i∨x=j)
  (fun x hx=>⟨by rw[aP _ _ (fun e=>hx (.inr e)),aP _ _ (fun e=>hx (.inl e))],by rw[aP _ _ (fun e=>hx (.inr e)),aP _ _ (fun e=>hx (.inl e))]⟩) (fun x o hx ho=> ?_) (fun x y o o' b hx hy q1 q2 q3 q4 q5 q6=> ?_)
 ·exact⟨key.1,key.2,hρ⟩
 ·rcases hx with rfl | rfl
  ·rw[aP _ _ hij,aI]at ho
   cases ho
   rw[show upd (upd φ x (fun b=>φ x b∧jT v≠some b)) j (fun b=>jT v=some b) x=fun b=>φ x b∧jT v≠some b by rw[aP _ _ hij,aI]]
   refine⟨⟨u,hρ _ _ h1,fun F' hF=>⟨fun b hb=>⟨hs b hb,fun e=>(r1 b e).2 hb⟩,h0,fun _ _ e=>(by cases e;exact hk),cells,h3,fun r hr=> ?_,fun r r' vr vr' b hne s1 s2=> ?_⟩⟩,fun _ b hb=>⟨x,_,.inl rfl,hi,rfl,hb.1⟩⟩
   ·obtain⟨vr,t1,t2,t3,_⟩:=h4 r hr
    refine⟨vr,t1,t2,fun hsh=> ?_,fun id e=> ?_⟩
    ·have hrk:r≠k:=hsh k j rfl
     obtain⟨a1,a2⟩:=t3 (fun _ _ e=>by cases e)
     refine RowOK.mono hF (fun _ h=>h) (fun _ _=>rfl) (w:=w) (S:=fun b=>φ x b∧jT v≠some b) ⟨fun b hb=>⟨⟨(a1 b hb).1,?_⟩,(a1 b hb).2⟩,a2⟩
     exact h5 r k vr v b hrk (fun _ _ e=>by cases e) (fun _ _ e=>by cases e) t1 p1 hb
    ·cases e
     rw[t1]at p1
     cases p1
     exact aI _ _ _
   ·exact h5 r r' vr vr' b hne (fun _ _ e=>by cases e) (fun _ _ e=>by cases e)
  ·rw[aI]at ho
   cases ho
   rw[show upd (upd φ i (fun b=>φ i b∧jT v≠some b)) x (fun b=>jT v=some b) x=fun b=>jT v=some b from aI _ _ _]
   exact⟨⟨v,aI _ _ _,fun F' hF=>⟨fun b hb=>hb,h0,rc,r2,fun q hq=>Vcells.mono (hF _) (fun _ _ h=>h) (r3 q hq)⟩⟩,fun _ b hb=>⟨i,_,.inl rfl,hi,rfl,(r1 b hb).1⟩⟩
 ·rcases hx with rfl | rfl <;> rcases hy with rfl | rfl
  ·rfl
  ·rw[aP _ _ hij,aI]at q5
   rw[aI]at q6
   exact absurd q6 q5.2
  ·rw[aP _ _ hij,aI]at q6
   rw[aI]at q5
   exact absurd q5 q6.2
  ·rfl
theorem Mem.less(m:Mem Bw w0 ρ φ h w){h':Nat→Option Obj}(hh:∀i o,h' i=some o→h i=some o):
  Mem Bw w0 ρ φ h' w∧(∀β a v,Fr (own φ h) Bw w β a v→Fr (own φ h') Bw w β a v):=by
 have hown:∀k,own φ h' k→own φ h k:=fun k ⟨id,o,h1,h2,h4⟩=>⟨id,o,hh _ _ h1,h2,h4⟩
 have hF:∀β a v,Fr (own φ h) Bw w β a v→Fr (own φ h') Bw w β a v:=fun β a v h=>⟨fun x=>h.1 (hown _ x),h.2⟩
 refine⟨⟨fun id o hid=> ?_,fun id o k h1 h2 h3=>m.lt id o k (hh _ _ h1) h2 h3,fun id id' o o' k h1 h2 h3 h4 h5 h6=>m.dj id id' o o' k (hh _ _ h1) h2 (hh _ _ h3) h4 h5 h6,m.bw,fun k hk=>m.ow k (hown k hk),m.kp,m.pin⟩,hF⟩
 obtain⟨u,q1,q2⟩:=m.ob id o (hh _ _ hid)
 exact⟨u,q1,OR.mono hF (fun _ _ h=>h) (fun _ h=>h) (fun _ _ _=>rfl) q2⟩
theorem Slots.mono{F F':Bool→Addr→Value→Prop}{ρ ρ':Nat→Option Value}{s:Nat→AVal}(hF:∀β a v,F β a v→F' β a v)(hρ:∀i u,ρ i=some u→ρ' i=some u)
  (h:Slots n F ρ s a):Slots n F' ρ' s a:=⟨h.tm,h.df,fun t=>V.mono hF hρ (h.sl t)⟩
theorem Slots.put{F:Bool→Addr→Value→Prop}{ρ:Nat→Option Value}{s:Nat→AVal}(h:Slots n F ρ s a){x:AVal}{v:Value}(hv:V F ρ x v){d:Nat}(hd:d<n.sz):
  Slots n F ρ (upd s d x) (a.put (some d) v):=by
 refine⟨by simp[Act.put,h.tm],h.df,fun t=> ?_⟩
 have hs:=h.tm
 by_cases e:t=d
 ·subst e
  rw[aI]
  have:(a.put (some t) v).tmps.getD t undef=v:=by
   simp[Act.put,Array.getD,hs,hd]
  rw[this];exact hv
 ·rw[aP _ _ e]
  have:(a.put (some d) v).tmps.getD t undef=a.tmps.getD t undef:=by
   simp only[Act.put,Array.getD_eq_getD_getElem?]
   rw[Array.getElem?_setIfInBounds_ne (Ne.symm e)]
  rw[this];exact h.sl t
theorem Mem.drew(m:Mem Bw w0 ρ φ h w):Mem Bw w0 ρ φ h w.drew∧(∀β a v,Fr (own φ h) Bw w β a v→Fr (own φ h) Bw w.drew β a v) :=
 ⟨⟨fun id o hid=>let ⟨u,q1,q2⟩:=m.ob id o hid;⟨u,q1,OR.mono (fun _ _ _ h=>h) (fun _ _ h=>h) (fun _ h=>h) (fun _ _ _=>rfl) q2⟩,m.lt,m.dj,m.bw,m.ow,m.kp.drew,m.pin⟩,fun _ _ _ h=>h⟩
end
end Go.Tv
