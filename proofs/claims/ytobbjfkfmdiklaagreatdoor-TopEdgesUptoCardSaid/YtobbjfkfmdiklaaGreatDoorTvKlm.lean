import Derived.Test.YtobbjfkfmdiklaaGreatDoorTvKjm
import Derived.Lib.AppendStr
import Derived.Lib.AppendZerosOnto
namespace Go.Tv
open Go Go.RowKit
section
variable{P:Program}{Bw:Nat→Prop}{w0:cC P}{ρ:Nat→QW}{φ:Nat→Nat→Prop}{h:Nat→Qz}{w:World}{new:Nat}
theorem Ip{b:Nat}{v:Value}(hp:w.qJ ⟨b,0,some 0⟩=some v):∃j cl,w.heap[b]? = some (.map j cl)∧v = .tuple (j.map fun e=>Value.tuple #[e.key,e.val]):=by
 unfold World.qJ at hp;simp only at hp;split at hp
 ·rename_i j cl hb;cases hp;exact⟨j,cl,hb,rfl⟩
 ·cases hp
def zu(q:IntKind)(j:Bool)(r:Option Int):ag :=
 if j then .tup [.p false (.int q) (r.getD 0),.p false .bool r.isSome]else .p false (.int q) (r.getD 0)
theorem Dc{F:Bool→Addr→Value→Prop}{p:IntKind}{j:Bool}{r:Option Int}{v:Value}{b:Bool}(q:v = .int p (r.getD 0))(hb:b=r.isSome):V F ρ (zu p j r) (if j then .tuple #[v,.bool b]else v):=by
 subst q hb;cases j
 ·simp[zu,V,ai,Ty.scalar]
 ·simp only[zu,if_true,V,VL];exact⟨_,rfl,rfl,⟨_,rfl,by simp[ai,Ty.scalar]⟩,⟨_,rfl,by simp[ai,Ty.scalar]⟩,trivial⟩
theorem Hn{t q u:TypeId}{ti J L:TI}(ht:aN P t ti)(hk:ti.k = .mp q u){M x:IntKind}(A:aN P q L)(B:L.k = .int M)(p:aN P u J)(hT:J.T=some (.int x)):
  P.underlying t=some (.map q u)∧(zeroValue u).run P w = .ok (.int x 0) w∧hY P q (.int M):=by
 obtain⟨N,hm,j⟩:=ht.hu;rw[hk]at j;simp only[UK]at j;subst j;obtain⟨z,hz,C,D,E⟩:=dT p w;have I:MV (fun _ _=>True) (.int x) (Ty.zero (.int x)) z:=zR p hT hz C D E;have:=Jz (F:=fun _ _ _=>True) (ρ:=jl) I;simp only[enc,Ty.scalar,if_true,V,ai]at this;rw[←this.2]at hz;exact⟨hm,hz,hY.Ea A (by rw[B];rfl)⟩
theorem look_nil(m:Mem Bw w0 ρ φ h w){o:Oper}{a:Act}{t A E:TypeId}{ti I J:TI}(ht:aN P t ti)(hk:ti.k = .mp A E){x z:IntKind}(B:aN P A J)(C:J.k = .int x)(D:aN P E I)(hT:I.T=some (.int z))
  {L M:Operand} {p:Bool} (N:o.op = .lookup t L M p) (O:a.eval L = .map none) {i:Int} (V:a.eval M=aS (.int x) i) :
  Good P o a w (aF Bw w0 ρ φ h w new (zu z p (bh (α:=Int) (.int x) [] i)) []):=by
 obtain⟨hm,hz,u⟩:=Hn (w:=w) ht hk B C D hT;have hf:=u.find i [] [] w rfl;have q:(Instr.findKey A (aS (.int x) i) []).run P w = .ok none w:=by
  rcases hf with⟨h1,_⟩ | ⟨j,e,_,h2,_⟩
  ·exact h1
  ·simp at h2
 refine Good.aG (v:=if p then .tuple #[.int z 0,.bool false]else .int z 0) (w':=w) ?_ (aF.pure m (Dc rfl rfl));simp only[execOp,N];rw[O,V];cases p <;> simp[Instr.lookup,run_underlying hm,u.check,q,hz,Result.andThen]
theorem Ew(m:Mem Bw w0 ρ φ h w){o:Oper}{a:Act}{t kt et:TypeId}{ti te tk:TI}(ht:aN P t ti)(hk:ti.k = .mp kt et){u I:IntKind}(N:aN P kt tk)(O:tk.k = .int u)(V:aN P et te)(hT:te.T=some (.int I))
  {xo ko:Operand} {q:Bool} (ho:o.op = .lookup t xo ko q) {b:Nat} (e1:a.eval xo = .map (some b)) {i:Int} (e2:a.eval ko=aS (.int u) i) {B:Array MapEntry} {cl:Nat} (hb:w.heap[b]? = some (.map B cl))
  {A:Qq} (L:B.toList.map (·.key)=A.map (fun p=>Value.int u p.1)) (X:B.toList.map (·.val)=A.map (fun p=>Value.int I p.2)) (Y:(A.map (·.1)).Nodup) :
  Good P o a w (aF Bw w0 ρ φ h w new (zu I q (bh (α:=Int) (.int u) A i)) []):=by
 obtain⟨hm,hz,C⟩:=Hn (w:=w) ht hk N O V hT;have z:B.toList.map (·.key)=(A.map (·.1)).map (aS (.int u)):=by rw[L,List.map_map];rfl
 have M:∀(j:Nat) (e:MapEntry),B.toList[j]? = some e→∃p:Int×Int,A[j]? = some p∧e.key=Value.int u p.1∧e.val=Value.int I p.2:=fun j e he=>by
  have h1:=congrArg (fun l=>l[j]?) L;have h2:=congrArg (fun l=>l[j]?) X;simp only[List.getElem?_map,he]at h1 h2;cases q1:A[j]? with
  | none=>rw[q1]at h1;simp at h1
  | some p=>rw[q1]at h1 h2;simp at h1 h2;exact⟨p,rfl,h1,h2⟩
 rcases C.find i B.toList (A.map (·.1)) w z with⟨h1,h2⟩ | ⟨j,e,h1,h2,h3⟩
 ·have D:bh (α:=Int) (.int u) A i=none:=nH (K:= .int u) rfl fun p hp e=>by
   obtain⟨j,hj⟩:=List.mem_iff_getElem?.1 hp;have J:(B.toList.map (·.key))[j]? = some (aS (.int u) i):=by rw[z,List.getElem?_map,List.getElem?_map,hj];exact congrArg some (congrArg (aS (.int u)) e)
   rw[List.getElem?_map]at J;cases Z:B.toList[j]? with
   | none=>rw[Z]at J;cases J
   | some x =>rw[Z]at J;simp at J;exact h2 x (List.mem_of_getElem? Z) J
  rw[D];refine Good.aG (v:=if q then .tuple #[.int I 0,.bool false]else .int I 0) (w':=w) ?_ (aF.pure m (Dc rfl rfl));simp only[execOp,ho];rw[e1,e2];cases q <;> simp[Instr.lookup,run_underlying hm,Go.MapKept.run_getObj_map hb,C.check,h1,hz,Result.andThen]
 ·obtain⟨p,hp,a1,a2⟩:=M j e h2;have a3:p.1=i:=by rw[a1]at h3;simpa [aS]using h3
  have E:=ng (K:= .int u) (α:=Int) (k:=i) rfl Y hp a3;rw[E];refine Good.aG (v:=if q then .tuple #[e.val,.bool true]else e.val) (w':=w) ?_ (aF.pure m (Dc (by rw[a2];rfl) rfl));simp only[execOp,ho];rw[e1,e2];cases q <;> simp[Instr.lookup,run_underlying hm,Go.MapKept.run_getObj_map hb,C.check,h1,Result.andThen]
theorem zW(m:Mem Bw w0 ρ φ h w){o:Oper}{a:Act}{t Y Z:TypeId}{ti te tk:TI}(ht:aN P t ti)(hk:ti.k = .mp Y Z){q z:IntKind}(A:aN P Y tk)(B:tk.k = .int q)(C:aN P Z te)(hT:te.T=some (.int z))
  {xo L:Operand} {D:Bool} (ho:o.op = .lookup t xo L D) {β:Bool} {x:Qq} (hx:V (Fr (own φ h) Bw w) ρ (.p β (.mapi q z) x) (a.eval xo)) {M:Bool} {i:Int} (hi:V (Fr (own φ h) Bw w) ρ (.p M (.int q) i) (a.eval L)) :
  Good P o a w (aF Bw w0 ρ φ h w new (zu z D (bh (α:=Int) (.int q) x i)) []):=by
 have e2:a.eval L=aS (.int q) i:=rD rfl rfl hi;simp only[V,ai]at hx;obtain⟨-,r,e1,N⟩:=hx;cases r with
 | none =>
  simp only at N;subst N;exact look_nil m ht hk A B C hT ho e1.symm e2
 | some b =>
  obtain⟨O,X⟩:=N;obtain⟨I,cl,hb,u⟩:=Ip O.2.2;unfold Ls at u;simp only[Value.tuple.injEq]at u;have hl:(x.map fun p=>Value.tuple #[.int q p.1,.int z p.2])=I.toList.map fun e=>Value.tuple #[e.key,e.val]:=by have:=congrArg Array.toList u;simpa using this
  have E:∀j:Nat,(I.toList.map (·.key))[j]? = (x.map (fun p=>Value.int q p.1))[j]? ∧(I.toList.map (·.val))[j]? = (x.map (fun p=>Value.int z p.2))[j]? :=fun j=>by
   have:=congrArg (fun l=>l[j]?) hl;simp only[List.getElem?_map]at this ⊢;cases q1:x[j]? <;> cases q2:I.toList[j]? <;> rw[q1,q2]at this <;> simp at this ⊢
   exact⟨this.1.symm,this.2.symm⟩
  exact Ew m ht hk A B C hT ho e1.symm e2 hb (List.ext_getElem? fun j=>(E j).1) (List.ext_getElem? fun j=>(E j).2) X
/-! ### Rows of J -/
theorem ve{F:Bool→Addr→Value→Prop}{sz:Nat}:∀ {j:List ag} {vs:QY},(∀x∈j,(cellsOf x).all ag.cell=true∧(cellsOf x).length=sz)→iS F ρ j vs →
  vs.length=j.length∧(∀v∈vs,v.cells.size=sz)∧VL F ρ (j.flatMap cellsOf) (fun k u=>(vs.flatMap fun v=>v.cells.toList)[k]? = some u)
 | [],[],_,_=>⟨rfl,fun _ h=>by simp at h,by simp only[List.flatMap_nil,VL]⟩
 | x::j,v::vs,hc,⟨h1,h2⟩=>by
  obtain⟨C,D⟩:=hc x (by simp);obtain⟨E,I,J⟩:=ve (fun y L=>hc y (by simp[L])) h2;obtain⟨M,z,N⟩:=fV C h1;refine⟨by simp[E],fun u hu=>?_,?_⟩
  ·rcases List.mem_cons.1 hu with rfl | hu
   ·rw[←D,←z,Array.length_toList]
   ·exact I u hu
  ·rw[List.flatMap_cons,List.flatMap_cons];refine VL.mk fun k y hk=>?_
   rcases Nat.lt_or_ge k (cellsOf x).length with p | q
   ·rw[List.getElem?_append_left p]at hk;obtain⟨u,A,B⟩:=VL.get M hk;exact⟨u,by rw[List.getElem?_append_left (by rw[z];exact p)];exact A,B⟩
   ·rw[List.getElem?_append_right q]at hk;obtain⟨u,A,B⟩:=VL.get J hk;exact⟨u,by rw[List.getElem?_append_right (by rw[z];exact q),z];exact A,B⟩
 | [],_::_,_,h=>h.elim
 | _::_,[],_,h=>h.elim
theorem ye(m:Mem Bw w0 ρ φ h w)(hn:ρ new=none){o:Oper}{a:Act}{t e:TypeId}{ti B:TI}(ht:aN P t ti)(hk:ti.k = .sl e)(O:aN P e B)
  {parts:Array (Nat×Operand)} {len:Nat} (ho:o.op = .buildSlice t len parts) (hp:parts.toList.map (·.1)=List.range len) {z:List ag}
  (hx:iS (Fr (own φ h) Bw w) ρ z (parts.toList.map fun p=>a.eval p.2)) (hc:∀x∈z,(cellsOf x).all ag.cell=true∧(cellsOf x).length=B.size) (X:len*B.size≤16777216) :
  Good P o a w (aF Bw w0 ρ φ h w new (.sl new) [(new,some (.vrow len B.size (z.flatMap cellsOf)))]):=by
 obtain⟨g1,g2,g3⟩:=ve hc hx;have q:(parts.toList.map fun p=>a.eval p.2).length=len:=by have:=congrArg List.length hp;simpa using this
 have C:(parts.map fun p=>(p.1,a.eval p.2))=(((parts.toList.map fun p=>a.eval p.2).zipIdx 0).map fun p=>(p.2,p.1)).toArray:=by
  apply Array.ext';simp only[Array.toList_map];apply List.ext_getElem?;intro j;simp only[List.getElem?_map,List.getElem?_zipIdx,Option.map_map];have E:=congrArg (fun l=>l[j]?) hp;simp only[List.getElem?_map]at E;cases Y:parts.toList[j]? with
  | none=>simp[Y]
  | some p =>
   simp only[Y,Option.map_some]at E ⊢;have Z:j<len:=by have:=(List.getElem?_eq_some_iff.1 Y).1;have h2:=congrArg List.length hp;simp only[List.length_map,List.length_range]at h2;omega
   rw[List.getElem?_range Z]at E;simp only[Option.some.injEq]at E;simp[E]
 have D:=oJ (P:=P) (w:=w) ht hk O (vs:=parts.toList.map fun p=>a.eval p.2) g2 (by rw[q];exact X);rw[q,←C]at D;refine Good.aG (v:=_) (w':=_) (by simp only[execOp,ho,Sem.run_bind,D,Result.andThen_ok];rfl) ?_;have I:∀ {vs:QY},(∀v∈vs,v.cells.size=B.size)→(vs.flatMap fun v=>v.cells.toList).length=vs.length*B.size:=fun {vs} J=>by
  induction vs with
  | nil=>simp
  | cons v vs ih=>rw[List.flatMap_cons,List.length_append,ih (fun u hu=>J u (by simp[hu])),Array.length_toList,J v (by simp),List.length_cons,Nat.succ_mul,Nat.add_comm]
 have A:∀ {z:List ag},(∀x∈z,(cellsOf x).all ag.cell=true∧(cellsOf x).length=B.size)→(z.flatMap cellsOf).length=z.length*B.size:=fun {z} J=>by
  induction z with
  | nil=>simp
  | cons v vs ih=>rw[List.flatMap_cons,List.length_append,ih (fun u hu=>J u (by simp[hu])),(J v (by simp)).2,List.length_cons,Nat.succ_mul,Nat.add_comm]
 have L:z.length=len:=by rw[←g1,q]
 refine cT m none new (.vrow len B.size (z.flatMap cellsOf)) (.slice (some ⟨w.heap.size,0,none⟩) len len) none (World.grownBy_alloc w _ none) (fun k e=>by cases e) (.inl hn) (fun _ k hk=>?_) (fun F' a1 hF M=>?_) (by rw[bn];rfl) (fun _=>rfl) (fun F' a1 hF M N=>?_)
 ·simp only[dw,Option.some.injEq]at hk;exact .inl (by omega)
 ·simp only[OR];refine⟨_,e,_,rfl,rfl,heap_alloc_new w _,?_,?_,VL.mono hF M (fun k u hk=>by simpa using hk) g3⟩
  ·rw[List.size_toArray,I g2,A hc,q,L]
  ·rw[A hc,L]
 ·simp only[V];exact⟨N,_,_,_,rfl⟩
theorem zJ(m:Mem Bw w0 ρ φ h w){id n sz:Nat}{j:List ag}(hb:h id=some (.vrow n sz j)){u:Value}(q:ρ id=some u):
  ∃g t cells,u = .slice (some ⟨g,0,none⟩) n n∧w.heap[g]? = some (.cells cells t (0,0))∧cells.size=j.length∧j.length=n*sz∧VL (Fr (own φ h) Bw w) ρ j (fun k v=>cells[k]? = some v):=by
 obtain⟨C,p,g,t,cells,rfl,_,x,z,A,B⟩:=m.ob id _ hb;rw[q]at p;cases p;exact⟨g,t,cells,rfl,x,z,A,B⟩
theorem AO(m:Mem Bw w0 ρ φ h w){o:Oper}{a:Act}{t:TypeId}{ti:TI}(ht:aN P t ti){e:TypeId}(hk:ti.k = .sl e){xo:Operand}{id n sz:Nat}{u:List ag}(q:V (Fr (own φ h) Bw w) ρ (.sl id) (a.eval xo))
  (hb:h id=some (.vrow n sz u)) (x:o.op = .call { callee:= .builtin .len,args:= #[xo],argTypes:= #[t] }):Good P o a w (aF Bw w0 ρ φ h w new (.p false (.int .i64) (n:Int)) []):=by
 obtain⟨d,h1,h2⟩:=ht.hu;rw[hk]at h2;simp only[UK]at h2;subst h2;simp only[V]at q;obtain⟨j,-⟩:=q;obtain⟨g,A,cells,z,-⟩:=zJ m hb j;refine Good.aG (v:= .int .i64 n) (w':=w) ?_ (aF.pure m (dF _ _ _));simp only[execOp,x,resolve,invoke,builtin,Sem.run_bind,Sem.run_pure,Result.andThen_ok,List.map_toArray,List.map_cons,List.map_nil,z];simp[Builtin.len_,run_underlying h1,goInt]
theorem xN(m:Mem Bw w0 ρ φ h w){o:Oper}{a:Act}{t e:TypeId}{ti q:TI}(ht:aN P t ti)(hk:ti.k = .sl e)(u:aN P e q){xo io:Operand}{id n:Nat}{A:List ag}(x:V (Fr (own φ h) Bw w) ρ (.sl id) (a.eval xo))
  (hb:h id=some (.vrow n q.size A)) {β:Bool} {k:IntKind} {i:Int} (hi:V (Fr (own φ h) Bw w) ρ (.p β (.int k) i) (a.eval io)) (B:o.op = .indexAddr t xo io) (C:0≤i) (hn:i<n) :
  Good P o a w (aF Bw w0 ρ φ h w new (.adr id i.toNat q.size 0) []):=by
 have hu:=aY ht hk;have D:=bQ hi;simp only[V]at x;obtain⟨j,-⟩:=x;obtain⟨g,E,cells,z,-⟩:=zJ m hb j;refine Good.aG (v:= .pointer (some ((⟨g,0,none⟩:Addr).add (i.toNat*q.size)))) (w':=w) ?_ (aF.pure m ?_)
 ·simp[execOp,B,Instr.indexAt,asIntOf,D,z,run_underlying hu,run_sizeOf u,C,hn]
 ·simp only[V];exact⟨g,.inr ⟨_,_,by rw[j,z]⟩,by rw[ck];simp⟩
theorem zz(m:Mem Bw w0 ρ φ h w){o:Oper}{a:Act}{t:TypeId}{ti:TI}(ht:aN P t ti){xo:Operand}{id i sz off:Nat}(C:V (Fr (own φ h) Bw w) ρ (.adr id i sz off) (a.eval xo))(D:o.op = .load t xo)
  {n q:Nat} {x:List ag} (hb:h id=some (.vrow n q x)) {y:ag} (E:gq ti x (i*sz+off)=some y):Good P o a w (aF Bw w0 ρ φ h w new y []):=by
 obtain⟨u,z,_⟩:=m.ob id _ hb;obtain⟨g,O,cells,rfl,I,X,Y,J⟩:=zJ m hb z;simp only[V]at C;obtain⟨A,j,L⟩:=C;have B:A=g:=by
  rcases j with j | ⟨_,_,j⟩
  ·rw[z]at j;cases j
  ·rw[z]at j;cases j;rfl
 subst B;have p:VL (Fr (own φ h) Bw w) ρ x (fun k u=>w.cell? ((⟨A,0,none⟩:Addr).add k)=some u):=VL.mono (fun _ _ _ h=>h) (fun _ _ h=>h) (fun k u hk=>by
  rw[ck,Nat.zero_add];simp only[World.cell?,I];exact hk) J
 obtain⟨v,M,N⟩:=iO (P:=P) ht p E;refine Good.aG (v:=v) (w':=w) ?_ (aF.pure m N);have:a.eval xo = .pointer (some ((⟨A,0,none⟩:Addr).add (i*sz+off))):=by rw[L,ck,Nat.zero_add]
 simp[execOp,D,Instr.loadAt,this,Instr.sureAddr,M]
theorem BB{w:World}{g:Nat}{j:QU}{q:TypeId}{mk:Nat×Nat}(u:w.heap[g]? = some (.cells j q mk))(p:mk=(0,0)∨mk=(j.size,j.size+1)):
  (w.freeze ⟨g,j.size,none⟩ 1).heap[g]? = some (.cells j q (j.size,j.size+1)):=by
 unfold World.freeze;rw[if_neg (by decide)];simp only[Array.getElem?_modify,u,if_true,Option.map_some];rcases p with rfl | rfl
 ·simp
 ·simp
theorem rC(w:World)(g k:Nat):w.grownBy (w.freeze ⟨g,k,none⟩ 1) (some g):=by
 refine⟨rfl,rfl,rfl,?_,fun j q p=>?_⟩
 ·unfold World.freeze;rw[if_neg (by decide)];simp
 ·unfold World.freeze;rw[if_neg (by decide)];have:g≠j:=fun e=>p (by rw[e])
  simp[Array.getElem?_modify,this]
theorem xY(m:Mem Bw w0 ρ φ h w){o:Oper}{a:Act}{t e:TypeId}{ti Y:TI}(ht:aN P t ti)(hk:ti.k = .sl e)(I:aN P e Y)(J:Y.k = .int .u8){xo:Operand}{id:Nat}(Z:V (Fr (own φ h) Bw w) ρ (.sl id) (a.eval xo))
  (ho:o.op = .convert t t xo) {q:TypeId} {p:QK} (hi:h id=some (.arr q (.int .u8) p)) (h0:0<p.length):Good P o a w (aF Bw w0 ρ φ h w new (.sl id) [(id,some (.bytes q p)),(id,some (.bytes q p))]):=by
 have hu:=aY ht hk;obtain⟨d2,L,x⟩:=I.hu;rw[J]at x;simp only[UK]at x;subst x;obtain⟨M,f1⟩:=m.Eu hi;obtain⟨u,q1,q2⟩:=M.ob id _ (aB h id (some (.bytes q p)));simp only[V]at Z;obtain⟨z,-⟩:=Z;rw[z]at q1;cases q1;rcases q2 with⟨_,hn⟩ | ⟨g,cap,j,mk,N,A,r1,r2,r3,r5,r6⟩
 ·subst hn;simp at h0
 have O:w.shape? g=some (q,j.size):=by unfold World.shape?;rw[r1]
 have B:(convert t t (.slice (some ⟨g,0,none⟩) p.length cap)).run P w = .ok (.slice (some ⟨g,0,none⟩) p.length cap) (w.freeze ⟨g,j.size,none⟩ 1):=by simp[convert,run_underlying hu,run_underlying L,markStringish,O]
 refine Good.aG (v:=a.eval xo) (w':=w.freeze ⟨g,j.size,none⟩ 1) (by simp only[execOp,ho,N,Sem.run_bind,B,Result.andThen_ok];rfl) ?_;refine aF.after (u1:=[(id,some (.bytes q p))]) (u2:=[(id,some (.bytes q p))]) rfl f1 ?_;refine dW M (some id) id (.bytes q p) (a.eval xo) (φ id) (some g) (rC w g _) (fun k e=>⟨id,_,rfl,aB _ _ _,rfl,by cases e;exact A⟩) (.inr ⟨rfl,z⟩)
  (fun _ k hk=>Nat.lt_of_lt_of_le (M.lt id _ k (aB _ _ _) rfl hk) (rC w g _).size) (fun _ k hk=> .inr ⟨id,_,rfl,aB _ _ _,rfl,hk⟩) (fun F' X hF C=>?_) (by rw[bm];rfl) (fun e=>by rw[z]at e;cases e) (fun F' X hF C D=>?_)
 ·refine .inr ⟨g,cap,j,(j.size,j.size+1),N,A,BB r1 r2,.inr rfl,r3,r5,r6⟩
 ·simp only[V];exact⟨D,_,_,_,N⟩
/-! ### Bytes of a string E a row of bytes -/
theorem se{t u ty e:TypeId}{i:TypeInfo}(ht:P.underlying t=some (.slice e))(hu:P.underlying u=some .string)(hi:P.info? e=some i)(hz:i.zero=some (.int .u8 0))(p:i.size=1)(z:i.bytes=1)
  {v:Value} {n:Nat} {D:QY} (q:w.ownsRow 0 e 1 v n D) (s:ByteArray) (E:n+s.size≤maxLen) (x:n+s.size≤140737488355328) :
  ∃I w',(Builtin.append_ #[t,u] ty #[v,.string s]).run P w = .ok I w'∧w'.ownsRow 0 e 1 I (n+s.size) (D++Lib.strCells s)∧w.grownBy w' v.ownBlock ∧
   ∀k,I.ownBlock=some k→w.heap.size≤k∨v.ownBlock=some k:=by
 obtain⟨I,w',A,h2,X,Y⟩:=Lib.run_append_own_string (P:=P) w 0 t u ty e i ht hu hi hz p z v n D q s E x (Nat.zero_le _);refine⟨I,w',A,h2,X,fun k hk=>?_⟩;have L:n+s.size≤9223372036854775807:=by simp only[maxLen]at E;omega
 rcases q.2 with⟨rfl,rfl⟩ | ⟨g,cap,J,rfl,_,Z,a1,a2,M,N⟩
 ·by_cases hm:s.size=0
  ·rw[Y.2 ⟨rfl,hm⟩]at hk;cases hk
  ·have:=run_append_nil_string (P:=P) w t u ty e i (.int .u8 0) ht hu hi hz s (by omega) (by omega) (by rw[z];omega);rw[this]at A;cases A;simp only[Value.ownBlock,Option.some.injEq]at hk;exact .inl (by omega)
 ·have V:J.size=cap:=by simpa using M
  by_cases B:n+s.size≤cap
  ·have:=Lib.run_append_room_string (P:=P) w t u ty e i ht hu hi p g n cap J Z s B (by omega);rw[this]at A;cases A;exact .inr hk
  ·have C:∀j u,D[j]? = some u→w.cell? ((⟨g,0,none⟩:Addr).add j)=some u:=q.cells (g:=g) rfl;have O:D.length=n:=by simpa using q.1
   have:=Lib.run_append_grow_string (P:=P) w t u ty e i (.int .u8 0) ht hu hi hz ⟨g,0,none⟩ n cap D (by rw[p];simpa using O) C s (by omega) (by omega) (by rw[z];exact growslice_fits (by omega) (by omega));rw[this]at A;cases A;simp only[Value.ownBlock,Option.some.injEq]at hk;exact .inl (by omega)
theorem o9(m:Mem Bw w0 ρ φ h w)(hn:ρ new=none){o:Oper}{a:Act}{t u e:TypeId}{ti tu te:TI}(ht:aN P t ti)(hk:ti.k = .sl e)(a4:aN P u tu)(a5:tu.k = .str)(I:aN P e te)(hT:te.T=some (.int .u8))(a6:te.bytes=1)
  {xo yo:Operand} {x:ag} (O:V (Fr (own φ h) Bw w) ρ x (a.eval xo)) {β:Bool} {s:QX} (hy:V (Fr (own φ h) Bw w) ρ (.p β .str s) (a.eval yo)) (ho:o.op = .call { callee:= .builtin .append,args:= #[xo,yo],argTypes:= #[t,u] })
  {j:QK} {X:QJ} {uu:gX}
  (Y:(x = .nils∧j=[]∧X=none∧uu=[(new,some (.arr e (.int .u8) (bZ s)))])∨(∃id,x = .sl id∧h id=some (.arr e (.int .u8) j)∧X=some id∧uu=[(id,none),(new,some (.arr e (.int .u8) (j++bZ s)))]))
  (hb:j.length+s.length≤140737488355328):Good P o a w (aF Bw w0 ρ φ h w new (.sl new) uu):=by
 obtain⟨i,z,hi,hz,J,B,a7,a8,a9⟩:=I.hi;obtain⟨ac,be,bi⟩:=I.hT _ hT;have hu:=aY ht hk;have ad:te.size=1:=ac.symm;obtain⟨d,ax,L⟩:=a4.hu;rw[a5]at L;simp only[UK]at L;subst L;have b1:z = .int .u8 0:=by
  have b2:(zeroValue e).run P w = .ok z w:=by simp[zeroValue,typeInfo,hi,hz]
  have b3:MV (Fr (own φ h) Bw w false) (.int .u8) (Ty.zero (.int .u8)) z:=zR I hT b2 a7 a8 a9;have:=Jz (ρ:=ρ) b3;simp only[enc,Ty.scalar,if_true,V,ai]at this;exact this.2.symm
 subst b1;have b4:a.eval yo = .string ⟨s.toArray⟩:=pw hy;have A:(⟨s.toArray⟩:ByteArray).size=s.length:=rfl;have C:Lib.strCells ⟨s.toArray⟩=(bZ s).map (Value.int .u8):=by simp[Lib.strCells,bZ]
 obtain⟨cells,v,hv,D,M,b5⟩:∃cells v,a.eval xo=v∧w.ownsRow 0 e 1 v j.length cells ∧
   (∀i (h':i<j.length),cells[i]? = some (.int .u8 j[i])) ∧
   ∀k,v.ownBlock=some k→∃i o,X=some i∧h i=some o∧o.live=true∧φ i k:=by
  rcases Y with⟨rfl,rfl,rfl,_⟩ | ⟨id,rfl,Z,rfl,_⟩
  ·simp only[V]at O;exact⟨[],_,O,World.ownsRow_nil w 0 e _,fun i hi=>absurd hi (by simp),fun k hk=>by cases hk⟩
  ·simp only[V]at O;obtain⟨u,q1,b6,_,cells,r1,r2⟩:=m.ob id _ Z;rw[O.1]at q1;cases q1;obtain⟨_,aa,nn,cc,he⟩:=O;refine⟨cells,_,rfl,r1,fun i hi=>?_,fun k N=>⟨id,_,rfl,Z,rfl,b6 _ (by rw[cE he];exact N)⟩⟩;have:=r2 i hi;simpa [ai,Ty.size]using this
 have a1:apply uu h=bF (fun i=>if X=some i then none else h i) new (some (.arr e (.int .u8) (j++bZ s))):=by
  rcases Y with⟨_,rfl,rfl,rfl⟩ | ⟨id,_,_,rfl,rfl⟩
  ·rw[bn];rfl
  ·rw[rY];rfl
 obtain⟨v',w',hr,h2,h3,h4⟩:=se (P:=P) (ty:=o.type) hu ax hi hz (by rw[J,ad]) (by rw[B,a6]) D ⟨s.toArray⟩ (by rw[A];unfold maxLen;omega) (by rw[A];exact hb);have b7:∃aa nn cc,v' = .slice aa nn cc:=by rcases h2.2 with⟨e,_⟩ | ⟨g,cap,bs,e,_⟩ <;> exact⟨_,_,_,e⟩
 refine Good.aG (v:=v') (w':=w') ?_ ?_
 ·simp only[execOp,ho,resolve,invoke,builtin,Sem.run_bind,Sem.run_pure,Result.andThen_ok,List.map_toArray,List.map_cons,List.map_nil,hv,b4,hr]
 ·obtain⟨aa,nn,cc,E⟩:=b7;rw[A,C]at h2;have a2:(j++bZ s).length=j.length+s.length:=by simp[bZ]
  have hcl:cells.length=j.length:=by simpa using D.1
  refine cT m X new (.arr e (.int .u8) (j++bZ s)) v' v.ownBlock h3 b5 (.inl hn) (fun _ k N=>h4 k (by rw[←cE E];exact N)) (fun F' b8 hF b9=>?_) a1 (fun _=>rfl) (fun F' b8 hF b9 a3=>?_)
  ·refine⟨fun _ h=>h,by decide,cells++(bZ s).map (Value.int .u8),by rw[←a2]at h2;exact h2,fun i hi=>?_⟩;simp only[ai,Ty.size,Nat.mul_one,Nat.add_zero];rcases Nat.lt_or_ge i j.length with q | q
   ·rw[List.getElem_append_left q,List.getElem?_append_left (by omega)];exact M i q
   ·rw[List.getElem_append_right q,List.getElem?_append_right (by omega),hcl];have:i - j.length<(bZ s).length:=by simp only[List.length_append]at hi;omega
    simp[this]
  ·simp only[V];exact⟨a3,_,_,_,E⟩
end
end Go.Tv
namespace Go.Tv
open Go Go.RowKit
open Go.MapKept (run_setObj_map heap_set)
section
variable{P:Program}{tb:bT}{Bw:Nat→Prop}{w0:cC P}{ρ:Nat→QW}{φ:Nat→Nat→Prop}{h:Nat→Qz}{w:World}{new:Nat}
theorem DF(m:Mem Bw w0 ρ φ h w){o:Oper}{a:Act}{t D E:TypeId}{ti:TI}(ht:aN P t ti)(hk:ti.k = .mp D E){xo:Operand}(I:o.op = .call { callee:= .builtin .clear,args:= #[xo],argTypes:= #[t] })
  {id:Nat} {K A:Ty} {J:List (K.den×A.den)} (hi:h id=some (.mpo K A J)) (L:V (Fr (own φ h) Bw w) ρ (.mp id) (a.eval xo)) :
  Good P o a w (aF Bw w0 ρ φ h w new (.tup []) [(id,some (.mpo K A []))]):=by
 obtain⟨r,Z,clock,M,j,q,hb,⟨N,hB⟩,u,O,x⟩:=zB m hi L;obtain⟨dm,hm,p⟩:=ht.hu;rw[hk]at p;simp only[UK]at p;subst p;refine Good.aG (v:= .tuple #[]) (w':= { w with heap:=w.heap.setIfInBounds r (.map #[] clock) }) ?_ ?_
 ·simp only[execOp,I,resolve,invoke,builtin,Sem.run_bind,Sem.run_pure,Result.andThen_ok,List.map_toArray,List.map_cons,List.map_nil,M];simp[Builtin.clear_,run_underlying hm,Go.MapKept.run_getObj_map hb,run_setObj_map _ hb,Result.andThen]
 ·refine dW m (some id) id (.mpo K A []) (.map (some r)) (φ id) (some r) (iM w r _) (fun k e=>⟨id,_,rfl,hi,rfl,by cases e;exact q⟩) (.inr ⟨rfl,j⟩)
   (fun _ k hk=>Nat.lt_of_lt_of_le (m.lt id _ k hi rfl hk) (iM w r _).size) (fun _ k hk=> .inr ⟨id,_,rfl,hi,rfl,hk⟩) (fun F' z X B=>?_) (by rw[bm];rfl) (fun e=>by rw[j]at e;cases e) (fun F' z X j C=>?_)
  ·exact⟨r,#[],clock,rfl,q,(heap_set hb).1,⟨N,List.nodup_nil,fun e Y=>by cases Y⟩,rfl,List.nodup_nil,fun i hi=>absurd hi (by simp)⟩
  ·simp only[V,VL];exact⟨#[],rfl,rfl,trivial⟩
theorem Bi(m:Mem Bw w0 ρ φ h w){o:Oper}{a:Act}{t e:TypeId}{ti:TI}(ht:aN P t ti)(hk:ti.k = .sl e){xo:Operand}(q:o.op = .call { callee:= .builtin .cap,args:= #[xo],argTypes:= #[t] })
  (j:V (Fr (own φ h) Bw w) ρ .nils (a.eval xo)):Good P o a w (aF Bw w0 ρ φ h w new (.p false (.int .i64) (0:Int)) []):=by
 have hu:=aY ht hk;simp only[V]at j;refine Good.aG (v:= .int .i64 0) (w':=w) ?_ (aF.pure m (dF _ _ _));simp only[execOp,q,resolve,invoke,builtin,Sem.run_bind,Sem.run_pure,Result.andThen_ok,List.map_toArray,List.map_cons,List.map_nil,j];simp[Builtin.cap_,run_underlying hu,goInt]
theorem wv{G:Addr→Value→Prop}{A:Ty}{z:QU}(hz:z.size=A.size)(h:ai G A A.zero (fun k u=>z.toList[k]? = some u)){n:Nat}:∀j (x:j<(List.replicate n A.zero).length),ai G A (List.replicate n A.zero)[j] (fun k v=>(Builtin.zeroCells z n).toList[j*A.size+k]? = some v):=fun j x=>by
 simp only[List.length_replicate]at x;simp only[List.getElem_replicate];refine ai.gA (fun k v hk q=>?_) h;have B:j*A.size+A.size≤n*A.size:=by rw[←Nat.succ_mul];exact Nat.mul_le_mul_right _ x
 rw[Array.getElem?_toList];have C:(Builtin.zeroCells z n)[j*A.size+k]? = some (z[(j*A.size+k) % z.size]!):=by
  have:j*A.size+k<n*z.size:=by rw[hz];omega
  simp[Builtin.zeroCells,this]
 rw[C,hz,Nat.mul_comm,Nat.mul_add_mod,Nat.mod_eq_of_lt hk];have p:k<z.size:=by omega
 simp only[Array.getElem?_toList]at q;rw[Array.getElem?_eq_getElem p]at q;simp only[Option.some.injEq]at q;simp[p,q]
theorem sK{t u ty e:TypeId}{i:TypeInfo}{z:Value}{k0 kl:IntKind}(ht:P.underlying t=some (.slice e))(hu:P.underlying u=some (.int k0))(hi:P.info? e=some i)(hz:i.zero=some z)
  (O:z.cells.size=i.size) (V:0<i.size) (a5:∀c∈z.cells.toList,c.oneCell'=true) {v:Value} {n:Nat} {E:QY} (p:w.ownsRow 0 e i.size v n E) (k:Nat)
  (X:n+k≤maxLen) (x:(n+k)*i.bytes≤140737488355328) :
  ∃v' w',(Builtin.append_ #[t,u] ty #[v,.int kl k]).run P w = .ok v' w'∧w'.ownsRow 0 e i.size v' (n+k) (E++(Builtin.zeroCells z.cells k).toList)∧w.grownBy w' v.ownBlock ∧
   ∀b,v'.ownBlock=some b→w.heap.size≤b∨v.ownBlock=some b:=by
 have a4:n+k≤9223372036854775807:=by simp only[maxLen]at X;omega
 have hw:IntKind.i64.wrap (k:Int)=k:=by rw[IntKind.wrap_i64];omega
 have Y:¬((k:Int)<0):=by omega
 have ac:k*i.bytes≤140737488355328:=Nat.le_trans (Nat.mul_le_mul_right _ (by omega)) x;have Z:¬(281474976710656<(k:Int)*(i.bytes:Int)):=by rw[←Int.natCast_mul];omega
 have J:(Builtin.zeroCells z.cells k).toList.length=k*i.size:=by rw[Array.length_toList,size_zeroCells,O]
 by_cases hk:k=0
 ·subst hk;have a1:IntKind.i64.wrap 0=0:=rfl;have e0:(Builtin.zeroCells z.cells 0).toList=[]:=List.eq_nil_of_length_eq_zero (by rw[J];omega);refine⟨v,w,?_,by rw[e0,List.append_nil];exact p,⟨rfl,rfl,rfl,Nat.le_refl _,fun _ _ _=>rfl⟩,fun b hb=> .inr hb⟩;rcases p.2 with⟨rfl,rfl⟩ | ⟨g,cap,B,rfl,_,hg,a2,_⟩
  ·simp[Builtin.append_,run_underlying ht,run_underlying hu,sizeOf,typeInfo,hi,asInt,asIntOf,a1]
  ·simp[Builtin.append_,run_underlying ht,run_underlying hu,sizeOf,typeInfo,hi,asInt,asIntOf,a1,a2,storeCells]
 have a6:¬(k*i.size=0):=Nat.mul_ne_zero hk (by omega);have A:(E++(Builtin.zeroCells z.cells k).toList).length=(n+k)*i.size:=by rw[List.length_append,p.1,J,Nat.add_mul]
 have grown:∀(C:Nat) (row:QJ) (w':World),w'=w.drew.alloc (.cells (E.toArray++Builtin.zeroCells z.cells k++Builtin.zeroCells z.cells (grownCap w (n+k) C e - (n+k))) e) →
   w'.ownsRow 0 e i.size (.slice (some ⟨w.heap.size,0,none⟩) (n+k) (grownCap w (n+k) C e)) (n+k) (E++(Builtin.zeroCells z.cells k).toList)∧w.grownBy w' row:=by
  rintro C row w' rfl;have a7:=grownCap_ge w (n+k) C e;have L:grownCap w (n+k) C e≤maxLen:=grownCap_le_maxLen w (n+k) C e X;refine⟨⟨A,.inr ⟨w.heap.size,_,_,rfl,Nat.zero_le _,heap_alloc_new w.drew _,a7,L,?_,?_⟩⟩,⟨rfl,rfl,rfl,by simp,fun k hk _=>heap_alloc_old w.drew _ hk⟩⟩
  ·simp only[Array.size_append,List.size_toArray,size_zeroCells,O,p.1,←Nat.add_mul];congr 1;omega
  ·simp only[Array.toList_append];rw[←A];exact List.take_left
 rcases p.2 with⟨rfl,rfl⟩ | ⟨g,cap,B,rfl,_,hg,a2,L,a8,M⟩
 ·have hx:E=[]:=List.eq_nil_of_length_eq_zero (by simpa using p.1);subst hx;have hr:=Lib.run_append_nil_zeros (P:=P) w t u ty e i z kl k0 ht hu hi hz k (by omega) V (by omega) (by omega);have D:=grown 0 (Value.ownBlock (.slice none 0 0)) _ rfl;simp only[Nat.zero_add,List.nil_append,Array.empty_append]at D ⊢;exact⟨_,_,hr,D.1,D.2,fun b hb=> .inl (by simp only[Value.ownBlock,Option.some.injEq]at hb;omega)⟩
 ·by_cases q:n+k≤cap
  ·have I:n*i.size+(Builtin.zeroCells z.cells k).toList.length≤B.size:=by rw[J,a8,←Nat.add_mul];exact Nat.mul_le_mul_right _ q
   have a3:=run_storeCells_at P g (n*i.size) e (Builtin.zeroCells z.cells k).toList 0 B w hg (by simpa using I) (fun c hc=>by
    simp only[Builtin.zeroCells,Array.toList_map,List.mem_map]at hc;obtain⟨j,_,rfl⟩:=hc;have a9:j % z.cells.size<z.cells.size:=Nat.mod_lt _ (by omega);rw[getElem!_pos z.cells (j % z.cells.size) a9];exact a5 _ (by simp))
   simp only[Nat.add_zero]at a3;refine⟨.slice (some ⟨g,0,none⟩) (n+k) cap,_,?_,⟨A,.inr ⟨g,cap,_,rfl,Nat.zero_le _,setRow_heap w g B (B.toList.take (n*i.size)++(Builtin.zeroCells z.cells k).toList++B.toList.drop (n*i.size+(Builtin.zeroCells z.cells k).toList.length)).toArray e _ hg,q,L,?_,?_⟩⟩,⟨rfl,rfl,rfl,by simp,fun k _ hk=>setRow_other w g k _ (fun e=>hk (by simp[Value.ownBlock,e]))⟩,fun b hb=> .inr hb⟩
   ·simp[Builtin.append_,run_underlying ht,run_underlying hu,sizeOf,typeInfo,zeroValue,hi,hz,asInt,asIntOf,hw,Y,Z,a6,q,Addr.add_lit,a3]
   ·simp only[List.size_toArray,List.length_append,List.length_take,List.length_drop,Array.length_toList]at I ⊢;omega
   ·rw[M,←A];exact List.take_left
  ·have N:∀j u,E[j]? = some u→w.cell? ((⟨g,0,none⟩:Addr).add j)=some u:=p.cells (g:=g) rfl;have aa:=run_firstCells_some (P:=P) w.drew i.size n ⟨g,0,none⟩ n cap E p.1 (by simpa using N);have hr:=Lib.run_append_grow_zeros (P:=P) w t u ty e i z kl k0 ht hu hi hz (some ⟨g,0,none⟩) n cap E aa k (by omega) V (by omega) (by omega) (by omega) (growslice_fits (by omega) x);have D:=grown cap (Value.ownBlock (.slice (some ⟨g,0,none⟩) n cap)) _ rfl;exact⟨_,_,hr,D.1,D.2,fun b hb=> .inl (by simp only[Value.ownBlock,Option.some.injEq]at hb;omega)⟩
theorem yR(m:Mem Bw w0 ρ φ h w)(hn:ρ new=none){o:Oper}{a:Act}{t e u:TypeId}{ti te tu:TI}(ht:aN P t ti)(hk:ti.k = .sl e)(X:aN P e te){A:Ty}(hT:te.T=some A)(h0:0<A.size)
  (a6:aN P u tu) {k0:IntKind} (a7:tu.k = .int k0) {xo yo:Operand} (ho:o.op = .call { callee:= .builtin .append,args:= #[xo,yo],argTypes:= #[t,u] })
  {x:ag} (Y:V (Fr (own φ h) Bw w) ρ x (a.eval xo)) {β:Bool} {kl:IntKind} {l:Int} (hl:V (Fr (own φ h) Bw w) ρ (.p β (.int kl) l) (a.eval yo)) {j:List A.den} {Z:QJ} {us:gX}
  (J:(x = .nils∧j=[]∧Z=none∧us=[(new,some (.arr e A (j++List.replicate l.toNat A.zero)))])∨(∃id,x = .sl id∧h id=some (.arr e A j)∧Z=some id∧us=[(id,none),(new,some (.arr e A (j++List.replicate l.toNat A.zero)))]))
  (h1:0≤l) (hb:(j.length+l.toNat)*te.bytes≤140737488355328) (a8:j.length+l.toNat≤9223372036854775807) :
  Good P o a w (aF Bw w0 ρ φ h w new (.sl new) us):=by
 obtain⟨i,z,hi,hz,L,C,a9,ac,ad⟩:=X.hi;obtain⟨a1,b7,ax⟩:=X.hT A hT;have hu:=aY ht hk;have q:i.size=A.size:=by rw[L,a1]
 obtain⟨du,b1,B⟩:=a6.hu;rw[a7]at B;simp only[UK]at B;subst B;obtain⟨n,rfl⟩:∃n:Nat,l=(n:Int):=⟨l.toNat,by omega⟩;rw[Int.toNat_natCast]at hb a8 J;obtain⟨cells,v,hv,D,M,b2⟩:∃cells v,a.eval xo=v∧w.ownsRow 0 e A.size v j.length cells ∧
   (∀i (h':i<j.length),ai (Fr (own φ h) Bw w false) A j[i] (fun k v=>cells[i*A.size+k]? = some v)) ∧
   ∀k,v.ownBlock=some k→∃i o,Z=some i∧h i=some o∧o.live=true∧φ i k:=by
  rcases J with⟨rfl,rfl,rfl,_⟩ | ⟨id,rfl,a2,rfl,_⟩
  ·simp only[V]at Y;exact⟨[],_,Y,World.ownsRow_nil w 0 e _,fun i hi=>absurd hi (by simp),fun k hk=>by cases hk⟩
  ·simp only[V]at Y;obtain⟨u,q1,b3,_,cells,r1,r2⟩:=m.ob id _ a2;rw[Y.1]at q1;cases q1;obtain⟨_,aa,nn,cc,he⟩:=Y;exact⟨cells,_,rfl,r1,r2,fun k N=>⟨id,_,rfl,a2,rfl,b3 _ (by rw[cE he];exact N)⟩⟩
 have a3:apply us h=bF (fun i=>if Z=some i then none else h i) new (some (.arr e A (j++List.replicate n A.zero))):=by
  rcases J with⟨_,rfl,rfl,rfl⟩ | ⟨id,_,_,rfl,rfl⟩
  ·rw[bn];rfl
  ·rw[rY];rfl
 have O:w.ownsRow 0 e i.size v j.length cells:=by rw[q];exact D
 have E:z.cells.size=A.size:=by rw[ac,←a1]
 obtain⟨v',w',hr,h2,h3,h4⟩:=sK (P:=P) (t:=t) (u:=u) (ty:=o.type) (kl:=kl) (k0:=k0) hu b1 hi hz (by rw[E,q]) (by omega) ad O n (by unfold maxLen;omega) (by rw[C];exact hb);have b4:∃aa nn cc,v' = .slice aa nn cc:=by rcases h2.2 with⟨e,_⟩ | ⟨g,cap,b8,e,_⟩ <;> exact⟨_,_,_,e⟩
 have hy:=bQ hl;refine Good.aG (v:=v') (w':=w') ?_ ?_
 ·simp only[execOp,ho,resolve,invoke,builtin,Sem.run_bind,Sem.run_pure,Result.andThen_ok,List.map_toArray,List.map_cons,List.map_nil,hv,hy,hr]
 ·obtain⟨aa,nn,cc,I⟩:=b4;refine cT m Z new (.arr e A (j++List.replicate n A.zero)) v' v.ownBlock h3 b2 (.inl hn) (fun _ k N=>h4 k (by rw[←cE I];exact N)) (fun F' a4 hF b5=>?_) a3 (fun _=>rfl) (fun F' a4 hF b5 a5=>?_)
  ·have b6:ai (F' false) A A.zero (fun k u=>z.cells.toList[k]? = some u):=by have:=gw (F:=F') (ρ:=a4) z.cells.toList;rw[a9]at this;exact(cQ ax this).1
   refine⟨fun _ h=>h,h0,cells++(Builtin.zeroCells z.cells n).toList,by rw[List.length_append,List.length_replicate,←q];exact h2,fun i hi=>pa D.1 (fun i hi=>ai.mono (hF _) (fun _ _ h=>h) (M i hi)) (wv E b6) i hi⟩
  ·simp only[V];exact⟨a5,_,_,_,I⟩
theorem DP(m:Mem Bw w0 ρ φ h w){o:Oper}{a:Act}{t:TypeId}{ti C:TI}(ht:aN P t ti){xo:Operand}{X:List ag}(Y:V (Fr (own φ h) Bw w) ρ (.agg X) (a.eval xo)){f:Nat}(ho:o.op = .field t xo f)
  {Z:List (Nat×TypeId)} (hk:ti.k = .st Z) {off:Nat} {D:TypeId} (hf:Z[f]? = some (off,D)) (A:aN P D C) {y:ag} (z:gq C X off=some y):Good P o a w (aF Bw w0 ρ φ h w new y []):=by
 obtain⟨d,h1,h2⟩:=ht.hu;rw[hk]at h2;obtain⟨E,rfl,h3,h4⟩:=h2;subst h3;rw[List.getElem?_map]at hf;obtain⟨j,I,J⟩:∃j,E.toList[f]? = some j∧(j.offset,j.type)=(off,D):=by
  cases hq:E.toList[f]? with
  | none=>rw[hq]at hf;cases hf
  | some j=>rw[hq]at hf;exact⟨j,rfl,by simpa using hf⟩
 cases J;have L:E[f]? = some j:=by simpa using I
 simp only[V]at Y;obtain⟨vs,hv,a1,B⟩:=Y;obtain⟨v,hr,M⟩:∃v,(part j.type vs j.offset).run P w = .ok v w∧V (Fr (own φ h) Bw w) ρ y v:=by
  unfold gq at z;unfold part;rw[Sem.run_bind,kY A];simp only[Result.andThen_ok];split at z
  ·rename_i p;split at z
   ·rename_i a2;cases z;refine⟨.agg (vs.extract j.offset (j.offset+C.size)),?_,?_⟩
    ·rw[if_pos p,Sem.run_bind,run_sizeOf A];rfl
    ·simp only[V];refine⟨_,rfl,by simp only[Array.size_extract,List.length_take,List.length_drop];omega,VL.mono (fun _ _ _ h=>h) (fun _ _ h=>h) (fun k u hk=>hk) (VL.mk fun k x q=>?_)⟩;rw[List.getElem?_take]at q;split at q
     ·rename_i a3;rw[List.getElem?_drop]at q;obtain⟨u,N,O⟩:=VL.get B q;exact⟨u,by rw[Array.getElem?_extract,if_pos (by omega)];exact N,O⟩
     ·cases q
   ·cases z
  ·rename_i p;obtain⟨u,N,O⟩:=VL.get B z;refine⟨u,?_,O⟩;rw[if_neg (by simpa using p),N];rfl
 refine Good.aG (v:=v) (w':=w) ?_ (aF.pure m M);simp[execOp,ho,Instr.field,run_underlying h1,L,hv,asAgg,hr]
end
end Go.Tv
