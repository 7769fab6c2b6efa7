import Derived.Test.YtobbjfkfmdiklaaGreatDoorTvKjm
import Derived.Lib.AppendStr
import Derived.Lib.AppendZerosOnto
namespace Go.Tv
open Go Go.RowKit
section
variable{P:Program}{Bw:Nat→Prop}{w0:cr P}{ρ:Nat→QW}{φ:Nat→Nat→Prop}{h:Nat→Qz}{w:World}{new:Nat}
theorem HS{b:Nat}{v:Value}(hp:w.qw ⟨b,0,some 0⟩=some v):∃f cl,w.heap[b]? = some (.map f cl)∧v = .tuple (f.map fun e=>Value.tuple #[e.key,e.val]):=by
 unfold World.qw at hp;simp only at hp;split at hp
 ·rename_i f cl hb;cases hp;exact⟨f,cl,hb,rfl⟩
 ·cases hp
def yV(j:IntKind)(f:Bool)(r:Option Int):af :=
 if f then .tup [.p false (.int j) (r.getD 0),.p false .bool r.isSome]else .p false (.int j) (r.getD 0)
theorem CI{F:Bool→Addr→Value→Prop}{j:IntKind}{f:Bool}{r:Option Int}{v:Value}{b:Bool}(p:v = .int j (r.getD 0))(hb:b=r.isSome):V F ρ (yV j f r) (if f then .tuple #[v,.bool b]else v):=by
 subst p hb;cases f
 ·simp[yV,V,ah,Ty.scalar]
 ·simp only[yV,if_true,V,VL];exact⟨_,rfl,rfl,⟨_,rfl,by simp[ah,Ty.scalar]⟩,⟨_,rfl,by simp[ah,Ty.scalar]⟩,trivial⟩
theorem GG{t p q:TypeId}{ti I J:TI}(ht:aO P t ti)(hk:ti.k = .mp p q){L u:IntKind}(x:aO P p J)(A:J.k = .int L)(j:aO P q I)(hT:I.T=some (.int u)):
  P.underlying t=some (.map p q)∧(zeroValue q).run P w = .ok (.int u 0) w∧hZ P p (.int L):=by
 obtain⟨M,hm,f⟩:=ht.hu;rw[hk]at f;simp only[UK]at f;subst f;obtain⟨z,hz,B,C,D⟩:=dP j w;have E:MV (fun _ _=>True) (.int u) (Ty.zero (.int u)) z:=Af j hT hz B C D;have:=Jo (F:=fun _ _ _=>True) (ρ:=iW) E;simp only[enc,Ty.scalar,if_true,V,ah]at this;rw[←this.2]at hz;exact⟨hm,hz,hZ.Eo x (by rw[A];rfl)⟩
theorem look_nil(m:Mem Bw w0 ρ φ h w){o:Oper}{a:Act}{t z D:TypeId}{ti E I:TI}(ht:aO P t ti)(hk:ti.k = .mp z D){u x:IntKind}(A:aO P z I)(B:I.k = .int u)(C:aO P D E)(hT:E.T=some (.int x))
  {J L:Operand} {f:Bool} (ho:o.op = .lookup t J L f) (M:a.eval J = .map none) {i:Int} (N:a.eval L=aS (.int u) i) :
  Good P o a w (aF Bw w0 ρ φ h w new (yV x f (bg (α:=Int) (.int u) [] i)) []):=by
 obtain⟨hm,hz,q⟩:=GG (w:=w) ht hk A B C hT;have O:=q.find i [] [] w rfl;have p:(Instr.findKey z (aS (.int u) i) []).run P w = .ok none w:=by
  rcases O with⟨h1,_⟩ | ⟨j,e,_,h2,_⟩
  ·exact h1
  ·simp at h2
 refine Good.aG (v:=if f then .tuple #[.int x 0,.bool false]else .int x 0) (w':=w) ?_ (aF.pure m (CI rfl rfl));simp only[execOp,ho];rw[M,N];cases f <;> simp[Instr.lookup,run_underlying hm,q.check,p,hz,Result.andThen]
theorem EH(m:Mem Bw w0 ρ φ h w){o:Oper}{a:Act}{t kt et:TypeId}{ti te tk:TI}(ht:aO P t ti)(hk:ti.k = .mp kt et){q E:IntKind}(M:aO P kt tk)(N:tk.k = .int q)(O:aO P et te)(hT:te.T=some (.int E))
  {xo ko:Operand} {f:Bool} (ho:o.op = .lookup t xo ko f) {b:Nat} (e1:a.eval xo = .map (some b)) {i:Int} (e2:a.eval ko=aS (.int q) i) {A:Array MapEntry} {cl:Nat} (hb:w.heap[b]? = some (.map A cl))
  {z:Qq} (J:A.toList.map (·.key)=z.map (fun p=>Value.int q p.1)) (V:A.toList.map (·.val)=z.map (fun p=>Value.int E p.2)) (X:(z.map (·.1)).Nodup) :
  Good P o a w (aF Bw w0 ρ φ h w new (yV E f (bg (α:=Int) (.int q) z i)) []):=by
 obtain⟨hm,hz,B⟩:=GG (w:=w) ht hk M N O hT;have u:A.toList.map (·.key)=(z.map (·.1)).map (aS (.int q)):=by rw[J,List.map_map];rfl
 have L:∀(j:Nat) (e:MapEntry),A.toList[j]? = some e→∃p:Int×Int,z[j]? = some p∧e.key=Value.int q p.1∧e.val=Value.int E p.2:=fun j e he=>by
  have h1:=congrArg (fun l=>l[j]?) J;have h2:=congrArg (fun l=>l[j]?) V;simp only[List.getElem?_map,he]at h1 h2;cases q1:z[j]? with
  | none=>rw[q1]at h1;simp at h1
  | some p=>rw[q1]at h1 h2;simp at h1 h2;exact⟨p,rfl,h1,h2⟩
 rcases B.find i A.toList (z.map (·.1)) w u with⟨h1,h2⟩ | ⟨j,e,h1,h2,h3⟩
 ·have C:bg (α:=Int) (.int q) z i=none:=n8 (K:= .int q) rfl fun p hp e=>by
   obtain⟨j,hj⟩:=List.mem_iff_getElem?.1 hp;have I:(A.toList.map (·.key))[j]? = some (aS (.int q) i):=by rw[u,List.getElem?_map,List.getElem?_map,hj];exact congrArg some (congrArg (aS (.int q)) e)
   rw[List.getElem?_map]at I;cases Y:A.toList[j]? with
   | none=>rw[Y]at I;cases I
   | some x =>rw[Y]at I;simp at I;exact h2 x (List.mem_of_getElem? Y) I
  rw[C];refine Good.aG (v:=if f then .tuple #[.int E 0,.bool false]else .int E 0) (w':=w) ?_ (aF.pure m (CI rfl rfl));simp only[execOp,ho];rw[e1,e2];cases f <;> simp[Instr.lookup,run_underlying hm,Go.MapKept.run_getObj_map hb,B.check,h1,hz,Result.andThen]
 ·obtain⟨p,hp,Z,a1⟩:=L j e h2;have a2:p.1=i:=by rw[Z]at h3;simpa [aS]using h3
  have D:=nE (K:= .int q) (α:=Int) (k:=i) rfl X hp a2;rw[D];refine Good.aG (v:=if f then .tuple #[e.val,.bool true]else e.val) (w':=w) ?_ (aF.pure m (CI (by rw[a1];rfl) rfl));simp only[execOp,ho];rw[e1,e2];cases f <;> simp[Instr.lookup,run_underlying hm,Go.MapKept.run_getObj_map hb,B.check,h1,Result.andThen]
theorem yX(m:Mem Bw w0 ρ φ h w){o:Oper}{a:Act}{t X Y:TypeId}{ti Z tk:TI}(ht:aO P t ti)(hk:ti.k = .mp X Y){f x:IntKind}(z:aO P X tk)(A:tk.k = .int f)(B:aO P Y Z)(hT:Z.T=some (.int x))
  {xo J:Operand} {C:Bool} (ho:o.op = .lookup t xo J C) {β:Bool} {u:Qq} (hx:V (Fr (own φ h) Bw w) ρ (.p β (.mapi f x) u) (a.eval xo)) {L:Bool} {i:Int} (hi:V (Fr (own φ h) Bw w) ρ (.p L (.int f) i) (a.eval J)) :
  Good P o a w (aF Bw w0 ρ φ h w new (yV x C (bg (α:=Int) (.int f) u i)) []):=by
 have e2:a.eval J=aS (.int f) i:=sh rfl rfl hi;simp only[V,ah]at hx;obtain⟨-,r,e1,M⟩:=hx;cases r with
 | none =>
  simp only at M;subst M;exact look_nil m ht hk z A B hT ho e1.symm e2
 | some b =>
  obtain⟨N,O⟩:=M;obtain⟨E,cl,hb,q⟩:=HS N.2.2;unfold Kp at q;simp only[Value.tuple.injEq]at q;have hl:(u.map fun p=>Value.tuple #[.int f p.1,.int x p.2])=E.toList.map fun e=>Value.tuple #[e.key,e.val]:=by have:=congrArg Array.toList q;simpa using this
  have D:∀j:Nat,(E.toList.map (·.key))[j]? = (u.map (fun p=>Value.int f p.1))[j]? ∧(E.toList.map (·.val))[j]? = (u.map (fun p=>Value.int x p.2))[j]? :=fun j=>by
   have:=congrArg (fun l=>l[j]?) hl;simp only[List.getElem?_map]at this ⊢;cases q1:u[j]? <;> cases q2:E.toList[j]? <;> rw[q1,q2]at this <;> simp at this ⊢
   exact⟨this.1.symm,this.2.symm⟩
  exact EH m ht hk z A B hT ho e1.symm e2 hb (List.ext_getElem? fun j=>(D j).1) (List.ext_getElem? fun j=>(D j).2) O
/-! ### Rows of I -/
theorem wY{F:Bool→Addr→Value→Prop}{sz:Nat}:∀ {f:List af} {vs:QY},(∀x∈f,(cellsOf x).all af.cell=true∧(cellsOf x).length=sz)→iS F ρ f vs →
  vs.length=f.length∧(∀v∈vs,v.cells.size=sz)∧VL F ρ (f.flatMap cellsOf) (fun k u=>(vs.flatMap fun v=>v.cells.toList)[k]? = some u)
 | [],[],_,_=>⟨rfl,fun _ h=>by simp at h,by simp only[List.flatMap_nil,VL]⟩
 | x::f,v::vs,hc,⟨h1,h2⟩=>by
  obtain⟨B,C⟩:=hc x (by simp);obtain⟨D,E,I⟩:=wY (fun y J=>hc y (by simp[J])) h2;obtain⟨L,q,M⟩:=fV B h1;refine⟨by simp[D],fun u hu=>?_,?_⟩
  ·rcases List.mem_cons.1 hu with rfl | hu
   ·rw[←C,←q,Array.length_toList]
   ·exact E u hu
  ·rw[List.flatMap_cons,List.flatMap_cons];refine VL.mk fun k y hk=>?_
   rcases Nat.lt_or_ge k (cellsOf x).length with j | p
   ·rw[List.getElem?_append_left j]at hk;obtain⟨u,z,A⟩:=VL.get L hk;exact⟨u,by rw[List.getElem?_append_left (by rw[q];exact j)];exact z,A⟩
   ·rw[List.getElem?_append_right p]at hk;obtain⟨u,z,A⟩:=VL.get I hk;exact⟨u,by rw[List.getElem?_append_right (by rw[q];exact p),q];exact z,A⟩
 | [],_::_,_,h=>h.elim
 | _::_,[],_,h=>h.elim
theorem xM(m:Mem Bw w0 ρ φ h w)(hn:ρ new=none){o:Oper}{a:Act}{t e:TypeId}{ti A:TI}(ht:aO P t ti)(hk:ti.k = .sl e)(N:aO P e A)
  {parts:Array (Nat×Operand)} {len:Nat} (ho:o.op = .buildSlice t len parts) (hp:parts.toList.map (·.1)=List.range len) {q:List af}
  (hx:iS (Fr (own φ h) Bw w) ρ q (parts.toList.map fun p=>a.eval p.2)) (hc:∀x∈q,(cellsOf x).all af.cell=true∧(cellsOf x).length=A.size) (O:len*A.size≤16777216) :
  Good P o a w (aF Bw w0 ρ φ h w new (.sl new) [(new,some (.vrow len A.size (q.flatMap cellsOf)))]):=by
 obtain⟨g1,g2,g3⟩:=wY hc hx;have f:(parts.toList.map fun p=>a.eval p.2).length=len:=by have:=congrArg List.length hp;simpa using this
 have B:(parts.map fun p=>(p.1,a.eval p.2))=(((parts.toList.map fun p=>a.eval p.2).zipIdx 0).map fun p=>(p.2,p.1)).toArray:=by
  apply Array.ext';simp only[Array.toList_map];apply List.ext_getElem?;intro j;simp only[List.getElem?_map,List.getElem?_zipIdx,Option.map_map];have D:=congrArg (fun l=>l[j]?) hp;simp only[List.getElem?_map]at D;cases X:parts.toList[j]? with
  | none=>simp[X]
  | some p =>
   simp only[X,Option.map_some]at D ⊢;have Y:j<len:=by have:=(List.getElem?_eq_some_iff.1 X).1;have h2:=congrArg List.length hp;simp only[List.length_map,List.length_range]at h2;omega
   rw[List.getElem?_range Y]at D;simp only[Option.some.injEq]at D;simp[D]
 have C:=oJ (P:=P) (w:=w) ht hk N (vs:=parts.toList.map fun p=>a.eval p.2) g2 (by rw[f];exact O);rw[f,←B]at C;refine Good.aG (v:=_) (w':=_) (by simp only[execOp,ho,Sem.run_bind,C,Result.andThen_ok];rfl) ?_;have E:∀ {vs:QY},(∀v∈vs,v.cells.size=A.size)→(vs.flatMap fun v=>v.cells.toList).length=vs.length*A.size:=fun {vs} I=>by
  induction vs with
  | nil=>simp
  | cons v vs Z=>rw[List.flatMap_cons,List.length_append,Z (fun u hu=>I u (by simp[hu])),Array.length_toList,I v (by simp),List.length_cons,Nat.succ_mul,Nat.add_comm]
 have z:∀ {q:List af},(∀x∈q,(cellsOf x).all af.cell=true∧(cellsOf x).length=A.size)→(q.flatMap cellsOf).length=q.length*A.size:=fun {q} I=>by
  induction q with
  | nil=>simp
  | cons v vs Z=>rw[List.flatMap_cons,List.length_append,Z (fun u hu=>I u (by simp[hu])),(I v (by simp)).2,List.length_cons,Nat.succ_mul,Nat.add_comm]
 have J:q.length=len:=by rw[←g1,f]
 refine cO m none new (.vrow len A.size (q.flatMap cellsOf)) (.slice (some ⟨w.heap.size,0,none⟩) len len) none (World.grownBy_alloc w _ none) (fun k e=>by cases e) (.inl hn) (fun _ k hk=>?_) (fun F' a1 hF L=>?_) (by rw[bn];rfl) (fun _=>rfl) (fun F' a1 hF L M=>?_)
 ·simp only[dp,Option.some.injEq]at hk;exact .inl (by omega)
 ·simp only[OR];refine⟨_,e,_,rfl,rfl,heap_alloc_new w _,?_,?_,VL.mono hF L (fun k u hk=>by simpa using hk) g3⟩
  ·rw[List.size_toArray,E g2,z hc,f,J]
  ·rw[z hc,J]
 ·simp only[V];exact⟨M,_,_,_,rfl⟩
theorem zL(m:Mem Bw w0 ρ φ h w){id n sz:Nat}{f:List af}(hb:h id=some (.vrow n sz f)){u:Value}(p:ρ id=some u):
  ∃g t cells,u = .slice (some ⟨g,0,none⟩) n n∧w.heap[g]? = some (.cells cells t (0,0))∧cells.size=f.length∧f.length=n*sz∧VL (Fr (own φ h) Bw w) ρ f (fun k v=>cells[k]? = some v):=by
 obtain⟨B,j,g,t,cells,rfl,_,q,x,z,A⟩:=m.ob id _ hb;rw[p]at j;cases j;exact⟨g,t,cells,rfl,q,x,z,A⟩
theorem BZ(m:Mem Bw w0 ρ φ h w){o:Oper}{a:Act}{t:TypeId}{ti:TI}(ht:aO P t ti){e:TypeId}(hk:ti.k = .sl e){xo:Operand}{id n sz:Nat}{q:List af}(j:V (Fr (own φ h) Bw w) ρ (.sl id) (a.eval xo))
  (hb:h id=some (.vrow n sz q)) (ho:o.op = .call { callee:= .builtin .len,args:= #[xo],argTypes:= #[t] }):Good P o a w (aF Bw w0 ρ φ h w new (.p false (.int .i64) (n:Int)) []):=by
 obtain⟨d,h1,h2⟩:=ht.hu;rw[hk]at h2;simp only[UK]at h2;subst h2;simp only[V]at j;obtain⟨f,-⟩:=j;obtain⟨g,x,cells,u,-⟩:=zL m hb f;refine Good.aG (v:= .int .i64 n) (w':=w) ?_ (aF.pure m (dy _ _ _));simp only[execOp,ho,resolve,invoke,builtin,Sem.run_bind,Sem.run_pure,Result.andThen_ok,List.map_toArray,List.map_cons,List.map_nil,u];simp[Builtin.len_,run_underlying h1,goInt]
theorem xQ(m:Mem Bw w0 ρ φ h w){o:Oper}{a:Act}{t e:TypeId}{ti j:TI}(ht:aO P t ti)(hk:ti.k = .sl e)(q:aO P e j){xo io:Operand}{id n:Nat}{z:List af}(u:V (Fr (own φ h) Bw w) ρ (.sl id) (a.eval xo))
  (hb:h id=some (.vrow n j.size z)) {β:Bool} {k:IntKind} {i:Int} (hi:V (Fr (own φ h) Bw w) ρ (.p β (.int k) i) (a.eval io)) (ho:o.op = .indexAddr t xo io) (A:0≤i) (hn:i<n) :
  Good P o a w (aF Bw w0 ρ φ h w new (.adr id i.toNat j.size 0) []):=by
 have hu:=aW ht hk;have B:=bV hi;simp only[V]at u;obtain⟨f,-⟩:=u;obtain⟨g,C,cells,x,-⟩:=zL m hb f;refine Good.aG (v:= .pointer (some ((⟨g,0,none⟩:Addr).add (i.toNat*j.size)))) (w':=w) ?_ (aF.pure m ?_)
 ·simp[execOp,ho,Instr.indexAt,asIntOf,B,x,run_underlying hu,run_sizeOf q,A,hn]
 ·simp only[V];exact⟨g,.inr ⟨_,_,by rw[f,x]⟩,by rw[cj];simp⟩
theorem zE(m:Mem Bw w0 ρ φ h w){o:Oper}{a:Act}{t:TypeId}{ti:TI}(ht:aO P t ti){xo:Operand}{id i sz off:Nat}(B:V (Fr (own φ h) Bw w) ρ (.adr id i sz off) (a.eval xo))(ho:o.op = .load t xo)
  {n p:Nat} {q:List af} (hb:h id=some (.vrow n p q)) {y:af} (C:gn ti q (i*sz+off)=some y):Good P o a w (aF Bw w0 ρ φ h w new y []):=by
 obtain⟨u,x,_⟩:=m.ob id _ hb;obtain⟨g,M,cells,rfl,D,N,O,E⟩:=zL m hb x;simp only[V]at B;obtain⟨z,f,I⟩:=B;have A:z=g:=by
  rcases f with f | ⟨_,_,f⟩
  ·rw[x]at f;cases f
  ·rw[x]at f;cases f;rfl
 subst A;have j:VL (Fr (own φ h) Bw w) ρ q (fun k u=>w.cell? ((⟨z,0,none⟩:Addr).add k)=some u):=VL.mono (fun _ _ _ h=>h) (fun _ _ h=>h) (fun k u hk=>by
  rw[cj,Nat.zero_add];simp only[World.cell?,D];exact hk) E
 obtain⟨v,J,L⟩:=iO (P:=P) ht j C;refine Good.aG (v:=v) (w':=w) ?_ (aF.pure m L);have:a.eval xo = .pointer (some ((⟨z,0,none⟩:Addr).add (i*sz+off))):=by rw[I,cj,Nat.zero_add]
 simp[execOp,ho,Instr.loadAt,this,Instr.sureAddr,J]
theorem By{w:World}{g:Nat}{f:QU}{p:TypeId}{mk:Nat×Nat}(q:w.heap[g]? = some (.cells f p mk))(j:mk=(0,0)∨mk=(f.size,f.size+1)):
  (w.freeze ⟨g,f.size,none⟩ 1).heap[g]? = some (.cells f p (f.size,f.size+1)):=by
 unfold World.freeze;rw[if_neg (by decide)];simp only[Array.getElem?_modify,q,if_true,Option.map_some];rcases j with rfl | rfl
 ·simp
 ·simp
theorem rL(w:World)(g k:Nat):w.grownBy (w.freeze ⟨g,k,none⟩ 1) (some g):=by
 refine⟨rfl,rfl,rfl,?_,fun j p f=>?_⟩
 ·unfold World.freeze;rw[if_neg (by decide)];simp
 ·unfold World.freeze;rw[if_neg (by decide)];have:g≠j:=fun e=>f (by rw[e])
  simp[Array.getElem?_modify,this]
theorem xw(m:Mem Bw w0 ρ φ h w){o:Oper}{a:Act}{t e:TypeId}{ti X:TI}(ht:aO P t ti)(hk:ti.k = .sl e)(E:aO P e X)(I:X.k = .int .u8){xo:Operand}{id:Nat}(Y:V (Fr (own φ h) Bw w) ρ (.sl id) (a.eval xo))
  (ho:o.op = .convert t t xo) {p:TypeId} {j:QK} (hi:h id=some (.arr p (.int .u8) j)) (h0:0<j.length):Good P o a w (aF Bw w0 ρ φ h w new (.sl id) [(id,some (.bytes p j)),(id,some (.bytes p j))]):=by
 have hu:=aW ht hk;obtain⟨d2,J,q⟩:=E.hu;rw[I]at q;simp only[UK]at q;subst q;obtain⟨L,f1⟩:=m.EK hi;obtain⟨u,Z,q2⟩:=L.ob id _ (aB h id (some (.bytes p j)));simp only[V]at Y;obtain⟨x,-⟩:=Y;rw[x]at Z;cases Z;rcases q2 with⟨_,hn⟩ | ⟨g,cap,f,mk,M,z,r1,r2,r3,r5,r6⟩
 ·subst hn;simp at h0
 have N:w.shape? g=some (p,f.size):=by unfold World.shape?;rw[r1]
 have A:(convert t t (.slice (some ⟨g,0,none⟩) j.length cap)).run P w = .ok (.slice (some ⟨g,0,none⟩) j.length cap) (w.freeze ⟨g,f.size,none⟩ 1):=by simp[convert,run_underlying hu,run_underlying J,markStringish,N]
 refine Good.aG (v:=a.eval xo) (w':=w.freeze ⟨g,f.size,none⟩ 1) (by simp only[execOp,ho,M,Sem.run_bind,A,Result.andThen_ok];rfl) ?_;refine aF.after (u1:=[(id,some (.bytes p j))]) (u2:=[(id,some (.bytes p j))]) rfl f1 ?_;refine dR L (some id) id (.bytes p j) (a.eval xo) (φ id) (some g) (rL w g _) (fun k e=>⟨id,_,rfl,aB _ _ _,rfl,by cases e;exact z⟩) (.inr ⟨rfl,x⟩)
  (fun _ k hk=>Nat.lt_of_lt_of_le (L.lt id _ k (aB _ _ _) rfl hk) (rL w g _).size) (fun _ k hk=> .inr ⟨id,_,rfl,aB _ _ _,rfl,hk⟩) (fun F' O hF B=>?_) (by rw[bm];rfl) (fun e=>by rw[x]at e;cases e) (fun F' O hF B C=>?_)
 ·refine .inr ⟨g,cap,f,(f.size,f.size+1),M,z,By r1 r2,.inr rfl,r3,r5,r6⟩
 ·simp only[V];exact⟨C,_,_,_,M⟩
/-! ### Bytes of a string D a row of bytes -/
theorem sr{t u ty e:TypeId}{i:TypeInfo}(ht:P.underlying t=some (.slice e))(hu:P.underlying u=some .string)(hi:P.info? e=some i)(hz:i.zero=some (.int .u8 0))(f:i.size=1)(x:i.bytes=1)
  {v:Value} {n:Nat} {C:QY} (p:w.ownsRow 0 e 1 v n C) (s:ByteArray) (D:n+s.size≤maxLen) (q:n+s.size≤140737488355328) :
  ∃E w',(Builtin.append_ #[t,u] ty #[v,.string s]).run P w = .ok E w'∧w'.ownsRow 0 e 1 E (n+s.size) (C++Lib.strCells s)∧w.grownBy w' v.ownBlock ∧
   ∀k,E.ownBlock=some k→w.heap.size≤k∨v.ownBlock=some k:=by
 obtain⟨E,w',z,h2,V,X⟩:=Lib.run_append_own_string (P:=P) w 0 t u ty e i ht hu hi hz f x v n C p s D q (Nat.zero_le _);refine⟨E,w',z,h2,V,fun k hk=>?_⟩;have J:n+s.size≤9223372036854775807:=by simp only[maxLen]at D;omega
 rcases p.2 with⟨rfl,rfl⟩ | ⟨g,cap,I,rfl,_,Y,Z,a1,L,M⟩
 ·by_cases hm:s.size=0
  ·rw[X.2 ⟨rfl,hm⟩]at hk;cases hk
  ·have:=run_append_nil_string (P:=P) w t u ty e i (.int .u8 0) ht hu hi hz s (by omega) (by omega) (by rw[x];omega);rw[this]at z;cases z;simp only[Value.ownBlock,Option.some.injEq]at hk;exact .inl (by omega)
 ·have O:I.size=cap:=by simpa using L
  by_cases A:n+s.size≤cap
  ·have:=Lib.run_append_room_string (P:=P) w t u ty e i ht hu hi f g n cap I Y s A (by omega);rw[this]at z;cases z;exact .inr hk
  ·have B:∀j u,C[j]? = some u→w.cell? ((⟨g,0,none⟩:Addr).add j)=some u:=p.cells (g:=g) rfl;have N:C.length=n:=by simpa using p.1
   have:=Lib.run_append_grow_string (P:=P) w t u ty e i (.int .u8 0) ht hu hi hz ⟨g,0,none⟩ n cap C (by rw[f];simpa using N) B s (by omega) (by omega) (by rw[x];exact growslice_fits (by omega) (by omega));rw[this]at z;cases z;simp only[Value.ownBlock,Option.some.injEq]at hk;exact .inl (by omega)
theorem oH(m:Mem Bw w0 ρ φ h w)(hn:ρ new=none){o:Oper}{a:Act}{t u e:TypeId}{ti tu te:TI}(ht:aO P t ti)(hk:ti.k = .sl e)(a3:aO P u tu)(a4:tu.k = .str)(E:aO P e te)(hT:te.T=some (.int .u8))(a5:te.bytes=1)
  {xo yo:Operand} {x:af} (N:V (Fr (own φ h) Bw w) ρ x (a.eval xo)) {β:Bool} {s:QX} (hy:V (Fr (own φ h) Bw w) ρ (.p β .str s) (a.eval yo)) (ho:o.op = .call { callee:= .builtin .append,args:= #[xo,yo],argTypes:= #[t,u] })
  {f:QK} {O:QJ} {uu:gZ}
  (X:(x = .nils∧f=[]∧O=none∧uu=[(new,some (.arr e (.int .u8) (bZ s)))])∨(∃id,x = .sl id∧h id=some (.arr e (.int .u8) f)∧O=some id∧uu=[(id,none),(new,some (.arr e (.int .u8) (f++bZ s)))]))
  (hb:f.length+s.length≤140737488355328):Good P o a w (aF Bw w0 ρ φ h w new (.sl new) uu):=by
 obtain⟨i,z,hi,hz,I,A,a6,a7,a8⟩:=E.hi;obtain⟨a9,be,bi⟩:=E.hT _ hT;have hu:=aW ht hk;have ac:te.size=1:=a9.symm;obtain⟨d,ad,J⟩:=a3.hu;rw[a4]at J;simp only[UK]at J;subst J;have ax:z = .int .u8 0:=by
  have b1:(zeroValue e).run P w = .ok z w:=by simp[zeroValue,typeInfo,hi,hz]
  have b2:MV (Fr (own φ h) Bw w false) (.int .u8) (Ty.zero (.int .u8)) z:=Af E hT b1 a6 a7 a8;have:=Jo (ρ:=ρ) b2;simp only[enc,Ty.scalar,if_true,V,ah]at this;exact this.2.symm
 subst ax;have b3:a.eval yo = .string ⟨s.toArray⟩:=pD hy;have j:(⟨s.toArray⟩:ByteArray).size=s.length:=rfl;have B:Lib.strCells ⟨s.toArray⟩=(bZ s).map (Value.int .u8):=by simp[Lib.strCells,bZ]
 obtain⟨cells,v,hv,C,L,b4⟩:∃cells v,a.eval xo=v∧w.ownsRow 0 e 1 v f.length cells ∧
   (∀i (h':i<f.length),cells[i]? = some (.int .u8 f[i])) ∧
   ∀k,v.ownBlock=some k→∃i o,O=some i∧h i=some o∧o.live=true∧φ i k:=by
  rcases X with⟨rfl,rfl,rfl,_⟩ | ⟨id,rfl,Y,rfl,_⟩
  ·simp only[V]at N;exact⟨[],_,N,World.ownsRow_nil w 0 e _,fun i hi=>absurd hi (by simp),fun k hk=>by cases hk⟩
  ·simp only[V]at N;obtain⟨u,q1,b5,_,cells,r1,r2⟩:=m.ob id _ Y;rw[N.1]at q1;cases q1;obtain⟨_,aa,nn,cc,he⟩:=N;refine⟨cells,_,rfl,r1,fun i hi=>?_,fun k M=>⟨id,_,rfl,Y,rfl,b5 _ (by rw[cw he];exact M)⟩⟩;have:=r2 i hi;simpa [ah,Ty.size]using this
 have Z:apply uu h=bG (fun i=>if O=some i then none else h i) new (some (.arr e (.int .u8) (f++bZ s))):=by
  rcases X with⟨_,rfl,rfl,rfl⟩ | ⟨id,_,_,rfl,rfl⟩
  ·rw[bn];rfl
  ·rw[rD];rfl
 obtain⟨v',w',hr,h2,h3,h4⟩:=sr (P:=P) (ty:=o.type) hu ad hi hz (by rw[I,ac]) (by rw[A,a5]) C ⟨s.toArray⟩ (by rw[j];unfold maxLen;omega) (by rw[j];exact hb);have b6:∃aa nn cc,v' = .slice aa nn cc:=by rcases h2.2 with⟨e,_⟩ | ⟨g,cap,bs,e,_⟩ <;> exact⟨_,_,_,e⟩
 refine Good.aG (v:=v') (w':=w') ?_ ?_
 ·simp only[execOp,ho,resolve,invoke,builtin,Sem.run_bind,Sem.run_pure,Result.andThen_ok,List.map_toArray,List.map_cons,List.map_nil,hv,b3,hr]
 ·obtain⟨aa,nn,cc,D⟩:=b6;rw[j,B]at h2;have a1:(f++bZ s).length=f.length+s.length:=by simp[bZ]
  have b7:cells.length=f.length:=by simpa using C.1
  refine cO m O new (.arr e (.int .u8) (f++bZ s)) v' v.ownBlock h3 b4 (.inl hn) (fun _ k M=>h4 k (by rw[←cw D];exact M)) (fun F' b8 hF b9=>?_) Z (fun _=>rfl) (fun F' b8 hF b9 a2=>?_)
  ·refine⟨fun _ h=>h,by decide,cells++(bZ s).map (Value.int .u8),by rw[←a1]at h2;exact h2,fun i hi=>?_⟩;simp only[ah,Ty.size,Nat.mul_one,Nat.add_zero];rcases Nat.lt_or_ge i f.length with q | q
   ·rw[List.getElem_append_left q,List.getElem?_append_left (by omega)];exact L i q
   ·rw[List.getElem_append_right q,List.getElem?_append_right (by omega),b7];have:i - f.length<(bZ s).length:=by simp only[List.length_append]at hi;omega
    simp[this]
  ·simp only[V];exact⟨a2,_,_,_,D⟩
end
end Go.Tv
namespace Go.Tv
open Go Go.RowKit
open Go.MapKept (run_setObj_map heap_set)
section
variable{P:Program}{tb:bQ}{Bw:Nat→Prop}{w0:cr P}{ρ:Nat→QW}{φ:Nat→Nat→Prop}{h:Nat→Qz}{w:World}{new:Nat}
theorem Dl(m:Mem Bw w0 ρ φ h w){o:Oper}{a:Act}{t C D:TypeId}{ti:TI}(ht:aO P t ti)(hk:ti.k = .mp C D){xo:Operand}(ho:o.op = .call { callee:= .builtin .clear,args:= #[xo],argTypes:= #[t] })
  {id:Nat} {K A:Ty} {E:List (K.den×A.den)} (hi:h id=some (.mpo K A E)) (I:V (Fr (own φ h) Bw w) ρ (.mp id) (a.eval xo)) :
  Good P o a w (aF Bw w0 ρ φ h w new (.tup []) [(id,some (.mpo K A []))]):=by
 obtain⟨r,X,clock,J,f,p,hb,⟨L,hB⟩,q,M,u⟩:=zj m hi I;obtain⟨Y,hm,j⟩:=ht.hu;rw[hk]at j;simp only[UK]at j;subst j;refine Good.aG (v:= .tuple #[]) (w':= { w with heap:=w.heap.setIfInBounds r (.map #[] clock) }) ?_ ?_
 ·simp only[execOp,ho,resolve,invoke,builtin,Sem.run_bind,Sem.run_pure,Result.andThen_ok,List.map_toArray,List.map_cons,List.map_nil,J];simp[Builtin.clear_,run_underlying hm,Go.MapKept.run_getObj_map hb,run_setObj_map _ hb,Result.andThen]
 ·refine dR m (some id) id (.mpo K A []) (.map (some r)) (φ id) (some r) (iI w r _) (fun k e=>⟨id,_,rfl,hi,rfl,by cases e;exact p⟩) (.inr ⟨rfl,f⟩)
   (fun _ k hk=>Nat.lt_of_lt_of_le (m.lt id _ k hi rfl hk) (iI w r _).size) (fun _ k hk=> .inr ⟨id,_,rfl,hi,rfl,hk⟩) (fun F' x N z=>?_) (by rw[bm];rfl) (fun e=>by rw[f]at e;cases e) (fun F' x N f B=>?_)
  ·exact⟨r,#[],clock,rfl,p,(heap_set hb).1,⟨L,List.nodup_nil,fun e O=>by cases O⟩,rfl,List.nodup_nil,fun i hi=>absurd hi (by simp)⟩
  ·simp only[V,VL];exact⟨#[],rfl,rfl,trivial⟩
theorem A2(m:Mem Bw w0 ρ φ h w){o:Oper}{a:Act}{t e:TypeId}{ti:TI}(ht:aO P t ti)(hk:ti.k = .sl e){xo:Operand}(ho:o.op = .call { callee:= .builtin .cap,args:= #[xo],argTypes:= #[t] })
  (f:V (Fr (own φ h) Bw w) ρ .nils (a.eval xo)):Good P o a w (aF Bw w0 ρ φ h w new (.p false (.int .i64) (0:Int)) []):=by
 have hu:=aW ht hk;simp only[V]at f;refine Good.aG (v:= .int .i64 0) (w':=w) ?_ (aF.pure m (dy _ _ _));simp only[execOp,ho,resolve,invoke,builtin,Sem.run_bind,Sem.run_pure,Result.andThen_ok,List.map_toArray,List.map_cons,List.map_nil,f];simp[Builtin.cap_,run_underlying hu,goInt]
theorem vu{G:Addr→Value→Prop}{A:Ty}{z:QU}(hz:z.size=A.size)(h:ah G A A.zero (fun k u=>z.toList[k]? = some u)){n:Nat}:∀j (q:j<(List.replicate n A.zero).length),ah G A (List.replicate n A.zero)[j] (fun k v=>(Builtin.zeroCells z n).toList[j*A.size+k]? = some v):=fun j q=>by
 simp only[List.length_replicate]at q;simp only[List.getElem_replicate];refine ah.gw (fun k v hk p=>?_) h;have x:j*A.size+A.size≤n*A.size:=by rw[←Nat.succ_mul];exact Nat.mul_le_mul_right _ q
 rw[Array.getElem?_toList];have B:(Builtin.zeroCells z n)[j*A.size+k]? = some (z[(j*A.size+k) % z.size]!):=by
  have:j*A.size+k<n*z.size:=by rw[hz];omega
  simp[Builtin.zeroCells,this]
 rw[B,hz,Nat.mul_comm,Nat.mul_add_mod,Nat.mod_eq_of_lt hk];have f:k<z.size:=by omega
 simp only[Array.getElem?_toList]at p;rw[Array.getElem?_eq_getElem f]at p;simp only[Option.some.injEq]at p;simp[f,p]
theorem sZ{t u ty e:TypeId}{i:TypeInfo}{z:Value}{k0 kl:IntKind}(ht:P.underlying t=some (.slice e))(hu:P.underlying u=some (.int k0))(hi:P.info? e=some i)(hz:i.zero=some z)
  (N:z.cells.size=i.size) (O:0<i.size) (a4:∀c∈z.cells.toList,c.oneCell'=true) {v:Value} {n:Nat} {D:QY} (f:w.ownsRow 0 e i.size v n D) (k:Nat)
  (V:n+k≤maxLen) (q:(n+k)*i.bytes≤140737488355328) :
  ∃v' w',(Builtin.append_ #[t,u] ty #[v,.int kl k]).run P w = .ok v' w'∧w'.ownsRow 0 e i.size v' (n+k) (D++(Builtin.zeroCells z.cells k).toList)∧w.grownBy w' v.ownBlock ∧
   ∀b,v'.ownBlock=some b→w.heap.size≤b∨v.ownBlock=some b:=by
 have a3:n+k≤9223372036854775807:=by simp only[maxLen]at V;omega
 have hw:IntKind.i64.wrap (k:Int)=k:=by rw[IntKind.wrap_i64];omega
 have X:¬((k:Int)<0):=by omega
 have aa:k*i.bytes≤140737488355328:=Nat.le_trans (Nat.mul_le_mul_right _ (by omega)) q;have Y:¬(281474976710656<(k:Int)*(i.bytes:Int)):=by rw[←Int.natCast_mul];omega
 have I:(Builtin.zeroCells z.cells k).toList.length=k*i.size:=by rw[Array.length_toList,size_zeroCells,N]
 by_cases hk:k=0
 ·subst hk;have Z:IntKind.i64.wrap 0=0:=rfl;have e0:(Builtin.zeroCells z.cells 0).toList=[]:=List.eq_nil_of_length_eq_zero (by rw[I];omega);refine⟨v,w,?_,by rw[e0,List.append_nil];exact f,⟨rfl,rfl,rfl,Nat.le_refl _,fun _ _ _=>rfl⟩,fun b hb=> .inr hb⟩;rcases f.2 with⟨rfl,rfl⟩ | ⟨g,cap,A,rfl,_,hg,a1,_⟩
  ·simp[Builtin.append_,run_underlying ht,run_underlying hu,sizeOf,typeInfo,hi,asInt,asIntOf,Z]
  ·simp[Builtin.append_,run_underlying ht,run_underlying hu,sizeOf,typeInfo,hi,asInt,asIntOf,Z,a1,storeCells]
 have a5:¬(k*i.size=0):=Nat.mul_ne_zero hk (by omega);have x:(D++(Builtin.zeroCells z.cells k).toList).length=(n+k)*i.size:=by rw[List.length_append,f.1,I,Nat.add_mul]
 have grown:∀(B:Nat) (row:QJ) (w':World),w'=w.drew.alloc (.cells (D.toArray++Builtin.zeroCells z.cells k++Builtin.zeroCells z.cells (grownCap w (n+k) B e - (n+k))) e) →
   w'.ownsRow 0 e i.size (.slice (some ⟨w.heap.size,0,none⟩) (n+k) (grownCap w (n+k) B e)) (n+k) (D++(Builtin.zeroCells z.cells k).toList)∧w.grownBy w' row:=by
  rintro B row w' rfl;have a6:=grownCap_ge w (n+k) B e;have J:grownCap w (n+k) B e≤maxLen:=grownCap_le_maxLen w (n+k) B e V;refine⟨⟨x,.inr ⟨w.heap.size,_,_,rfl,Nat.zero_le _,heap_alloc_new w.drew _,a6,J,?_,?_⟩⟩,⟨rfl,rfl,rfl,by simp,fun k hk _=>heap_alloc_old w.drew _ hk⟩⟩
  ·simp only[Array.size_append,List.size_toArray,size_zeroCells,N,f.1,←Nat.add_mul];congr 1;omega
  ·simp only[Array.toList_append];rw[←x];exact List.take_left
 rcases f.2 with⟨rfl,rfl⟩ | ⟨g,cap,A,rfl,_,hg,a1,J,a7,L⟩
 ·have hx:D=[]:=List.eq_nil_of_length_eq_zero (by simpa using f.1);subst hx;have hr:=Lib.run_append_nil_zeros (P:=P) w t u ty e i z kl k0 ht hu hi hz k (by omega) O (by omega) (by omega);have C:=grown 0 (Value.ownBlock (.slice none 0 0)) _ rfl;simp only[Nat.zero_add,List.nil_append,Array.empty_append]at C ⊢;exact⟨_,_,hr,C.1,C.2,fun b hb=> .inl (by simp only[Value.ownBlock,Option.some.injEq]at hb;omega)⟩
 ·by_cases p:n+k≤cap
  ·have E:n*i.size+(Builtin.zeroCells z.cells k).toList.length≤A.size:=by rw[I,a7,←Nat.add_mul];exact Nat.mul_le_mul_right _ p
   have a2:=run_storeCells_at P g (n*i.size) e (Builtin.zeroCells z.cells k).toList 0 A w hg (by simpa using E) (fun c hc=>by
    simp only[Builtin.zeroCells,Array.toList_map,List.mem_map]at hc;obtain⟨j,_,rfl⟩:=hc;have a8:j % z.cells.size<z.cells.size:=Nat.mod_lt _ (by omega);rw[getElem!_pos z.cells (j % z.cells.size) a8];exact a4 _ (by simp))
   simp only[Nat.add_zero]at a2;refine⟨.slice (some ⟨g,0,none⟩) (n+k) cap,_,?_,⟨x,.inr ⟨g,cap,_,rfl,Nat.zero_le _,setRow_heap w g A (A.toList.take (n*i.size)++(Builtin.zeroCells z.cells k).toList++A.toList.drop (n*i.size+(Builtin.zeroCells z.cells k).toList.length)).toArray e _ hg,p,J,?_,?_⟩⟩,⟨rfl,rfl,rfl,by simp,fun k _ hk=>setRow_other w g k _ (fun e=>hk (by simp[Value.ownBlock,e]))⟩,fun b hb=> .inr hb⟩
   ·simp[Builtin.append_,run_underlying ht,run_underlying hu,sizeOf,typeInfo,zeroValue,hi,hz,asInt,asIntOf,hw,X,Y,a5,p,Addr.add_lit,a2]
   ·simp only[List.size_toArray,List.length_append,List.length_take,List.length_drop,Array.length_toList]at E ⊢;omega
   ·rw[L,←x];exact List.take_left
  ·have M:∀j u,D[j]? = some u→w.cell? ((⟨g,0,none⟩:Addr).add j)=some u:=f.cells (g:=g) rfl;have a9:=run_firstCells_some (P:=P) w.drew i.size n ⟨g,0,none⟩ n cap D f.1 (by simpa using M);have hr:=Lib.run_append_grow_zeros (P:=P) w t u ty e i z kl k0 ht hu hi hz (some ⟨g,0,none⟩) n cap D a9 k (by omega) O (by omega) (by omega) (by omega) (growslice_fits (by omega) q);have C:=grown cap (Value.ownBlock (.slice (some ⟨g,0,none⟩) n cap)) _ rfl;exact⟨_,_,hr,C.1,C.2,fun b hb=> .inl (by simp only[Value.ownBlock,Option.some.injEq]at hb;omega)⟩
theorem yb(m:Mem Bw w0 ρ φ h w)(hn:ρ new=none){o:Oper}{a:Act}{t e u:TypeId}{ti te tu:TI}(ht:aO P t ti)(hk:ti.k = .sl e)(O:aO P e te){A:Ty}(hT:te.T=some A)(h0:0<A.size)
  (a5:aO P u tu) {k0:IntKind} (a6:tu.k = .int k0) {xo yo:Operand} (ho:o.op = .call { callee:= .builtin .append,args:= #[xo,yo],argTypes:= #[t,u] })
  {x:af} (X:V (Fr (own φ h) Bw w) ρ x (a.eval xo)) {β:Bool} {kl:IntKind} {l:Int} (hl:V (Fr (own φ h) Bw w) ρ (.p β (.int kl) l) (a.eval yo)) {f:List A.den} {Y:QJ} {us:gZ}
  (I:(x = .nils∧f=[]∧Y=none∧us=[(new,some (.arr e A (f++List.replicate l.toNat A.zero)))])∨(∃id,x = .sl id∧h id=some (.arr e A f)∧Y=some id∧us=[(id,none),(new,some (.arr e A (f++List.replicate l.toNat A.zero)))]))
  (h1:0≤l) (hb:(f.length+l.toNat)*te.bytes≤140737488355328) (a7:f.length+l.toNat≤9223372036854775807) :
  Good P o a w (aF Bw w0 ρ φ h w new (.sl new) us):=by
 obtain⟨i,z,hi,hz,J,B,a8,a9,ac⟩:=O.hi;obtain⟨Z,b6,ad⟩:=O.hT A hT;have hu:=aW ht hk;have j:i.size=A.size:=by rw[J,Z]
 obtain⟨du,ax,q⟩:=a5.hu;rw[a6]at q;simp only[UK]at q;subst q;obtain⟨n,rfl⟩:∃n:Nat,l=(n:Int):=⟨l.toNat,by omega⟩;rw[Int.toNat_natCast]at hb a7 I;obtain⟨cells,v,hv,C,L,b1⟩:∃cells v,a.eval xo=v∧w.ownsRow 0 e A.size v f.length cells ∧
   (∀i (h':i<f.length),ah (Fr (own φ h) Bw w false) A f[i] (fun k v=>cells[i*A.size+k]? = some v)) ∧
   ∀k,v.ownBlock=some k→∃i o,Y=some i∧h i=some o∧o.live=true∧φ i k:=by
  rcases I with⟨rfl,rfl,rfl,_⟩ | ⟨id,rfl,a1,rfl,_⟩
  ·simp only[V]at X;exact⟨[],_,X,World.ownsRow_nil w 0 e _,fun i hi=>absurd hi (by simp),fun k hk=>by cases hk⟩
  ·simp only[V]at X;obtain⟨u,q1,b2,_,cells,r1,r2⟩:=m.ob id _ a1;rw[X.1]at q1;cases q1;obtain⟨_,aa,nn,cc,he⟩:=X;exact⟨cells,_,rfl,r1,r2,fun k M=>⟨id,_,rfl,a1,rfl,b2 _ (by rw[cw he];exact M)⟩⟩
 have a2:apply us h=bG (fun i=>if Y=some i then none else h i) new (some (.arr e A (f++List.replicate n A.zero))):=by
  rcases I with⟨_,rfl,rfl,rfl⟩ | ⟨id,_,_,rfl,rfl⟩
  ·rw[bn];rfl
  ·rw[rD];rfl
 have N:w.ownsRow 0 e i.size v f.length cells:=by rw[j];exact C
 have D:z.cells.size=A.size:=by rw[a9,←Z]
 obtain⟨v',w',hr,h2,h3,h4⟩:=sZ (P:=P) (t:=t) (u:=u) (ty:=o.type) (kl:=kl) (k0:=k0) hu ax hi hz (by rw[D,j]) (by omega) ac N n (by unfold maxLen;omega) (by rw[B];exact hb);have b3:∃aa nn cc,v' = .slice aa nn cc:=by rcases h2.2 with⟨e,_⟩ | ⟨g,cap,b7,e,_⟩ <;> exact⟨_,_,_,e⟩
 have hy:=bV hl;refine Good.aG (v:=v') (w':=w') ?_ ?_
 ·simp only[execOp,ho,resolve,invoke,builtin,Sem.run_bind,Sem.run_pure,Result.andThen_ok,List.map_toArray,List.map_cons,List.map_nil,hv,hy,hr]
 ·obtain⟨aa,nn,cc,E⟩:=b3;refine cO m Y new (.arr e A (f++List.replicate n A.zero)) v' v.ownBlock h3 b1 (.inl hn) (fun _ k M=>h4 k (by rw[←cw E];exact M)) (fun F' a3 hF b4=>?_) a2 (fun _=>rfl) (fun F' a3 hF b4 a4=>?_)
  ·have b5:ah (F' false) A A.zero (fun k u=>z.cells.toList[k]? = some u):=by have:=gu (F:=F') (ρ:=a3) z.cells.toList;rw[a8]at this;exact(cN ad this).1
   refine⟨fun _ h=>h,h0,cells++(Builtin.zeroCells z.cells n).toList,by rw[List.length_append,List.length_replicate,←j];exact h2,fun i hi=>pv C.1 (fun i hi=>ah.mono (hF _) (fun _ _ h=>h) (L i hi)) (vu D b5) i hi⟩
  ·simp only[V];exact⟨a4,_,_,_,E⟩
theorem DM(m:Mem Bw w0 ρ φ h w){o:Oper}{a:Act}{t:TypeId}{ti D:TI}(ht:aO P t ti){xo:Operand}{Y:List af}(Z:V (Fr (own φ h) Bw w) ρ (.agg Y) (a.eval xo)){f:Nat}(ho:o.op = .field t xo f)
  {fs:List (Nat×TypeId)} (hk:ti.k = .st fs) {off:Nat} {E:TypeId} (A:fs[f]? = some (off,E)) (B:aO P E D) {y:af} (z:gn D Y off=some y):Good P o a w (aF Bw w0 ρ φ h w new y []):=by
 obtain⟨d,h1,h2⟩:=ht.hu;rw[hk]at h2;obtain⟨I,rfl,h3,h4⟩:=h2;subst h3;rw[List.getElem?_map]at A;obtain⟨j,J,L⟩:∃j,I.toList[f]? = some j∧(j.offset,j.type)=(off,E):=by
  cases hq:I.toList[f]? with
  | none=>rw[hq]at A;cases A
  | some j=>rw[hq]at A;exact⟨j,rfl,by simpa using A⟩
 cases L;have M:I[f]? = some j:=by simpa using J
 simp only[V]at Z;obtain⟨vs,hv,a1,C⟩:=Z;obtain⟨v,hr,N⟩:∃v,(part j.type vs j.offset).run P w = .ok v w∧V (Fr (own φ h) Bw w) ρ y v:=by
  unfold gn at z;unfold part;rw[Sem.run_bind,lj B];simp only[Result.andThen_ok];split at z
  ·rename_i p;split at z
   ·rename_i a2;cases z;refine⟨.agg (vs.extract j.offset (j.offset+D.size)),?_,?_⟩
    ·rw[if_pos p,Sem.run_bind,run_sizeOf B];rfl
    ·simp only[V];refine⟨_,rfl,by simp only[Array.size_extract,List.length_take,List.length_drop];omega,VL.mono (fun _ _ _ h=>h) (fun _ _ h=>h) (fun k u hk=>hk) (VL.mk fun k x q=>?_)⟩;rw[List.getElem?_take]at q;split at q
     ·rename_i a3;rw[List.getElem?_drop]at q;obtain⟨u,O,X⟩:=VL.get C q;exact⟨u,by rw[Array.getElem?_extract,if_pos (by omega)];exact O,X⟩
     ·cases q
   ·cases z
  ·rename_i p;obtain⟨u,O,X⟩:=VL.get C z;refine⟨u,?_,X⟩;rw[if_neg (by simpa using p),O];rfl
 refine Good.aG (v:=v) (w':=w) ?_ (aF.pure m N);simp[execOp,ho,Instr.field,run_underlying h1,M,hv,asAgg,hr]
end
end Go.Tv
