import Derived.Test.YtflahpmlcfhpcaaGreatDoorTvKjm
import Derived.Lib.AppendStr
import Derived.Lib.AppendZerosOnto
namespace Go.Tv
open Go Go.RowKit
section
variable{P:Program}{Bw:Nat→Prop}{w0:cw P}{ρ:Nat→QW}{φ:Nat→Nat→Prop}{h:Nat→Qz}{w:World}{new:Nat}
theorem Hf{b:Nat}{v:Value}(f:w.pZ ⟨b,0,some 0⟩=some v):∃j p,w.heap[b]? = some (.map j p)∧v = .tuple (j.map fun e=>Value.tuple #[e.key,e.val]):=by
 unfold World.pZ at f;simp only at f;split at f
 ·rename_i j p hb;cases f;exact⟨j,p,hb,rfl⟩
 ·cases f
def yT(f:IntKind)(e:Bool)(r:Option Int):ag :=
 if e then .tup [.p false (.int f) (r.getD 0),.p false .bool r.isSome]else .p false (.int f) (r.getD 0)
theorem Cz{F:Bool→Addr→Value→Prop}{f:IntKind}{e:Bool}{r:Option Int}{v:Value}{b:Bool}(j:v = .int f (r.getD 0))(hb:b=r.isSome):V F ρ (yT f e r) (if e then .tuple #[v,.bool b]else v):=by
 subst j hb;cases e
 ·simp[yT,V,ah,Ty.scalar]
 ·simp only[yT,if_true,V,VL];exact⟨_,rfl,rfl,⟨_,rfl,by simp[ah,Ty.scalar]⟩,⟨_,rfl,by simp[ah,Ty.scalar]⟩,trivial⟩
theorem GJ{t j p:TypeId}{ti E I:TI}(ht:aN P t ti)(hk:ti.k = .mp j p){J q:IntKind}(u:aN P j I)(x:I.k = .int J)(f:aN P p E)(hT:E.T=some (.int q)):
  P.underlying t=some (.map j p)∧(zeroValue p).run P w = .ok (.int q 0) w∧hH P j (.int J):=by
 obtain⟨M,L,e⟩:=ht.hu;rw[hk]at e;simp only[UK]at e;subst e;obtain⟨z,hz,A,B,C⟩:=dX f w;have D:MV (fun _ _=>True) (.int q) (Ty.zero (.int q)) z:=yF f hT hz A B C;have:=HY (F:=fun _ _ _=>True) (ρ:=jh) D;simp only[enc,Ty.scalar,if_true,V,ah]at this;rw[←this.2]at hz;exact⟨L,hz,hH.D6 u (by rw[x];rfl)⟩
theorem look_nil(m:Mem Bw w0 ρ φ h w){o:Oper}{a:Act}{t z D:TypeId}{ti E I:TI}(ht:aN P t ti)(hk:ti.k = .mp z D){u x:IntKind}(A:aN P z I)(B:I.k = .int u)(C:aN P D E)(hT:E.T=some (.int x))
  {J L:Operand} {f:Bool} (M:o.op = .lookup t J L f) (N:a.eval J = .map none) {i:Int} (O:a.eval L=aS (.int u) i) :
  Good P o a w (aF Bw w0 ρ φ h w new (yT x f (bg (α:=Int) (.int u) [] i)) []):=by
 obtain⟨V,hz,q⟩:=GJ (w:=w) ht hk A B C hT;have X:=q.find i [] [] w rfl;have p:(Instr.findKey z (aS (.int u) i) []).run P w = .ok none w:=by
  rcases X with⟨Y,_⟩ | ⟨j,e,_,Z,_⟩
  ·exact Y
  ·simp at Z
 refine Good.aG (v:=if f then .tuple #[.int x 0,.bool false]else .int x 0) (w':=w) ?_ (aF.pure m (Cz rfl rfl));simp only[execOp,M];rw[N,O];cases f <;> simp[Instr.lookup,run_underlying V,q.check,p,hz,Result.andThen]
theorem Dw(m:Mem Bw w0 ρ φ h w){o:Oper}{a:Act}{t kt et:TypeId}{ti te tk:TI}(ht:aN P t ti)(hk:ti.k = .mp kt et){q J:IntKind}(O:aN P kt tk)(V:tk.k = .int q)(X:aN P et te)(hT:te.T=some (.int J))
  {xo ko:Operand} {f:Bool} (ho:o.op = .lookup t xo ko f) {b:Nat} (e1:a.eval xo = .map (some b)) {i:Int} (e2:a.eval ko=aS (.int q) i) {B:Array MapEntry} {cl:Nat} (hb:w.heap[b]? = some (.map B cl))
  {A:Qq} (M:B.toList.map (·.key)=A.map (fun p=>Value.int q p.1)) (Y:B.toList.map (·.val)=A.map (fun p=>Value.int J p.2)) (Z:(A.map (·.1)).Nodup) :
  Good P o a w (aF Bw w0 ρ φ h w new (yT J f (bg (α:=Int) (.int q) A i)) []):=by
 obtain⟨hm,hz,D⟩:=GJ (w:=w) ht hk O V X hT;have u:B.toList.map (·.key)=(A.map (·.1)).map (aS (.int q)):=by rw[M,List.map_map];rfl
 have N:∀(j:Nat) (e:MapEntry),B.toList[j]? = some e→∃p:Int×Int,A[j]? = some p∧e.key=Value.int q p.1∧e.val=Value.int J p.2:=fun j e he=>by
  have z:=congrArg (fun l=>l[j]?) M;have C:=congrArg (fun l=>l[j]?) Y;simp only[List.getElem?_map,he]at z C;cases q1:A[j]? with
  | none=>rw[q1]at z;simp at z
  | some p=>rw[q1]at z C;simp at z C;exact⟨p,rfl,z,C⟩
 rcases D.find i B.toList (A.map (·.1)) w u with⟨z,C⟩ | ⟨j,e,z,C,h3⟩
 ·have E:bg (α:=Int) (.int q) A i=none:=nq (K:= .int q) rfl fun p hp e=>by
   obtain⟨j,hj⟩:=List.mem_iff_getElem?.1 hp;have L:(B.toList.map (·.key))[j]? = some (aS (.int q) i):=by rw[u,List.getElem?_map,List.getElem?_map,hj];exact congrArg some (congrArg (aS (.int q)) e)
   rw[List.getElem?_map]at L;cases hq:B.toList[j]? with
   | none=>rw[hq]at L;cases L
   | some x =>rw[hq]at L;simp at L;exact C x (List.mem_of_getElem? hq) L
  rw[E];refine Good.aG (v:=if f then .tuple #[.int J 0,.bool false]else .int J 0) (w':=w) ?_ (aF.pure m (Cz rfl rfl));simp only[execOp,ho];rw[e1,e2];cases f <;> simp[Instr.lookup,run_underlying hm,Go.MapKept.run_getObj_map hb,D.check,z,hz,Result.andThen]
 ·obtain⟨p,hp,a1,a2⟩:=N j e C;have a3:p.1=i:=by rw[a1]at h3;simpa [aS]using h3
  have I:=nG (K:= .int q) (α:=Int) (k:=i) rfl Z hp a3;rw[I];refine Good.aG (v:=if f then .tuple #[e.val,.bool true]else e.val) (w':=w) ?_ (aF.pure m (Cz (by rw[a2];rfl) rfl));simp only[execOp,ho];rw[e1,e2];cases f <;> simp[Instr.lookup,run_underlying hm,Go.MapKept.run_getObj_map hb,D.check,z,Result.andThen]
theorem zA(m:Mem Bw w0 ρ φ h w){o:Oper}{a:Act}{t X Y:TypeId}{ti Z tk:TI}(ht:aN P t ti)(hk:ti.k = .mp X Y){f x:IntKind}(z:aN P X tk)(A:tk.k = .int f)(B:aN P Y Z)(hT:Z.T=some (.int x))
  {xo J:Operand} {C:Bool} (ho:o.op = .lookup t xo J C) {β:Bool} {u:Qq} (hx:V (Fr (own φ h) Bw w) ρ (.p β (.mapi f x) u) (a.eval xo)) {L:Bool} {i:Int} (hi:V (Fr (own φ h) Bw w) ρ (.p L (.int f) i) (a.eval J)) :
  Good P o a w (aF Bw w0 ρ φ h w new (yT x C (bg (α:=Int) (.int f) u i)) []):=by
 have e2:a.eval J=aS (.int f) i:=rj rfl rfl hi;simp only[V,ah]at hx;obtain⟨-,r,e1,M⟩:=hx;cases r with
 | none =>
  simp only at M;subst M;exact look_nil m ht hk z A B hT ho e1.symm e2
 | some b =>
  obtain⟨N,O⟩:=M;obtain⟨E,cl,hb,q⟩:=Hf N.2.2;unfold I8 at q;simp only[Value.tuple.injEq]at q;have hl:(u.map fun p=>Value.tuple #[.int f p.1,.int x p.2])=E.toList.map fun e=>Value.tuple #[e.key,e.val]:=by have:=congrArg Array.toList q;simpa using this
  have D:∀j:Nat,(E.toList.map (·.key))[j]? = (u.map (fun p=>Value.int f p.1))[j]? ∧(E.toList.map (·.val))[j]? = (u.map (fun p=>Value.int x p.2))[j]? :=fun j=>by
   have:=congrArg (fun l=>l[j]?) hl;simp only[List.getElem?_map]at this ⊢;cases q1:u[j]? <;> cases q2:E.toList[j]? <;> rw[q1,q2]at this <;> simp at this ⊢
   exact⟨this.1.symm,this.2.symm⟩
  exact Dw m ht hk z A B hT ho e1.symm e2 hb (List.ext_getElem? fun j=>(D j).1) (List.ext_getElem? fun j=>(D j).2) O
/-! ### Rows of I -/
theorem vk{F:Bool→Addr→Value→Prop}{sz:Nat}:∀ {e:List ag} {vs:QY},(∀x∈e,(cellsOf x).all ag.cell=true∧(cellsOf x).length=sz)→iL F ρ e vs →
  vs.length=e.length∧(∀v∈vs,v.cells.size=sz)∧VL F ρ (e.flatMap cellsOf) (fun k u=>(vs.flatMap fun v=>v.cells.toList)[k]? = some u)
 | [],[],_,_=>⟨rfl,fun _ h=>by simp at h,by simp only[List.flatMap_nil,VL]⟩
 | x::e,v::vs,hc,⟨A,B⟩=>by
  obtain⟨C,D⟩:=hc x (by simp);obtain⟨E,I,J⟩:=vk (fun y L=>hc y (by simp[L])) B;obtain⟨M,p,N⟩:=fW C A;refine⟨by simp[E],fun u hu=>?_,?_⟩
  ·rcases List.mem_cons.1 hu with rfl | hu
   ·rw[←D,←p,Array.length_toList]
   ·exact I u hu
  ·rw[List.flatMap_cons,List.flatMap_cons];refine VL.mk fun k y hk=>?_
   rcases Nat.lt_or_ge k (cellsOf x).length with f | j
   ·rw[List.getElem?_append_left f]at hk;obtain⟨u,q,z⟩:=VL.get M hk;exact⟨u,by rw[List.getElem?_append_left (by rw[p];exact f)];exact q,z⟩
   ·rw[List.getElem?_append_right j]at hk;obtain⟨u,q,z⟩:=VL.get J hk;exact⟨u,by rw[List.getElem?_append_right (by rw[p];exact j),p];exact q,z⟩
 | [],_::_,_,h=>h.elim
 | _::_,[],_,h=>h.elim
theorem xk(m:Mem Bw w0 ρ φ h w)(hn:ρ new=none){o:Oper}{a:Act}{t e:TypeId}{ti A:TI}(ht:aN P t ti)(hk:ti.k = .sl e)(N:aN P e A)
  {parts:Array (Nat×Operand)} {len:Nat} (ho:o.op = .buildSlice t len parts) (O:parts.toList.map (·.1)=List.range len) {q:List ag}
  (hx:iL (Fr (own φ h) Bw w) ρ q (parts.toList.map fun p=>a.eval p.2)) (hc:∀x∈q,(cellsOf x).all ag.cell=true∧(cellsOf x).length=A.size) (X:len*A.size≤16777216) :
  Good P o a w (aF Bw w0 ρ φ h w new (.sl new) [(new,some (.vrow len A.size (q.flatMap cellsOf)))]):=by
 obtain⟨g1,g2,g3⟩:=vk hc hx;have f:(parts.toList.map fun p=>a.eval p.2).length=len:=by have:=congrArg List.length O;simpa using this
 have B:(parts.map fun p=>(p.1,a.eval p.2))=(((parts.toList.map fun p=>a.eval p.2).zipIdx 0).map fun p=>(p.2,p.1)).toArray:=by
  apply Array.ext';simp only[Array.toList_map];apply List.ext_getElem?;intro j;simp only[List.getElem?_map,List.getElem?_zipIdx,Option.map_map];have D:=congrArg (fun l=>l[j]?) O;simp only[List.getElem?_map]at D;cases Y:parts.toList[j]? with
  | none=>simp[Y]
  | some p =>
   simp only[Y,Option.map_some]at D ⊢;have Z:j<len:=by have:=(List.getElem?_eq_some_iff.1 Y).1;have h2:=congrArg List.length O;simp only[List.length_map,List.length_range]at h2;omega
   rw[List.getElem?_range Z]at D;simp only[Option.some.injEq]at D;simp[D]
 have C:=oR (P:=P) (w:=w) ht hk N (vs:=parts.toList.map fun p=>a.eval p.2) g2 (by rw[f];exact X);rw[f,←B]at C;refine Good.aG (v:=_) (w':=_) (by simp only[execOp,ho,Sem.run_bind,C,Result.andThen_ok];rfl) ?_;have E:∀ {vs:QY},(∀v∈vs,v.cells.size=A.size)→(vs.flatMap fun v=>v.cells.toList).length=vs.length*A.size:=fun {vs} I=>by
  induction vs with
  | nil=>simp
  | cons v vs ih=>rw[List.flatMap_cons,List.length_append,ih (fun u hu=>I u (by simp[hu])),Array.length_toList,I v (by simp),List.length_cons,Nat.succ_mul,Nat.add_comm]
 have z:∀ {q:List ag},(∀x∈q,(cellsOf x).all ag.cell=true∧(cellsOf x).length=A.size)→(q.flatMap cellsOf).length=q.length*A.size:=fun {q} I=>by
  induction q with
  | nil=>simp
  | cons v vs ih=>rw[List.flatMap_cons,List.length_append,ih (fun u hu=>I u (by simp[hu])),(I v (by simp)).2,List.length_cons,Nat.succ_mul,Nat.add_comm]
 have J:q.length=len:=by rw[←g1,f]
 refine cV m none new (.vrow len A.size (q.flatMap cellsOf)) (.slice (some ⟨w.heap.size,0,none⟩) len len) none (World.grownBy_alloc w _ none) (fun k e=>by cases e) (.inl hn) (fun _ k hk=>?_) (fun F' a1 hF L=>?_) (by rw[bp];rfl) (fun _=>rfl) (fun F' a1 hF L M=>?_)
 ·simp only[dx,Option.some.injEq]at hk;exact .inl (by omega)
 ·simp only[OR];refine⟨_,e,_,rfl,rfl,heap_alloc_new w _,?_,?_,VL.mono hF L (fun k u hk=>by simpa using hk) g3⟩
  ·rw[List.size_toArray,E g2,z hc,f,J]
  ·rw[z hc,J]
 ·simp only[V];exact⟨M,_,_,_,rfl⟩
theorem yz(m:Mem Bw w0 ρ φ h w){id n sz:Nat}{e:List ag}(hb:h id=some (.vrow n sz e)){u:Value}(j:ρ id=some u):
  ∃g t cells,u = .slice (some ⟨g,0,none⟩) n n∧w.heap[g]? = some (.cells cells t (0,0))∧cells.size=e.length∧e.length=n*sz∧VL (Fr (own φ h) Bw w) ρ e (fun k v=>cells[k]? = some v):=by
 obtain⟨A,f,g,t,cells,rfl,_,p,q,x,z⟩:=m.ob id _ hb;rw[j]at f;cases f;exact⟨g,t,cells,rfl,p,q,x,z⟩
theorem Al(m:Mem Bw w0 ρ φ h w){o:Oper}{a:Act}{t:TypeId}{ti:TI}(ht:aN P t ti){e:TypeId}(hk:ti.k = .sl e){xo:Operand}{id n sz:Nat}{u:List ag}(q:V (Fr (own φ h) Bw w) ρ (.sl id) (a.eval xo))
  (hb:h id=some (.vrow n sz u)) (x:o.op = .call { callee:= .builtin .len,args:= #[xo],argTypes:= #[t] }):Good P o a w (aF Bw w0 ρ φ h w new (.p false (.int .i64) (n:Int)) []):=by
 obtain⟨d,z,f⟩:=ht.hu;rw[hk]at f;simp only[UK]at f;subst f;simp only[V]at q;obtain⟨j,-⟩:=q;obtain⟨g,B,cells,A,-⟩:=yz m hb j;refine Good.aG (v:= .int .i64 n) (w':=w) ?_ (aF.pure m (dH _ _ _));simp only[execOp,x,resolve,invoke,builtin,Sem.run_bind,Sem.run_pure,Result.andThen_ok,List.map_toArray,List.map_cons,List.map_nil,A];simp[Builtin.len_,run_underlying z,goInt]
theorem xx(m:Mem Bw w0 ρ φ h w){o:Oper}{a:Act}{t e:TypeId}{ti j:TI}(ht:aN P t ti)(hk:ti.k = .sl e)(q:aN P e j){xo io:Operand}{id n:Nat}{z:List ag}(u:V (Fr (own φ h) Bw w) ρ (.sl id) (a.eval xo))
  (hb:h id=some (.vrow n j.size z)) {β:Bool} {k:IntKind} {i:Int} (hi:V (Fr (own φ h) Bw w) ρ (.p β (.int k) i) (a.eval io)) (A:o.op = .indexAddr t xo io) (B:0≤i) (hn:i<n) :
  Good P o a w (aF Bw w0 ρ φ h w new (.adr id i.toNat j.size 0) []):=by
 have hu:=aX ht hk;have C:=bX hi;simp only[V]at u;obtain⟨f,-⟩:=u;obtain⟨g,D,cells,x,-⟩:=yz m hb f;refine Good.aG (v:= .pointer (some ((⟨g,0,none⟩:Addr).add (i.toNat*j.size)))) (w':=w) ?_ (aF.pure m ?_)
 ·simp[execOp,A,Instr.indexAt,asIntOf,C,x,run_underlying hu,run_sizeOf q,B,hn]
 ·simp only[V];exact⟨g,.inr ⟨_,_,by rw[f,x]⟩,by rw[cr];simp⟩
theorem yE(m:Mem Bw w0 ρ φ h w){o:Oper}{a:Act}{t:TypeId}{ti:TI}(ht:aN P t ti){xo:Operand}{id i sz off:Nat}(A:V (Fr (own φ h) Bw w) ρ (.adr id i sz off) (a.eval xo))(B:o.op = .load t xo)
  {n j:Nat} {p:List ag} (hb:h id=some (.vrow n j p)) {y:ag} (C:gk ti p (i*sz+off)=some y):Good P o a w (aF Bw w0 ρ φ h w new y []):=by
 obtain⟨u,q,_⟩:=m.ob id _ hb;obtain⟨g,M,cells,rfl,D,N,O,E⟩:=yz m hb q;simp only[V]at A;obtain⟨x,e,I⟩:=A;have z:x=g:=by
  rcases e with e | ⟨_,_,e⟩
  ·rw[q]at e;cases e
  ·rw[q]at e;cases e;rfl
 subst z;have f:VL (Fr (own φ h) Bw w) ρ p (fun k u=>w.cell? ((⟨x,0,none⟩:Addr).add k)=some u):=VL.mono (fun _ _ _ h=>h) (fun _ _ h=>h) (fun k u hk=>by
  rw[cr,Nat.zero_add];simp only[World.cell?,D];exact hk) E
 obtain⟨v,J,L⟩:=iE (P:=P) ht f C;refine Good.aG (v:=v) (w':=w) ?_ (aF.pure m L);have:a.eval xo = .pointer (some ((⟨x,0,none⟩:Addr).add (i*sz+off))):=by rw[I,cr,Nat.zero_add]
 simp[execOp,B,Instr.loadAt,this,Instr.sureAddr,J]
theorem BB{w:World}{g:Nat}{e:QU}{j:TypeId}{mk:Nat×Nat}(p:w.heap[g]? = some (.cells e j mk))(f:mk=(0,0)∨mk=(e.size,e.size+1)):
  (w.freeze ⟨g,e.size,none⟩ 1).heap[g]? = some (.cells e j (e.size,e.size+1)):=by
 unfold World.freeze;rw[if_neg (by decide)];simp only[Array.getElem?_modify,p,if_true,Option.map_some];rcases f with rfl | rfl
 ·simp
 ·simp
theorem qT(w:World)(g k:Nat):w.grownBy (w.freeze ⟨g,k,none⟩ 1) (some g):=by
 refine⟨rfl,rfl,rfl,?_,fun j p f=>?_⟩
 ·unfold World.freeze;rw[if_neg (by decide)];simp
 ·unfold World.freeze;rw[if_neg (by decide)];have:g≠j:=fun e=>f (by rw[e])
  simp[Array.getElem?_modify,this]
theorem wS(m:Mem Bw w0 ρ φ h w){o:Oper}{a:Act}{t e:TypeId}{ti X:TI}(ht:aN P t ti)(hk:ti.k = .sl e)(E:aN P e X)(I:X.k = .int .u8){xo:Operand}{id:Nat}(Y:V (Fr (own φ h) Bw w) ρ (.sl id) (a.eval xo))
  (ho:o.op = .convert t t xo) {p:TypeId} {j:QK} (hi:h id=some (.arr p (.int .u8) j)) (h0:0<j.length):Good P o a w (aF Bw w0 ρ φ h w new (.sl id) [(id,some (.bytes p j)),(id,some (.bytes p j))]):=by
 have hu:=aX ht hk;obtain⟨d2,J,q⟩:=E.hu;rw[I]at q;simp only[UK]at q;subst q;obtain⟨L,f1⟩:=m.De hi;obtain⟨u,Z,q2⟩:=L.ob id _ (aB h id (some (.bytes p j)));simp only[V]at Y;obtain⟨x,-⟩:=Y;rw[x]at Z;cases Z;rcases q2 with⟨_,hn⟩ | ⟨g,cap,f,mk,M,z,r1,r2,r3,r5,r6⟩
 ·subst hn;simp at h0
 have N:w.shape? g=some (p,f.size):=by unfold World.shape?;rw[r1]
 have A:(convert t t (.slice (some ⟨g,0,none⟩) j.length cap)).run P w = .ok (.slice (some ⟨g,0,none⟩) j.length cap) (w.freeze ⟨g,f.size,none⟩ 1):=by simp[convert,run_underlying hu,run_underlying J,markStringish,N]
 refine Good.aG (v:=a.eval xo) (w':=w.freeze ⟨g,f.size,none⟩ 1) (by simp only[execOp,ho,M,Sem.run_bind,A,Result.andThen_ok];rfl) ?_;refine aF.after (u1:=[(id,some (.bytes p j))]) (u2:=[(id,some (.bytes p j))]) rfl f1 ?_;refine dY L (some id) id (.bytes p j) (a.eval xo) (φ id) (some g) (qT w g _) (fun k e=>⟨id,_,rfl,aB _ _ _,rfl,by cases e;exact z⟩) (.inr ⟨rfl,x⟩)
  (fun _ k hk=>Nat.lt_of_lt_of_le (L.lt id _ k (aB _ _ _) rfl hk) (qT w g _).size) (fun _ k hk=> .inr ⟨id,_,rfl,aB _ _ _,rfl,hk⟩) (fun F' O hF B=>?_) (by rw[bm];rfl) (fun e=>by rw[x]at e;cases e) (fun F' O hF B C=>?_)
 ·refine .inr ⟨g,cap,f,(f.size,f.size+1),M,z,BB r1 r2,.inr rfl,r3,r5,r6⟩
 ·simp only[V];exact⟨C,_,_,_,M⟩
/-! ### Bytes of a string D a row of bytes -/
theorem qS{t u ty e:TypeId}{i:TypeInfo}(ht:P.underlying t=some (.slice e))(hu:P.underlying u=some .string)(hi:P.info? e=some i)(hz:i.zero=some (.int .u8 0))(f:i.size=1)(x:i.bytes=1)
  {v:Value} {n:Nat} {C:QY} (p:w.ownsRow 0 e 1 v n C) (s:ByteArray) (D:n+s.size≤maxLen) (q:n+s.size≤140737488355328) :
  ∃E w',(Builtin.append_ #[t,u] ty #[v,.string s]).run P w = .ok E w'∧w'.ownsRow 0 e 1 E (n+s.size) (C++Lib.strCells s)∧w.grownBy w' v.ownBlock ∧
   ∀k,E.ownBlock=some k→w.heap.size≤k∨v.ownBlock=some k:=by
 obtain⟨E,w',z,V,X,Y⟩:=Lib.run_append_own_string (P:=P) w 0 t u ty e i ht hu hi hz f x v n C p s D q (Nat.zero_le _);refine⟨E,w',z,V,X,fun k hk=>?_⟩;have J:n+s.size≤9223372036854775807:=by simp only[maxLen]at D;omega
 rcases p.2 with⟨rfl,rfl⟩ | ⟨g,cap,I,rfl,_,Z,a1,a2,L,M⟩
 ·by_cases hm:s.size=0
  ·rw[Y.2 ⟨rfl,hm⟩]at hk;cases hk
  ·have:=run_append_nil_string (P:=P) w t u ty e i (.int .u8 0) ht hu hi hz s (by omega) (by omega) (by rw[x];omega);rw[this]at z;cases z;simp only[Value.ownBlock,Option.some.injEq]at hk;exact .inl (by omega)
 ·have O:I.size=cap:=by simpa using L
  by_cases A:n+s.size≤cap
  ·have:=Lib.run_append_room_string (P:=P) w t u ty e i ht hu hi f g n cap I Z s A (by omega);rw[this]at z;cases z;exact .inr hk
  ·have B:∀j u,C[j]? = some u→w.cell? ((⟨g,0,none⟩:Addr).add j)=some u:=p.cells (g:=g) rfl;have N:C.length=n:=by simpa using p.1
   have:=Lib.run_append_grow_string (P:=P) w t u ty e i (.int .u8 0) ht hu hi hz ⟨g,0,none⟩ n cap C (by rw[f];simpa using N) B s (by omega) (by omega) (by rw[x];exact growslice_fits (by omega) (by omega));rw[this]at z;cases z;simp only[Value.ownBlock,Option.some.injEq]at hk;exact .inl (by omega)
theorem oE(m:Mem Bw w0 ρ φ h w)(hn:ρ new=none){o:Oper}{a:Act}{t u e:TypeId}{ti tu te:TI}(ht:aN P t ti)(hk:ti.k = .sl e)(a3:aN P u tu)(a4:tu.k = .str)(E:aN P e te)(hT:te.T=some (.int .u8))(a5:te.bytes=1)
  {xo yo:Operand} {x:ag} (N:V (Fr (own φ h) Bw w) ρ x (a.eval xo)) {β:Bool} {s:QX} (hy:V (Fr (own φ h) Bw w) ρ (.p β .str s) (a.eval yo)) (ho:o.op = .call { callee:= .builtin .append,args:= #[xo,yo],argTypes:= #[t,u] })
  {f:QK} {O:QJ} {uu:gZ}
  (X:(x = .nils∧f=[]∧O=none∧uu=[(new,some (.arr e (.int .u8) (cd s)))])∨(∃id,x = .sl id∧h id=some (.arr e (.int .u8) f)∧O=some id∧uu=[(id,none),(new,some (.arr e (.int .u8) (f++cd s)))]))
  (hb:f.length+s.length≤140737488355328):Good P o a w (aF Bw w0 ρ φ h w new (.sl new) uu):=by
 obtain⟨i,z,hi,hz,I,A,a6,a7,a8⟩:=E.hi;obtain⟨a9,be,bi⟩:=E.hT _ hT;have hu:=aX ht hk;have ac:te.size=1:=a9.symm;obtain⟨d,ad,J⟩:=a3.hu;rw[a4]at J;simp only[UK]at J;subst J;have ax:z = .int .u8 0:=by
  have b1:(zeroValue e).run P w = .ok z w:=by simp[zeroValue,typeInfo,hi,hz]
  have b2:MV (Fr (own φ h) Bw w false) (.int .u8) (Ty.zero (.int .u8)) z:=yF E hT b1 a6 a7 a8;have:=HY (ρ:=ρ) b2;simp only[enc,Ty.scalar,if_true,V,ah]at this;exact this.2.symm
 subst ax;have b3:a.eval yo = .string ⟨s.toArray⟩:=oC hy;have j:(⟨s.toArray⟩:ByteArray).size=s.length:=rfl;have B:Lib.strCells ⟨s.toArray⟩=(cd s).map (Value.int .u8):=by simp[Lib.strCells,cd]
 obtain⟨cells,v,hv,C,L,b4⟩:∃cells v,a.eval xo=v∧w.ownsRow 0 e 1 v f.length cells ∧
   (∀i (h':i<f.length),cells[i]? = some (.int .u8 f[i])) ∧
   ∀k,v.ownBlock=some k→∃i o,O=some i∧h i=some o∧o.live=true∧φ i k:=by
  rcases X with⟨rfl,rfl,rfl,_⟩ | ⟨id,rfl,Y,rfl,_⟩
  ·simp only[V]at N;exact⟨[],_,N,World.ownsRow_nil w 0 e _,fun i hi=>absurd hi (by simp),fun k hk=>by cases hk⟩
  ·simp only[V]at N;obtain⟨u,q1,b5,_,cells,r1,r2⟩:=m.ob id _ Y;rw[N.1]at q1;cases q1;obtain⟨_,aa,nn,cc,he⟩:=N;refine⟨cells,_,rfl,r1,fun i hi=>?_,fun k M=>⟨id,_,rfl,Y,rfl,b5 _ (by rw[cF he];exact M)⟩⟩;have:=r2 i hi;simpa [ah,Ty.size]using this
 have Z:apply uu h=bF (fun i=>if O=some i then none else h i) new (some (.arr e (.int .u8) (f++cd s))):=by
  rcases X with⟨_,rfl,rfl,rfl⟩ | ⟨id,_,_,rfl,rfl⟩
  ·rw[bp];rfl
  ·rw[rJ];rfl
 obtain⟨v',w',hr,h2,h3,h4⟩:=qS (P:=P) (ty:=o.type) hu ad hi hz (by rw[I,ac]) (by rw[A,a5]) C ⟨s.toArray⟩ (by rw[j];unfold maxLen;omega) (by rw[j];exact hb);have b6:∃aa nn cc,v' = .slice aa nn cc:=by rcases h2.2 with⟨e,_⟩ | ⟨g,cap,bs,e,_⟩ <;> exact⟨_,_,_,e⟩
 refine Good.aG (v:=v') (w':=w') ?_ ?_
 ·simp only[execOp,ho,resolve,invoke,builtin,Sem.run_bind,Sem.run_pure,Result.andThen_ok,List.map_toArray,List.map_cons,List.map_nil,hv,b3,hr]
 ·obtain⟨aa,nn,cc,D⟩:=b6;rw[j,B]at h2;have a1:(f++cd s).length=f.length+s.length:=by simp[cd]
  have b7:cells.length=f.length:=by simpa using C.1
  refine cV m O new (.arr e (.int .u8) (f++cd s)) v' v.ownBlock h3 b4 (.inl hn) (fun _ k M=>h4 k (by rw[←cF D];exact M)) (fun F' b8 hF b9=>?_) Z (fun _=>rfl) (fun F' b8 hF b9 a2=>?_)
  ·refine⟨fun _ h=>h,by decide,cells++(cd s).map (Value.int .u8),by rw[←a1]at h2;exact h2,fun i hi=>?_⟩;simp only[ah,Ty.size,Nat.mul_one,Nat.add_zero];rcases Nat.lt_or_ge i f.length with q | q
   ·rw[List.getElem_append_left q,List.getElem?_append_left (by omega)];exact L i q
   ·rw[List.getElem_append_right q,List.getElem?_append_right (by omega),b7];have:i - f.length<(cd s).length:=by simp only[List.length_append]at hi;omega
    simp[this]
  ·simp only[V];exact⟨a2,_,_,_,D⟩
end
end Go.Tv
namespace Go.Tv
open Go Go.RowKit
open Go.MapKept (run_setObj_map heap_set)
section
variable{P:Program}{tb:bU}{Bw:Nat→Prop}{w0:cw P}{ρ:Nat→QW}{φ:Nat→Nat→Prop}{h:Nat→Qz}{w:World}{new:Nat}
theorem Cy(m:Mem Bw w0 ρ φ h w){o:Oper}{a:Act}{t C D:TypeId}{ti:TI}(ht:aN P t ti)(hk:ti.k = .mp C D){xo:Operand}(E:o.op = .call { callee:= .builtin .clear,args:= #[xo],argTypes:= #[t] })
  {id:Nat} {K A:Ty} {I:List (K.den×A.den)} (hi:h id=some (.mpo K A I)) (J:V (Fr (own φ h) Bw w) ρ (.mp id) (a.eval xo)) :
  Good P o a w (aF Bw w0 ρ φ h w new (.tup []) [(id,some (.mpo K A []))]):=by
 obtain⟨r,Z,clock,L,f,p,hb,⟨M,hB⟩,q,N,u⟩:=yC m hi J;obtain⟨dm,O,j⟩:=ht.hu;rw[hk]at j;simp only[UK]at j;subst j;refine Good.aG (v:= .tuple #[]) (w':= { w with heap:=w.heap.setIfInBounds r (.map #[] clock) }) ?_ ?_
 ·simp only[execOp,E,resolve,invoke,builtin,Sem.run_bind,Sem.run_pure,Result.andThen_ok,List.map_toArray,List.map_cons,List.map_nil,L];simp[Builtin.clear_,run_underlying O,Go.MapKept.run_getObj_map hb,run_setObj_map _ hb,Result.andThen]
 ·refine dY m (some id) id (.mpo K A []) (.map (some r)) (φ id) (some r) (iH w r _) (fun k e=>⟨id,_,rfl,hi,rfl,by cases e;exact p⟩) (.inr ⟨rfl,f⟩)
   (fun _ k hk=>Nat.lt_of_lt_of_le (m.lt id _ k hi rfl hk) (iH w r _).size) (fun _ k hk=> .inr ⟨id,_,rfl,hi,rfl,hk⟩) (fun F' x X z=>?_) (by rw[bm];rfl) (fun e=>by rw[f]at e;cases e) (fun F' x X f B=>?_)
  ·exact⟨r,#[],clock,rfl,p,(heap_set hb).1,⟨M,List.nodup_nil,fun e Y=>by cases Y⟩,rfl,List.nodup_nil,fun i hi=>absurd hi (by simp)⟩
  ·simp only[V,VL];exact⟨#[],rfl,rfl,trivial⟩
theorem Ap(m:Mem Bw w0 ρ φ h w){o:Oper}{a:Act}{t e:TypeId}{ti:TI}(ht:aN P t ti)(hk:ti.k = .sl e){xo:Operand}(j:o.op = .call { callee:= .builtin .cap,args:= #[xo],argTypes:= #[t] })
  (f:V (Fr (own φ h) Bw w) ρ .nils (a.eval xo)):Good P o a w (aF Bw w0 ρ φ h w new (.p false (.int .i64) (0:Int)) []):=by
 have hu:=aX ht hk;simp only[V]at f;refine Good.aG (v:= .int .i64 0) (w':=w) ?_ (aF.pure m (dH _ _ _));simp only[execOp,j,resolve,invoke,builtin,Sem.run_bind,Sem.run_pure,Result.andThen_ok,List.map_toArray,List.map_cons,List.map_nil,f];simp[Builtin.cap_,run_underlying hu,goInt]
theorem vR{G:Addr→Value→Prop}{A:Ty}{z:QU}(hz:z.size=A.size)(h:ah G A A.zero (fun k u=>z.toList[k]? = some u)){n:Nat}:∀j (p:j<(List.replicate n A.zero).length),ah G A (List.replicate n A.zero)[j] (fun k v=>(Builtin.zeroCells z n).toList[j*A.size+k]? = some v):=fun j p=>by
 simp only[List.length_replicate]at p;simp only[List.getElem_replicate];refine ah.gD (fun k v hk f=>?_) h;have q:j*A.size+A.size≤n*A.size:=by rw[←Nat.succ_mul];exact Nat.mul_le_mul_right _ p
 rw[Array.getElem?_toList];have x:(Builtin.zeroCells z n)[j*A.size+k]? = some (z[(j*A.size+k) % z.size]!):=by
  have:j*A.size+k<n*z.size:=by rw[hz];omega
  simp[Builtin.zeroCells,this]
 rw[x,hz,Nat.mul_comm,Nat.mul_add_mod,Nat.mod_eq_of_lt hk];have e:k<z.size:=by omega
 simp only[Array.getElem?_toList]at f;rw[Array.getElem?_eq_getElem e]at f;simp only[Option.some.injEq]at f;simp[e,f]
theorem sR{t u ty e:TypeId}{i:TypeInfo}{z:Value}{k0 kl:IntKind}(ht:P.underlying t=some (.slice e))(hu:P.underlying u=some (.int k0))(hi:P.info? e=some i)(hz:i.zero=some z)
  (N:z.cells.size=i.size) (O:0<i.size) (a4:∀c∈z.cells.toList,c.oneCell'=true) {v:Value} {n:Nat} {D:QY} (f:w.ownsRow 0 e i.size v n D) (k:Nat)
  (V:n+k≤maxLen) (q:(n+k)*i.bytes≤140737488355328) :
  ∃v' w',(Builtin.append_ #[t,u] ty #[v,.int kl k]).run P w = .ok v' w'∧w'.ownsRow 0 e i.size v' (n+k) (D++(Builtin.zeroCells z.cells k).toList)∧w.grownBy w' v.ownBlock ∧
   ∀b,v'.ownBlock=some b→w.heap.size≤b∨v.ownBlock=some b:=by
 have a3:n+k≤9223372036854775807:=by simp only[maxLen]at V;omega
 have hw:IntKind.i64.wrap (k:Int)=k:=by rw[IntKind.wrap_i64];omega
 have X:¬((k:Int)<0):=by omega
 have aa:k*i.bytes≤140737488355328:=Nat.le_trans (Nat.mul_le_mul_right _ (by omega)) q;have Y:¬(281474976710656<(k:Int)*(i.bytes:Int)):=by rw[←Int.natCast_mul];omega
 have I:(Builtin.zeroCells z.cells k).toList.length=k*i.size:=by rw[Array.length_toList,size_zeroCells,N]
 by_cases hk:k=0
 ·subst hk;have Z:IntKind.i64.wrap 0=0:=rfl;have e0:(Builtin.zeroCells z.cells 0).toList=[]:=List.eq_nil_of_length_eq_zero (by rw[I];omega);refine⟨v,w,?_,by rw[e0,List.append_nil];exact f,⟨rfl,rfl,rfl,Nat.le_refl _,fun _ _ _=>rfl⟩,fun b hb=> .inr hb⟩;rcases f.2 with⟨rfl,rfl⟩ | ⟨g,cap,A,rfl,_,hg,a1,_⟩
  ·simp[Builtin.append_,run_underlying ht,run_underlying hu,sizeOf,typeInfo,hi,asInt,asIntOf,Z]
  ·simp[Builtin.append_,run_underlying ht,run_underlying hu,sizeOf,typeInfo,hi,asInt,asIntOf,Z,a1,storeCells]
 have a5:¬(k*i.size=0):=Nat.mul_ne_zero hk (by omega);have x:(D++(Builtin.zeroCells z.cells k).toList).length=(n+k)*i.size:=by rw[List.length_append,f.1,I,Nat.add_mul]
 have grown:∀(B:Nat) (row:QJ) (w':World),w'=w.drew.alloc (.cells (D.toArray++Builtin.zeroCells z.cells k++Builtin.zeroCells z.cells (grownCap w (n+k) B e - (n+k))) e) →
   w'.ownsRow 0 e i.size (.slice (some ⟨w.heap.size,0,none⟩) (n+k) (grownCap w (n+k) B e)) (n+k) (D++(Builtin.zeroCells z.cells k).toList)∧w.grownBy w' row:=by
  rintro B row w' rfl;have a6:=grownCap_ge w (n+k) B e;have J:grownCap w (n+k) B e≤maxLen:=grownCap_le_maxLen w (n+k) B e V;refine⟨⟨x,.inr ⟨w.heap.size,_,_,rfl,Nat.zero_le _,heap_alloc_new w.drew _,a6,J,?_,?_⟩⟩,⟨rfl,rfl,rfl,by simp,fun k hk _=>heap_alloc_old w.drew _ hk⟩⟩
  ·simp only[Array.size_append,List.size_toArray,size_zeroCells,N,f.1,←Nat.add_mul];congr 1;omega
  ·simp only[Array.toList_append];rw[←x];exact List.take_left
 rcases f.2 with⟨rfl,rfl⟩ | ⟨g,cap,A,rfl,_,hg,a1,J,a7,L⟩
 ·have hx:D=[]:=List.eq_nil_of_length_eq_zero (by simpa using f.1);subst hx;have hr:=Lib.run_append_nil_zeros (P:=P) w t u ty e i z kl k0 ht hu hi hz k (by omega) O (by omega) (by omega);have C:=grown 0 (Value.ownBlock (.slice none 0 0)) _ rfl;simp only[Nat.zero_add,List.nil_append,Array.empty_append]at C ⊢;exact⟨_,_,hr,C.1,C.2,fun b hb=> .inl (by simp only[Value.ownBlock,Option.some.injEq]at hb;omega)⟩
 ·by_cases p:n+k≤cap
  ·have E:n*i.size+(Builtin.zeroCells z.cells k).toList.length≤A.size:=by rw[I,a7,←Nat.add_mul];exact Nat.mul_le_mul_right _ p
   have a2:=run_storeCells_at P g (n*i.size) e (Builtin.zeroCells z.cells k).toList 0 A w hg (by simpa using E) (fun c hc=>by
    simp only[Builtin.zeroCells,Array.toList_map,List.mem_map]at hc;obtain⟨j,_,rfl⟩:=hc;have a8:j % z.cells.size<z.cells.size:=Nat.mod_lt _ (by omega);rw[getElem!_pos z.cells (j % z.cells.size) a8];exact a4 _ (by simp))
   simp only[Nat.add_zero]at a2;refine⟨.slice (some ⟨g,0,none⟩) (n+k) cap,_,?_,⟨x,.inr ⟨g,cap,_,rfl,Nat.zero_le _,setRow_heap w g A (A.toList.take (n*i.size)++(Builtin.zeroCells z.cells k).toList++A.toList.drop (n*i.size+(Builtin.zeroCells z.cells k).toList.length)).toArray e _ hg,p,J,?_,?_⟩⟩,⟨rfl,rfl,rfl,by simp,fun k _ hk=>setRow_other w g k _ (fun e=>hk (by simp[Value.ownBlock,e]))⟩,fun b hb=> .inr hb⟩
   ·simp[Builtin.append_,run_underlying ht,run_underlying hu,sizeOf,typeInfo,zeroValue,hi,hz,asInt,asIntOf,hw,X,Y,a5,p,Addr.add_lit,a2]
   ·simp only[List.size_toArray,List.length_append,List.length_take,List.length_drop,Array.length_toList]at E ⊢;omega
   ·rw[L,←x];exact List.take_left
  ·have M:∀j u,D[j]? = some u→w.cell? ((⟨g,0,none⟩:Addr).add j)=some u:=f.cells (g:=g) rfl;have a9:=run_firstCells_some (P:=P) w.drew i.size n ⟨g,0,none⟩ n cap D f.1 (by simpa using M);have hr:=Lib.run_append_grow_zeros (P:=P) w t u ty e i z kl k0 ht hu hi hz (some ⟨g,0,none⟩) n cap D a9 k (by omega) O (by omega) (by omega) (by omega) (growslice_fits (by omega) q);have C:=grown cap (Value.ownBlock (.slice (some ⟨g,0,none⟩) n cap)) _ rfl;exact⟨_,_,hr,C.1,C.2,fun b hb=> .inl (by simp only[Value.ownBlock,Option.some.injEq]at hb;omega)⟩
theorem yn(m:Mem Bw w0 ρ φ h w)(hn:ρ new=none){o:Oper}{a:Act}{t e u:TypeId}{ti te tu:TI}(ht:aN P t ti)(hk:ti.k = .sl e)(O:aN P e te){A:Ty}(hT:te.T=some A)(h0:0<A.size)
  (a5:aN P u tu) {k0:IntKind} (a6:tu.k = .int k0) {xo yo:Operand} (ho:o.op = .call { callee:= .builtin .append,args:= #[xo,yo],argTypes:= #[t,u] })
  {x:ag} (X:V (Fr (own φ h) Bw w) ρ x (a.eval xo)) {β:Bool} {kl:IntKind} {l:Int} (hl:V (Fr (own φ h) Bw w) ρ (.p β (.int kl) l) (a.eval yo)) {f:List A.den} {Y:QJ} {us:gZ}
  (I:(x = .nils∧f=[]∧Y=none∧us=[(new,some (.arr e A (f++List.replicate l.toNat A.zero)))])∨(∃id,x = .sl id∧h id=some (.arr e A f)∧Y=some id∧us=[(id,none),(new,some (.arr e A (f++List.replicate l.toNat A.zero)))]))
  (h1:0≤l) (hb:(f.length+l.toNat)*te.bytes≤140737488355328) (a7:f.length+l.toNat≤9223372036854775807) :
  Good P o a w (aF Bw w0 ρ φ h w new (.sl new) us):=by
 obtain⟨i,z,hi,hz,J,B,a8,a9,ac⟩:=O.hi;obtain⟨Z,b6,ad⟩:=O.hT A hT;have hu:=aX ht hk;have j:i.size=A.size:=by rw[J,Z]
 obtain⟨du,ax,q⟩:=a5.hu;rw[a6]at q;simp only[UK]at q;subst q;obtain⟨n,rfl⟩:∃n:Nat,l=(n:Int):=⟨l.toNat,by omega⟩;rw[Int.toNat_natCast]at hb a7 I;obtain⟨cells,v,hv,C,L,b1⟩:∃cells v,a.eval xo=v∧w.ownsRow 0 e A.size v f.length cells ∧
   (∀i (h':i<f.length),ah (Fr (own φ h) Bw w false) A f[i] (fun k v=>cells[i*A.size+k]? = some v)) ∧
   ∀k,v.ownBlock=some k→∃i o,Y=some i∧h i=some o∧o.live=true∧φ i k:=by
  rcases I with⟨rfl,rfl,rfl,_⟩ | ⟨id,rfl,a1,rfl,_⟩
  ·simp only[V]at X;exact⟨[],_,X,World.ownsRow_nil w 0 e _,fun i hi=>absurd hi (by simp),fun k hk=>by cases hk⟩
  ·simp only[V]at X;obtain⟨u,q1,b2,_,cells,r1,r2⟩:=m.ob id _ a1;rw[X.1]at q1;cases q1;obtain⟨_,aa,nn,cc,he⟩:=X;exact⟨cells,_,rfl,r1,r2,fun k M=>⟨id,_,rfl,a1,rfl,b2 _ (by rw[cF he];exact M)⟩⟩
 have a2:apply us h=bF (fun i=>if Y=some i then none else h i) new (some (.arr e A (f++List.replicate n A.zero))):=by
  rcases I with⟨_,rfl,rfl,rfl⟩ | ⟨id,_,_,rfl,rfl⟩
  ·rw[bp];rfl
  ·rw[rJ];rfl
 have N:w.ownsRow 0 e i.size v f.length cells:=by rw[j];exact C
 have D:z.cells.size=A.size:=by rw[a9,←Z]
 obtain⟨v',w',hr,h2,h3,h4⟩:=sR (P:=P) (t:=t) (u:=u) (ty:=o.type) (kl:=kl) (k0:=k0) hu ax hi hz (by rw[D,j]) (by omega) ac N n (by unfold maxLen;omega) (by rw[B];exact hb);have b3:∃aa nn cc,v' = .slice aa nn cc:=by rcases h2.2 with⟨e,_⟩ | ⟨g,cap,b7,e,_⟩ <;> exact⟨_,_,_,e⟩
 have hy:=bX hl;refine Good.aG (v:=v') (w':=w') ?_ ?_
 ·simp only[execOp,ho,resolve,invoke,builtin,Sem.run_bind,Sem.run_pure,Result.andThen_ok,List.map_toArray,List.map_cons,List.map_nil,hv,hy,hr]
 ·obtain⟨aa,nn,cc,E⟩:=b3;refine cV m Y new (.arr e A (f++List.replicate n A.zero)) v' v.ownBlock h3 b1 (.inl hn) (fun _ k M=>h4 k (by rw[←cF E];exact M)) (fun F' a3 hF b4=>?_) a2 (fun _=>rfl) (fun F' a3 hF b4 a4=>?_)
  ·have b5:ah (F' false) A A.zero (fun k u=>z.cells.toList[k]? = some u):=by have:=gE (F:=F') (ρ:=a3) z.cells.toList;rw[a8]at this;exact(cQ ad this).1
   refine⟨fun _ h=>h,h0,cells++(Builtin.zeroCells z.cells n).toList,by rw[List.length_append,List.length_replicate,←j];exact h2,fun i hi=>oN C.1 (fun i hi=>ah.mono (hF _) (fun _ _ h=>h) (L i hi)) (vR D b5) i hi⟩
  ·simp only[V];exact⟨a4,_,_,_,E⟩
theorem Ca(m:Mem Bw w0 ρ φ h w){o:Oper}{a:Act}{t:TypeId}{ti C:TI}(ht:aN P t ti){xo:Operand}{X:List ag}(Y:V (Fr (own φ h) Bw w) ρ (.agg X) (a.eval xo)){f:Nat}(ho:o.op = .field t xo f)
  {Z:List (Nat×TypeId)} (hk:ti.k = .st Z) {off:Nat} {D:TypeId} (z:Z[f]? = some (off,D)) (A:aN P D C) {y:ag} (q:gk C X off=some y):Good P o a w (aF Bw w0 ρ φ h w new y []):=by
 obtain⟨d,h1,h2⟩:=ht.hu;rw[hk]at h2;obtain⟨E,rfl,h3,h4⟩:=h2;subst h3;rw[List.getElem?_map]at z;obtain⟨e,I,J⟩:∃e,E.toList[f]? = some e∧(e.offset,e.type)=(off,D):=by
  cases hq:E.toList[f]? with
  | none=>rw[hq]at z;cases z
  | some e=>rw[hq]at z;exact⟨e,rfl,by simpa using z⟩
 cases J;have L:E[f]? = some e:=by simpa using I
 simp only[V]at Y;obtain⟨vs,hv,a1,B⟩:=Y;obtain⟨v,hr,M⟩:∃v,(part e.type vs e.offset).run P w = .ok v w∧V (Fr (own φ h) Bw w) ρ y v:=by
  unfold gk at q;unfold part;rw[Sem.run_bind,kP A];simp only[Result.andThen_ok];split at q
  ·rename_i j;split at q
   ·rename_i a2;cases q;refine⟨.agg (vs.extract e.offset (e.offset+C.size)),?_,?_⟩
    ·rw[if_pos j,Sem.run_bind,run_sizeOf A];rfl
    ·simp only[V];refine⟨_,rfl,by simp only[Array.size_extract,List.length_take,List.length_drop];omega,VL.mono (fun _ _ _ h=>h) (fun _ _ h=>h) (fun k u hk=>hk) (VL.mk fun k x p=>?_)⟩;rw[List.getElem?_take]at p;split at p
     ·rename_i a3;rw[List.getElem?_drop]at p;obtain⟨u,N,O⟩:=VL.get B p;exact⟨u,by rw[Array.getElem?_extract,if_pos (by omega)];exact N,O⟩
     ·cases p
   ·cases q
  ·rename_i j;obtain⟨u,N,O⟩:=VL.get B q;refine⟨u,?_,O⟩;rw[if_neg (by simpa using j),N];rfl
 refine Good.aG (v:=v) (w':=w) ?_ (aF.pure m M);simp[execOp,ho,Instr.field,run_underlying h1,L,hv,asAgg,hr]
end
end Go.Tv
