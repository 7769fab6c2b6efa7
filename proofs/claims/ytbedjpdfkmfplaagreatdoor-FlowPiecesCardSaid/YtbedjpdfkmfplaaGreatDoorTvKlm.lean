import Derived.Test.YtbedjpdfkmfplaaGreatDoorTvKjm
import Derived.Lib.AppendStr
import Derived.Lib.AppendZerosOnto
namespace Go.Tv
open Go Go.RowKit
section
variable{P:Program}{Bw:Nat→Prop}{w0:cE P}{ρ:Nat→QW}{φ:Nat→Nat→Prop}{h:Nat→Qz}{w:World}{new:Nat}
theorem Jm{b:Nat}{v:Value}(j:w.pb ⟨b,0,some 0⟩=some v):∃f cl,w.heap[b]? = some (.map f cl)∧v = .tuple (f.map fun e=>Value.tuple #[e.key,e.val]):=by
 grind (splits:=6) (ematch:=4) [World.pb]
def A8(f:IntKind)(e:Bool)(r:Option Int):ag :=
 if e then .tup [.p false (.int f) (r.getD 0),.p false .bool r.isSome]else .p false (.int f) (r.getD 0)
theorem Fe{F:Bool→Addr→Value→Prop}{f:IntKind}{e:Bool}{r:Option Int}{v:Value}{b:Bool}(j:v = .int f (r.getD 0))(hb:b=r.isSome):V F ρ (A8 f e r) (if e then .tuple #[v,.bool b]else v):=by
 subst j hb;cases e
 ·simp[A8,V,ai,Ty.scalar]
 ·simp_all [A8,V,VL,ai,Ty.scalar]
theorem Ib{t j q:TypeId}{ti J L:TI}(ht:aO P t ti)(hk:ti.k = .mp j q){M u:IntKind}(A:aO P j L)(B:L.k = .int M)(f:aO P q J)(hT:J.T=some (.int u)):
  P.underlying t=some (.map j q)∧(zeroValue q).run P w = .ok (.int u 0) w∧fU P j (.int M):=by
 obtain⟨O,N,e⟩:=ht.hu;rw[hk]at e;simp only[UK]at e;subst e;obtain⟨z,hz,C,D,E⟩:=dF f w;have I:MV (fun _ _=>True) (.int u) (Ty.zero (.int u)) z:=vZ f hT hz C D E;have:=Gy (F:=fun _ _ _=>True) (ρ:=jF) I;simp only[enc,Ty.scalar,if_true,V,ai]at this;rw[←this.2]at hz;exact⟨N,hz,fU.zL A (by rw[B];rfl)⟩
theorem look_nil(m:Mem Bw w0 ρ φ h w){o:Oper}{a:Act}{t z D:TypeId}{ti E I:TI}(ht:aO P t ti)(hk:ti.k = .mp z D){q u:IntKind}(A:aO P z I)(B:I.k = .int q)(C:aO P D E)(hT:E.T=some (.int u))
  {J L:Operand} {e:Bool} (M:o.op = .lookup t J L e) (N:a.eval J = .map none) {i:Int} (O:a.eval L=aP (.int q) i) :
  Good P o a w (aG Bw w0 ρ φ h w new (A8 u e (aT (α:=Int) (.int q) [] i)) []):=by
 obtain⟨V,hz,j⟩:=Ib (w:=w) ht hk A B C hT;have X:=j.find i [] [] w rfl;have f:(Instr.findKey z (aP (.int q) i) []).run P w = .ok none w:=by simp_all
 refine Good.aH (v:=if e then .tuple #[.int u 0,.bool false]else .int u 0) (w':=w) ?_ (aG.pure m (Fe rfl rfl));simp only[execOp,M];rw[N,O];cases e <;> simp[Instr.lookup,run_underlying V,j.check,f,hz,Result.andThen]
theorem F4(m:Mem Bw w0 ρ φ h w){o:Oper}{a:Act}{t kt et:TypeId}{ti te tk:TI}(ht:aO P t ti)(hk:ti.k = .mp kt et){q J:IntKind}(O:aO P kt tk)(V:tk.k = .int q)(X:aO P et te)(hT:te.T=some (.int J))
  {xo ko:Operand} {f:Bool} (ho:o.op = .lookup t xo ko f) {b:Nat} (e1:a.eval xo = .map (some b)) {i:Int} (e2:a.eval ko=aP (.int q) i) {B:Array MapEntry} {cl:Nat} (hb:w.heap[b]? = some (.map B cl))
  {A:Qq} (M:B.toList.map (·.key)=A.map (fun p=>Value.int q p.1)) (Y:B.toList.map (·.val)=A.map (fun p=>Value.int J p.2)) (Z:(A.map (·.1)).Nodup) :
  Good P o a w (aG Bw w0 ρ φ h w new (A8 J f (aT (α:=Int) (.int q) A i)) []):=by
 obtain⟨hm,hz,D⟩:=Ib (w:=w) ht hk O V X hT;have u:B.toList.map (·.key)=(A.map (·.1)).map (aP (.int q)):=by rw[M,List.map_map];rfl
 have N:∀(j:Nat) (e:MapEntry),B.toList[j]? = some e→∃p:Int×Int,A[j]? = some p∧e.key=Value.int q p.1∧e.val=Value.int J p.2:=fun j e he=>by
  have z:=congrArg (fun l=>l[j]?) M;have C:=congrArg (fun l=>l[j]?) Y;simp only[List.getElem?_map,he]at z C;cases q1:A[j]? with
  | none=>rw[q1]at z;simp at z
  | some p=>rw[q1]at z C;simp at z C;exact⟨p,rfl,z,C⟩
 rcases D.find i B.toList (A.map (·.1)) w u with⟨z,C⟩ | ⟨j,e,z,C,h3⟩
 ·have E:aT (α:=Int) (.int q) A i=none:=jU (K:= .int q) rfl fun p hp e=>by
   obtain⟨j,hj⟩:=List.mem_iff_getElem?.1 hp;have L:(B.toList.map (·.key))[j]? = some (aP (.int q) i):=by rw[u,List.getElem?_map,List.getElem?_map,hj];exact congrArg some (congrArg (aP (.int q)) e)
   rw[List.getElem?_map]at L;cases hq:B.toList[j]? with
   | none=>rw[hq]at L;cases L
   | some x =>rw[hq]at L;simp at L;exact C x (List.mem_of_getElem? hq) L
  rw[E];refine Good.aH (v:=if f then .tuple #[.int J 0,.bool false]else .int J 0) (w':=w) ?_ (aG.pure m (Fe rfl rfl));simp only[execOp,ho];rw[e1,e2];cases f <;> simp[Instr.lookup,run_underlying hm,Go.MapKept.run_getObj_map hb,D.check,z,hz,Result.andThen]
 ·obtain⟨p,hp,a1,a2⟩:=N j e C;have a3:p.1=i:=by rw[a1]at h3;simpa [aP]using h3
  have I:=mg (K:= .int q) (α:=Int) (k:=i) rfl Z hp a3;rw[I];refine Good.aH (v:=if f then .tuple #[e.val,.bool true]else e.val) (w':=w) ?_ (aG.pure m (Fe (by rw[a2];rfl) rfl));simp only[execOp,ho];rw[e1,e2];cases f <;> simp[Instr.lookup,run_underlying hm,Go.MapKept.run_getObj_map hb,D.check,z,Result.andThen]
theorem Bj(m:Mem Bw w0 ρ φ h w){o:Oper}{a:Act}{t Y Z:TypeId}{ti te tk:TI}(ht:aO P t ti)(hk:ti.k = .mp Y Z){f z:IntKind}(A:aO P Y tk)(B:tk.k = .int f)(C:aO P Z te)(hT:te.T=some (.int z))
  {xo L:Operand} {D:Bool} (ho:o.op = .lookup t xo L D) {β:Bool} {u:Qq} (hx:V (Fr (own φ h) Bw w) ρ (.p β (.mapi f z) u) (a.eval xo)) {M:Bool} {i:Int} (hi:V (Fr (own φ h) Bw w) ρ (.p M (.int f) i) (a.eval L)) :
  Good P o a w (aG Bw w0 ρ φ h w new (A8 z D (aT (α:=Int) (.int f) u i)) []):=by
 have e2:a.eval L=aP (.int f) i:=nS rfl rfl hi;simp only[V,ai]at hx;obtain⟨-,r,e1,N⟩:=hx;cases r with
 | none =>
  simp only at N;subst N;exact look_nil m ht hk A B C hT ho e1.symm e2
 | some b =>
  obtain⟨O,X⟩:=N;obtain⟨I,cl,hb,q⟩:=Jm O.2.2;unfold LA at q;simp only[Value.tuple.injEq]at q;have hl:(u.map fun p=>Value.tuple #[.int f p.1,.int z p.2])=I.toList.map fun e=>Value.tuple #[e.key,e.val]:=by have:=congrArg Array.toList q;simpa using this
  have E:∀j:Nat,(I.toList.map (·.key))[j]? = (u.map (fun p=>Value.int f p.1))[j]? ∧(I.toList.map (·.val))[j]? = (u.map (fun p=>Value.int z p.2))[j]? :=fun j=>by
   have:=congrArg (fun l=>l[j]?) hl;simp only[List.getElem?_map]at this ⊢;cases q1:u[j]? <;> cases q2:I.toList[j]? <;> rw[q1,q2]at this <;> simp at this ⊢
   exact⟨this.1.symm,this.2.symm⟩
  exact F4 m ht hk A B C hT ho e1.symm e2 hb (List.ext_getElem? fun j=>(E j).1) (List.ext_getElem? fun j=>(E j).2) X
/-! ### Rows of J -/
theorem xP{F:Bool→Addr→Value→Prop}{sz:Nat}:∀ {e:List ag} {vs:QY},(∀x∈e,(cellsOf x).all ag.cell=true∧(cellsOf x).length=sz)→jf F ρ e vs →
  vs.length=e.length∧(∀v∈vs,v.cells.size=sz)∧VL F ρ (e.flatMap cellsOf) (fun k u=>(vs.flatMap fun v=>v.cells.toList)[k]? = some u)
 | [],[],_,_=>⟨rfl,fun _ h=>by simp at h,by simp only[List.flatMap_nil,VL]⟩
 | x::e,v::vs,f,⟨j,q⟩=>by
  obtain⟨z,C⟩:=f x (by simp);obtain⟨A,D,E⟩:=xP (fun y B=>f y (by simp[B])) q;obtain⟨I,J,L⟩:=gv z j;refine⟨by simp[A],fun u hu=>?_,?_⟩
  ·grind
  ·grind (splits:=6) (ematch:=4) [VL.mk,Nat.lt_or_ge,cellsOf,VL.get]
 | [],_::_,_,h=>h.elim
 | _::_,[],_,h=>h.elim
theorem yB(m:Mem Bw w0 ρ φ h w)(hn:ρ new=none){o:Oper}{a:Act}{t e:TypeId}{ti z:TI}(ht:aO P t ti)(hk:ti.k = .sl e)(L:aO P e z)
  {parts:Array (Nat×Operand)} {len:Nat} (ho:o.op = .buildSlice t len parts) (Z:parts.toList.map (·.1)=List.range len) {f:List ag}
  (hx:jf (Fr (own φ h) Bw w) ρ f (parts.toList.map fun p=>a.eval p.2)) (hc:∀x∈f,(cellsOf x).all ag.cell=true∧(cellsOf x).length=z.size) (M:len*z.size≤16777216) :
  Good P o a w (aG Bw w0 ρ φ h w new (.sl new) [(new,some (.vrow len z.size (f.flatMap cellsOf)))]):=by
 obtain⟨g1,g2,g3⟩:=xP hc hx;have q:(parts.toList.map fun p=>a.eval p.2).length=len:=by have:=congrArg List.length Z;simpa using this
 have A:(parts.map fun p=>(p.1,a.eval p.2))=(((parts.toList.map fun p=>a.eval p.2).zipIdx 0).map fun p=>(p.2,p.1)).toArray:=by
  apply Array.ext';simp only[Array.toList_map];apply List.ext_getElem?;intro j;simp only[List.getElem?_map,List.getElem?_zipIdx,Option.map_map];have D:=congrArg (fun l=>l[j]?) Z;simp only[List.getElem?_map]at D;cases hq:parts.toList[j]? with
  | none=>simp[hq]
  | some p =>
   simp only[hq,Option.map_some]at D ⊢;have N:j<len:=by
    grind
   rw[List.getElem?_range N]at D;simp only[Option.some.injEq]at D;simp[D]
 have B:=pL (P:=P) (w:=w) ht hk L (vs:=parts.toList.map fun p=>a.eval p.2) g2 (by rw[q];exact M);rw[q,←A]at B;refine Good.aH (v:=_) (w':=_) (by simp only[execOp,ho,Sem.run_bind,B,Result.andThen_ok];rfl) ?_;have a1:∀ {vs:QY},(∀v∈vs,v.cells.size=z.size)→(vs.flatMap fun v=>v.cells.toList).length=vs.length*z.size:=fun {vs} E=>by
  induction vs with
  | nil=>simp
  | cons v vs O=>rw[List.flatMap_cons,List.length_append,O (fun u hu=>E u (by simp[hu])),Array.length_toList,E v (by simp),List.length_cons,Nat.succ_mul,Nat.add_comm]
 have C:∀ {f:List ag},(∀x∈f,(cellsOf x).all ag.cell=true∧(cellsOf x).length=z.size)→(f.flatMap cellsOf).length=f.length*z.size:=fun {f} E=>by
  induction f with
  | nil=>simp
  | cons v vs O=>rw[List.flatMap_cons,List.length_append,O (fun u hu=>E u (by simp[hu])),(E v (by simp)).2,List.length_cons,Nat.succ_mul,Nat.add_comm]
 have X:f.length=len:=by rw[←g1,q]
 refine cV m none new (.vrow len z.size (f.flatMap cellsOf)) (.slice (some ⟨w.heap.size,0,none⟩) len len) none (World.grownBy_alloc w _ none) (fun k e=>by cases e) (.inl hn) (fun _ k hk=>?_) (fun F' Y hF I=>?_) (by rw[bp];rfl) (fun _=>rfl) (fun F' Y hF I J=>?_)
 ·simp_all [dH]
 ·simp only[OR];refine⟨_,e,_,rfl,rfl,heap_alloc_new w _,?_,?_,VL.mono hF I (fun k u hk=>by simpa using hk) g3⟩
  ·grind
  ·rw[C hc,X]
 ·simp only[V];exact⟨J,_,_,_,rfl⟩
theorem Bi(m:Mem Bw w0 ρ φ h w){id n sz:Nat}{e:List ag}(hb:h id=some (.vrow n sz e)){u:Value}(j:ρ id=some u):
  ∃g t cells,u = .slice (some ⟨g,0,none⟩) n n∧w.heap[g]? = some (.cells cells t (0,0))∧cells.size=e.length∧e.length=n*sz∧VL (Fr (own φ h) Bw w) ρ e (fun k v=>cells[k]? = some v):=by
 obtain⟨C,f,g,t,cells,rfl,_,q,z,A,B⟩:=m.ob id _ hb;rw[j]at f;cases f;exact⟨g,t,cells,rfl,q,z,A,B⟩
theorem BM(m:Mem Bw w0 ρ φ h w){o:Oper}{a:Act}{t:TypeId}{ti:TI}(ht:aO P t ti){e:TypeId}(hk:ti.k = .sl e){xo:Operand}{id n sz:Nat}{u:List ag}(q:V (Fr (own φ h) Bw w) ρ (.sl id) (a.eval xo))
  (hb:h id=some (.vrow n sz u)) (z:o.op = .call { callee:= .builtin .len,args:= #[xo],argTypes:= #[t] }):Good P o a w (aG Bw w0 ρ φ h w new (.p false (.int .i64) (n:Int)) []):=by
 obtain⟨d,A,f⟩:=ht.hu;rw[hk]at f;simp only[UK]at f;subst f;simp only[V]at q;obtain⟨j,-⟩:=q;obtain⟨g,C,cells,B,-⟩:=Bi m hb j;refine Good.aH (v:= .int .i64 n) (w':=w) ?_ (aG.pure m (dM _ _ _));simp only[execOp,z,resolve,invoke,builtin,Sem.run_bind,Sem.run_pure,Result.andThen_ok,List.map_toArray,List.map_cons,List.map_nil,B];simp[Builtin.len_,run_underlying A,goInt]
theorem zh(m:Mem Bw w0 ρ φ h w){o:Oper}{a:Act}{t e:TypeId}{ti f:TI}(ht:aO P t ti)(hk:ti.k = .sl e)(j:aO P e f){xo io:Operand}{id n:Nat}{z:List ag}(u:V (Fr (own φ h) Bw w) ρ (.sl id) (a.eval xo))
  (hb:h id=some (.vrow n f.size z)) {β:Bool} {k:IntKind} {i:Int} (hi:V (Fr (own φ h) Bw w) ρ (.p β (.int k) i) (a.eval io)) (A:o.op = .indexAddr t xo io) (B:0≤i) (hn:i<n) :
  Good P o a w (aG Bw w0 ρ φ h w new (.adr id i.toNat f.size 0) []):=by
 have hu:=aX ht hk;have C:=bR hi;simp only[V]at u;obtain⟨q,-⟩:=u;obtain⟨g,E,cells,D,-⟩:=Bi m hb q;refine Good.aH (v:= .pointer (some ((⟨g,0,none⟩:Addr).add (i.toNat*f.size)))) (w':=w) ?_ (aG.pure m ?_)
 ·simp[execOp,A,Instr.indexAt,asIntOf,C,D,run_underlying hu,run_sizeOf j,B,hn]
 ·simp_all [V,cu]
theorem A2(m:Mem Bw w0 ρ φ h w){o:Oper}{a:Act}{t:TypeId}{ti:TI}(ht:aO P t ti){xo:Operand}{id i sz off:Nat}(A:V (Fr (own φ h) Bw w) ρ (.adr id i sz off) (a.eval xo))(B:o.op = .load t xo)
  {n f:Nat} {j:List ag} (hb:h id=some (.vrow n f j)) {y:ag} (C:fk ti j (i*sz+off)=some y):Good P o a w (aG Bw w0 ρ φ h w new y []):=by
 obtain⟨u,D,_⟩:=m.ob id _ hb;obtain⟨g,N,cells,rfl,E,O,X,I⟩:=Bi m hb D;simp only[V]at A;obtain⟨q,Y,J⟩:=A;have z:q=g:=by simp_all
 subst z;have e:VL (Fr (own φ h) Bw w) ρ j (fun k u=>w.cell? ((⟨q,0,none⟩:Addr).add k)=some u):=VL.mono (fun _ _ _ h=>h) (fun _ _ h=>h) (fun k u hk=>by
  rw[cu,Nat.zero_add];simp only[World.cell?,E];exact hk) I
 obtain⟨v,L,M⟩:=gP (P:=P) ht e C;refine Good.aH (v:=v) (w':=w) ?_ (aG.pure m M);have:a.eval xo = .pointer (some ((⟨q,0,none⟩:Addr).add (i*sz+off))):=by rw[J,cu,Nat.zero_add]
 simp[execOp,B,Instr.loadAt,this,Instr.sureAddr,L]
theorem Dg{w:World}{g:Nat}{e:QU}{j:TypeId}{mk:Nat×Nat}(q:w.heap[g]? = some (.cells e j mk))(f:mk=(0,0)∨mk=(e.size,e.size+1)):
  (w.freeze ⟨g,e.size,none⟩ 1).heap[g]? = some (.cells e j (e.size,e.size+1)):=by
 unfold World.freeze;rw[if_neg (by decide)];simp only[Array.getElem?_modify,q,if_true,Option.map_some];rcases f with rfl | rfl
 ·simp
 ·simp
theorem sD(w:World)(g k:Nat):w.grownBy (w.freeze ⟨g,k,none⟩ 1) (some g):=by
 refine⟨rfl,rfl,rfl,?_,fun j q f=>?_⟩
 ·unfold World.freeze;rw[if_neg (by decide)];simp
 ·unfold World.freeze;rw[if_neg (by decide)];have:g≠j:=fun e=>f (by rw[e])
  simp[Array.getElem?_modify,this]
theorem zg(m:Mem Bw w0 ρ φ h w){o:Oper}{a:Act}{t e:TypeId}{ti Z:TI}(ht:aO P t ti)(hk:ti.k = .sl e)(J:aO P e Z)(L:Z.k = .int .u8){xo:Operand}{id:Nat}(hx:V (Fr (own φ h) Bw w) ρ (.sl id) (a.eval xo))
  (ho:o.op = .convert t t xo) {q:TypeId} {j:QK} (hi:h id=some (.arr q (.int .u8) j)) (h0:0<j.length):Good P o a w (aG Bw w0 ρ φ h w new (.sl id) [(id,some (.bytes q j)),(id,some (.bytes q j))]):=by
 have hu:=aX ht hk;obtain⟨d2,M,z⟩:=J.hu;rw[L]at z;simp only[UK]at z;subst z;obtain⟨N,f1⟩:=m.Gl hi;obtain⟨u,q1,q2⟩:=N.ob id _ (av h id (some (.bytes q j)));simp only[V]at hx;obtain⟨A,-⟩:=hx;rw[A]at q1;cases q1;rcases q2 with⟨_,hn⟩ | ⟨g,cap,f,mk,O,B,r1,r2,r3,r5,r6⟩
 ·subst hn;simp at h0
 have X:w.shape? g=some (q,f.size):=by unfold World.shape?;rw[r1]
 have C:(convert t t (.slice (some ⟨g,0,none⟩) j.length cap)).run P w = .ok (.slice (some ⟨g,0,none⟩) j.length cap) (w.freeze ⟨g,f.size,none⟩ 1):=by simp[convert,run_underlying hu,run_underlying M,markStringish,X]
 refine Good.aH (v:=a.eval xo) (w':=w.freeze ⟨g,f.size,none⟩ 1) (by simp only[execOp,ho,O,Sem.run_bind,C,Result.andThen_ok];rfl) ?_;refine aG.after (u1:=[(id,some (.bytes q j))]) (u2:=[(id,some (.bytes q j))]) rfl f1 ?_;refine eG N (some id) id (.bytes q j) (a.eval xo) (φ id) (some g) (sD w g _) (fun k e=>⟨id,_,rfl,av _ _ _,rfl,by cases e;exact B⟩) (.inr ⟨rfl,A⟩)
  (fun _ k hk=>Nat.lt_of_lt_of_le (N.lt id _ k (av _ _ _) rfl hk) (sD w g _).size) (fun _ k hk=> .inr ⟨id,_,rfl,av _ _ _,rfl,hk⟩) (fun F' Y hF D=>?_) (by rw[bf];rfl) (fun e=>by rw[A]at e;cases e) (fun F' Y hF D E=>?_)
 ·refine .inr ⟨g,cap,f,(f.size,f.size+1),O,B,Dg r1 r2,.inr rfl,r3,r5,r6⟩
 ·simp only[V];exact⟨E,_,_,_,O⟩
/-! ### Bytes of a string I a row of bytes -/
theorem rX{t u ty e:TypeId}{i:TypeInfo}(ht:P.underlying t=some (.slice e))(hu:P.underlying u=some .string)(hi:P.info? e=some i)(hz:i.zero=some (.int .u8 0))(f:i.size=1)(A:i.bytes=1)
  {v:Value} {n:Nat} {E:QY} (q:w.ownsRow 0 e 1 v n E) (s:ByteArray) (I:n+s.size≤maxLen) (z:n+s.size≤140737488355328) :
  ∃J w',(Builtin.append_ #[t,u] ty #[v,.string s]).run P w = .ok J w'∧w'.ownsRow 0 e 1 J (n+s.size) (E++Lib.strCells s)∧w.grownBy w' v.ownBlock ∧
   ∀k,J.ownBlock=some k→w.heap.size≤k∨v.ownBlock=some k:=by
 obtain⟨J,w',B,Y,Z,h4⟩:=Lib.run_append_own_string (P:=P) w 0 t u ty e i ht hu hi hz f A v n E q s I z (Nat.zero_le _);refine⟨J,w',B,Y,Z,fun k hk=>?_⟩;have M:n+s.size≤9223372036854775807:=by simp only[maxLen]at I;omega
 rcases q.2 with⟨rfl,rfl⟩ | ⟨g,cap,L,rfl,_,hg,a1,a2,N,O⟩
 ·by_cases hm:s.size=0
  ·rw[h4.2 ⟨rfl,hm⟩]at hk;cases hk
  ·have:=run_append_nil_string (P:=P) w t u ty e i (.int .u8 0) ht hu hi hz s (by omega) (by omega) (by rw[A];omega);rw[this]at B;cases B;simp only[Value.ownBlock,Option.some.injEq]at hk;exact .inl (by omega)
 ·have X:L.size=cap:=by simpa using N
  by_cases C:n+s.size≤cap
  ·have:=Lib.run_append_room_string (P:=P) w t u ty e i ht hu hi f g n cap L hg s C (by omega);rw[this]at B;cases B;exact .inr hk
  ·have D:∀j u,E[j]? = some u→w.cell? ((⟨g,0,none⟩:Addr).add j)=some u:=q.cells (g:=g) rfl;have V:E.length=n:=by simpa using q.1
   have:=Lib.run_append_grow_string (P:=P) w t u ty e i (.int .u8 0) ht hu hi hz ⟨g,0,none⟩ n cap E (by rw[f];simpa using V) D s (by omega) (by omega) (by rw[A];exact growslice_fits (by omega) (by omega));rw[this]at B;cases B;simp only[Value.ownBlock,Option.some.injEq]at hk;exact .inl (by omega)
theorem pS(m:Mem Bw w0 ρ φ h w)(hn:ρ new=none){o:Oper}{a:Act}{t u e:TypeId}{ti tu te:TI}(ht:aO P t ti)(hk:ti.k = .sl e)(a2:aO P u tu)(a3:tu.k = .str)(E:aO P e te)(hT:te.T=some (.int .u8))(a4:te.bytes=1)
  {xo yo:Operand} {x:ag} (M:V (Fr (own φ h) Bw w) ρ x (a.eval xo)) {β:Bool} {s:QX} (hy:V (Fr (own φ h) Bw w) ρ (.p β .str s) (a.eval yo)) (ho:o.op = .call { callee:= .builtin .append,args:= #[xo,yo],argTypes:= #[t,u] })
  {f:QK} {N:QJ} {uu:iu}
  (O:(x = .nils∧f=[]∧N=none∧uu=[(new,some (.arr e (.int .u8) (cf s)))])∨(∃id,x = .sl id∧h id=some (.arr e (.int .u8) f)∧N=some id∧uu=[(id,none),(new,some (.arr e (.int .u8) (f++cf s)))]))
  (hb:f.length+s.length≤140737488355328):Good P o a w (aG Bw w0 ρ φ h w new (.sl new) uu):=by
 obtain⟨i,z,hi,hz,I,A,a5,a6,a7⟩:=E.hi;obtain⟨a8,b9,be⟩:=E.hT _ hT;have hu:=aX ht hk;have a9:te.size=1:=a8.symm;obtain⟨d,ac,J⟩:=a2.hu;rw[a3]at J;simp only[UK]at J;subst J;have ad:z = .int .u8 0:=by
  have ax:(zeroValue e).run P w = .ok z w:=by simp[zeroValue,typeInfo,hi,hz]
  have b1:MV (Fr (own φ h) Bw w false) (.int .u8) (Ty.zero (.int .u8)) z:=vZ E hT ax a5 a6 a7;have:=Gy (ρ:=ρ) b1;simp only[enc,Ty.scalar,if_true,V,ai]at this;exact this.2.symm
 subst ad;have b2:a.eval yo = .string ⟨s.toArray⟩:=pQ hy;have j:(⟨s.toArray⟩:ByteArray).size=s.length:=rfl;have B:Lib.strCells ⟨s.toArray⟩=(cf s).map (Value.int .u8):=by simp[Lib.strCells,cf]
 obtain⟨cells,v,hv,C,b3,b4⟩:∃cells v,a.eval xo=v∧w.ownsRow 0 e 1 v f.length cells ∧
   (∀i (h':i<f.length),cells[i]? = some (.int .u8 f[i])) ∧
   ∀k,v.ownBlock=some k→∃i o,N=some i∧h i=some o∧o.live=true∧φ i k:=by
  rcases O with⟨rfl,rfl,rfl,_⟩ | ⟨id,rfl,X,rfl,_⟩
  ·simp only[V]at M;exact⟨[],_,M,World.ownsRow_nil w 0 e _,fun i hi=>absurd hi (by simp),fun k hk=>by cases hk⟩
  ·simp only[V]at M;obtain⟨u,q1,b5,_,cells,r1,r2⟩:=m.ob id _ X;rw[M.1]at q1;cases q1;obtain⟨_,aa,nn,cc,he⟩:=M;refine⟨cells,_,rfl,r1,fun i hi=>?_,fun k L=>⟨id,_,rfl,X,rfl,b5 _ (by rw[da he];exact L)⟩⟩;have:=r2 i hi;simpa [ai,Ty.size]using this
 have Y:apply uu h=bu (fun i=>if N=some i then none else h i) new (some (.arr e (.int .u8) (f++cf s))):=by
  rcases O with⟨_,rfl,rfl,rfl⟩ | ⟨id,_,_,rfl,rfl⟩
  ·rw[bp];rfl
  ·rw[su];rfl
 obtain⟨v',w',hr,h2,h3,h4⟩:=rX (P:=P) (ty:=o.type) hu ac hi hz (by rw[I,a9]) (by rw[A,a4]) C ⟨s.toArray⟩ (by rw[j];unfold maxLen;omega) (by rw[j];exact hb);have b6:∃aa nn cc,v' = .slice aa nn cc:=by rcases h2.2 with⟨e,_⟩ | ⟨g,cap,bi,e,_⟩ <;> exact⟨_,_,_,e⟩
 refine Good.aH (v:=v') (w':=w') ?_ ?_
 ·simp only[execOp,ho,resolve,invoke,builtin,Sem.run_bind,Sem.run_pure,Result.andThen_ok,List.map_toArray,List.map_cons,List.map_nil,hv,b2,hr]
 ·obtain⟨aa,nn,cc,D⟩:=b6;rw[j,B]at h2;have Z:(f++cf s).length=f.length+s.length:=by simp[cf]
  have bs:cells.length=f.length:=by simpa using C.1
  refine cV m N new (.arr e (.int .u8) (f++cf s)) v' v.ownBlock h3 b4 (.inl hn) (fun _ k L=>h4 k (by rw[←da D];exact L)) (fun F' b7 hF b8=>?_) Y (fun _=>rfl) (fun F' b7 hF b8 a1=>?_)
  ·refine⟨fun _ h=>h,by decide,cells++(cf s).map (Value.int .u8),by rw[←Z]at h2;exact h2,fun i hi=>?_⟩;simp only[ai,Ty.size,Nat.mul_one,Nat.add_zero];rcases Nat.lt_or_ge i f.length with q | q
   ·grind
   ·grind
  ·simp only[V];exact⟨a1,_,_,_,D⟩
end
end Go.Tv
namespace Go.Tv
open Go Go.RowKit
open Go.MapKept (run_setObj_map heap_set)
section
variable{P:Program}{tb:bQ}{Bw:Nat→Prop}{w0:cE P}{ρ:Nat→QW}{φ:Nat→Nat→Prop}{h:Nat→Qz}{w:World}{new:Nat}
theorem EI(m:Mem Bw w0 ρ φ h w){o:Oper}{a:Act}{t E I:TypeId}{ti:TI}(ht:aO P t ti)(hk:ti.k = .mp E I){xo:Operand}(J:o.op = .call { callee:= .builtin .clear,args:= #[xo],argTypes:= #[t] })
  {id:Nat} {K A:Ty} {L:List (K.den×A.den)} (hi:h id=some (.mpo K A L)) (M:V (Fr (own φ h) Bw w) ρ (.mp id) (a.eval xo)) :
  Good P o a w (aG Bw w0 ρ φ h w new (.tup []) [(id,some (.mpo K A []))]):=by
 obtain⟨r,es,clock,N,f,q,hb,⟨O,hB⟩,u,X,z⟩:=uw m hi M;obtain⟨dm,Y,j⟩:=ht.hu;rw[hk]at j;simp only[UK]at j;subst j;refine Good.aH (v:= .tuple #[]) (w':= { w with heap:=w.heap.setIfInBounds r (.map #[] clock) }) ?_ ?_
 ·simp only[execOp,J,resolve,invoke,builtin,Sem.run_bind,Sem.run_pure,Result.andThen_ok,List.map_toArray,List.map_cons,List.map_nil,N];simp[Builtin.clear_,run_underlying Y,Go.MapKept.run_getObj_map hb,run_setObj_map _ hb,Result.andThen]
 ·refine eG m (some id) id (.mpo K A []) (.map (some r)) (φ id) (some r) (gY w r _) (fun k e=>⟨id,_,rfl,hi,rfl,by cases e;exact q⟩) (.inr ⟨rfl,f⟩)
   (fun _ k hk=>Nat.lt_of_lt_of_le (m.lt id _ k hi rfl hk) (gY w r _).size) (fun _ k hk=> .inr ⟨id,_,rfl,hi,rfl,hk⟩) (fun F' B Z C=>?_) (by rw[bf];rfl) (fun e=>by rw[f]at e;cases e) (fun F' B Z f D=>?_)
  ·exact⟨r,#[],clock,rfl,q,(heap_set hb).1,⟨O,List.nodup_nil,fun e he=>by cases he⟩,rfl,List.nodup_nil,fun i hi=>absurd hi (by simp)⟩
  ·simp only[V,VL];exact⟨#[],rfl,rfl,trivial⟩
theorem C1(m:Mem Bw w0 ρ φ h w){o:Oper}{a:Act}{t e:TypeId}{ti:TI}(ht:aO P t ti)(hk:ti.k = .sl e){xo:Operand}(j:o.op = .call { callee:= .builtin .cap,args:= #[xo],argTypes:= #[t] })
  (f:V (Fr (own φ h) Bw w) ρ .nils (a.eval xo)):Good P o a w (aG Bw w0 ρ φ h w new (.p false (.int .i64) (0:Int)) []):=by
 have hu:=aX ht hk;simp only[V]at f;refine Good.aH (v:= .int .i64 0) (w':=w) ?_ (aG.pure m (dM _ _ _));simp only[execOp,j,resolve,invoke,builtin,Sem.run_bind,Sem.run_pure,Result.andThen_ok,List.map_toArray,List.map_cons,List.map_nil,f];simp[Builtin.cap_,run_underlying hu,goInt]
theorem yh{G:Addr→Value→Prop}{A:Ty}{z:QU}(hz:z.size=A.size)(h:ai G A A.zero (fun k u=>z.toList[k]? = some u)){n:Nat}:∀j (q:j<(List.replicate n A.zero).length),ai G A (List.replicate n A.zero)[j] (fun k v=>(Builtin.zeroCells z n).toList[j*A.size+k]? = some v):=fun j q=>by
 simp only[List.length_replicate]at q;simp only[List.getElem_replicate];refine ai.gV (fun k v hk f=>?_) h;have B:j*A.size+A.size≤n*A.size:=by rw[←Nat.succ_mul];exact Nat.mul_le_mul_right _ q
 rw[Array.getElem?_toList];have C:(Builtin.zeroCells z n)[j*A.size+k]? = some (z[(j*A.size+k) % z.size]!):=by
  have:j*A.size+k<n*z.size:=by rw[hz];omega
  simp[Builtin.zeroCells,this]
 rw[C,hz,Nat.mul_comm,Nat.mul_add_mod,Nat.mod_eq_of_lt hk];have e:k<z.size:=by omega
 simp only[Array.getElem?_toList]at f;rw[Array.getElem?_eq_getElem e]at f;simp only[Option.some.injEq]at f;simp[e,f]
theorem uf{t u ty e:TypeId}{i:TypeInfo}{z:Value}{k0 kl:IntKind}(ht:P.underlying t=some (.slice e))(hu:P.underlying u=some (.int k0))(hi:P.info? e=some i)(hz:i.zero=some z)
  (V:z.cells.size=i.size) (X:0<i.size) (a6:∀c∈z.cells.toList,c.oneCell'=true) {v:Value} {n:Nat} {I:QY} (f:w.ownsRow 0 e i.size v n I) (k:Nat)
  (Y:n+k≤maxLen) (A:(n+k)*i.bytes≤140737488355328) :
  ∃v' w',(Builtin.append_ #[t,u] ty #[v,.int kl k]).run P w = .ok v' w'∧w'.ownsRow 0 e i.size v' (n+k) (I++(Builtin.zeroCells z.cells k).toList)∧w.grownBy w' v.ownBlock ∧
   ∀b,v'.ownBlock=some b→w.heap.size≤b∨v.ownBlock=some b:=by
 have a5:n+k≤9223372036854775807:=by simp only[maxLen]at Y;omega
 have hw:IntKind.i64.wrap (k:Int)=k:=by rw[IntKind.wrap_i64];omega
 have Z:¬((k:Int)<0):=by omega
 have ad:k*i.bytes≤140737488355328:=Nat.le_trans (Nat.mul_le_mul_right _ (by omega)) A;have a1:¬(281474976710656<(k:Int)*(i.bytes:Int)):=by rw[←Int.natCast_mul];omega
 have L:(Builtin.zeroCells z.cells k).toList.length=k*i.size:=by rw[Array.length_toList,size_zeroCells,V]
 by_cases hk:k=0
 ·subst hk;have a2:IntKind.i64.wrap 0=0:=rfl;have e0:(Builtin.zeroCells z.cells 0).toList=[]:=List.eq_nil_of_length_eq_zero (by rw[L];omega);refine⟨v,w,?_,by rw[e0,List.append_nil];exact f,⟨rfl,rfl,rfl,Nat.le_refl _,fun _ _ _=>rfl⟩,fun b hb=> .inr hb⟩;rcases f.2 with⟨rfl,rfl⟩ | ⟨g,cap,C,rfl,_,hg,a3,_⟩
  ·simp[Builtin.append_,run_underlying ht,run_underlying hu,sizeOf,typeInfo,hi,asInt,asIntOf,a2]
  ·simp[Builtin.append_,run_underlying ht,run_underlying hu,sizeOf,typeInfo,hi,asInt,asIntOf,a2,a3,storeCells]
 have a7:¬(k*i.size=0):=Nat.mul_ne_zero hk (by omega);have B:(I++(Builtin.zeroCells z.cells k).toList).length=(n+k)*i.size:=by rw[List.length_append,f.1,L,Nat.add_mul]
 have grown:∀(D:Nat) (row:QJ) (w':World),w'=w.drew.alloc (.cells (I.toArray++Builtin.zeroCells z.cells k++Builtin.zeroCells z.cells (grownCap w (n+k) D e - (n+k))) e) →
   w'.ownsRow 0 e i.size (.slice (some ⟨w.heap.size,0,none⟩) (n+k) (grownCap w (n+k) D e)) (n+k) (I++(Builtin.zeroCells z.cells k).toList)∧w.grownBy w' row:=by
  rintro D row w' rfl;have a8:=grownCap_ge w (n+k) D e;have M:grownCap w (n+k) D e≤maxLen:=grownCap_le_maxLen w (n+k) D e Y;refine⟨⟨B,.inr ⟨w.heap.size,_,_,rfl,Nat.zero_le _,heap_alloc_new w.drew _,a8,M,?_,?_⟩⟩,⟨rfl,rfl,rfl,by simp,fun k hk _=>heap_alloc_old w.drew _ hk⟩⟩
  ·simp only[Array.size_append,List.size_toArray,size_zeroCells,V,f.1,←Nat.add_mul];congr 1;omega
  ·simp only[Array.toList_append];rw[←B];exact List.take_left
 rcases f.2 with⟨rfl,rfl⟩ | ⟨g,cap,C,rfl,_,hg,a3,M,a9,N⟩
 ·have hx:I=[]:=List.eq_nil_of_length_eq_zero (by simpa using f.1);subst hx;have hr:=Lib.run_append_nil_zeros (P:=P) w t u ty e i z kl k0 ht hu hi hz k (by omega) X (by omega) (by omega);have E:=grown 0 (Value.ownBlock (.slice none 0 0)) _ rfl;simp only[Nat.zero_add,List.nil_append,Array.empty_append]at E ⊢;exact⟨_,_,hr,E.1,E.2,fun b hb=> .inl (by simp only[Value.ownBlock,Option.some.injEq]at hb;omega)⟩
 ·by_cases q:n+k≤cap
  ·have J:n*i.size+(Builtin.zeroCells z.cells k).toList.length≤C.size:=by rw[L,a9,←Nat.add_mul];exact Nat.mul_le_mul_right _ q
   have a4:=run_storeCells_at P g (n*i.size) e (Builtin.zeroCells z.cells k).toList 0 C w hg (by simpa using J) (fun c hc=>by
    simp only[Builtin.zeroCells,Array.toList_map,List.mem_map]at hc;obtain⟨j,_,rfl⟩:=hc;have aa:j % z.cells.size<z.cells.size:=Nat.mod_lt _ (by omega);rw[getElem!_pos z.cells (j % z.cells.size) aa];exact a6 _ (by simp))
   simp only[Nat.add_zero]at a4;refine⟨.slice (some ⟨g,0,none⟩) (n+k) cap,_,?_,⟨B,.inr ⟨g,cap,_,rfl,Nat.zero_le _,setRow_heap w g C (C.toList.take (n*i.size)++(Builtin.zeroCells z.cells k).toList++C.toList.drop (n*i.size+(Builtin.zeroCells z.cells k).toList.length)).toArray e _ hg,q,M,?_,?_⟩⟩,⟨rfl,rfl,rfl,by simp,fun k _ hk=>setRow_other w g k _ (fun e=>hk (by simp[Value.ownBlock,e]))⟩,fun b hb=> .inr hb⟩
   ·simp[Builtin.append_,run_underlying ht,run_underlying hu,sizeOf,typeInfo,zeroValue,hi,hz,asInt,asIntOf,hw,Z,a1,a7,q,Addr.add_lit,a4]
   ·simp only[List.size_toArray,List.length_append,List.length_take,List.length_drop,Array.length_toList]at J ⊢;omega
   ·rw[N,←B];exact List.take_left
  ·have O:∀j u,I[j]? = some u→w.cell? ((⟨g,0,none⟩:Addr).add j)=some u:=f.cells (g:=g) rfl;have ac:=run_firstCells_some (P:=P) w.drew i.size n ⟨g,0,none⟩ n cap I f.1 (by simpa using O);have hr:=Lib.run_append_grow_zeros (P:=P) w t u ty e i z kl k0 ht hu hi hz (some ⟨g,0,none⟩) n cap I ac k (by omega) X (by omega) (by omega) (by omega) (growslice_fits (by omega) A);have E:=grown cap (Value.ownBlock (.slice (some ⟨g,0,none⟩) n cap)) _ rfl;exact⟨_,_,hr,E.1,E.2,fun b hb=> .inl (by simp only[Value.ownBlock,Option.some.injEq]at hb;omega)⟩
theorem zX(m:Mem Bw w0 ρ φ h w)(hn:ρ new=none){o:Oper}{a:Act}{t e u:TypeId}{ti te tu:TI}(ht:aO P t ti)(hk:ti.k = .sl e)(O:aO P e te){A:Ty}(hT:te.T=some A)(h0:0<A.size)
  (a5:aO P u tu) {k0:IntKind} (a6:tu.k = .int k0) {xo yo:Operand} (ho:o.op = .call { callee:= .builtin .append,args:= #[xo,yo],argTypes:= #[t,u] })
  {x:ag} (X:V (Fr (own φ h) Bw w) ρ x (a.eval xo)) {β:Bool} {kl:IntKind} {l:Int} (hl:V (Fr (own φ h) Bw w) ρ (.p β (.int kl) l) (a.eval yo)) {f:List A.den} {Y:QJ} {us:iu}
  (I:(x = .nils∧f=[]∧Y=none∧us=[(new,some (.arr e A (f++List.replicate l.toNat A.zero)))])∨(∃id,x = .sl id∧h id=some (.arr e A f)∧Y=some id∧us=[(id,none),(new,some (.arr e A (f++List.replicate l.toNat A.zero)))]))
  (h1:0≤l) (hb:(f.length+l.toNat)*te.bytes≤140737488355328) (a7:f.length+l.toNat≤9223372036854775807) :
  Good P o a w (aG Bw w0 ρ φ h w new (.sl new) us):=by
 obtain⟨i,z,hi,hz,J,B,a8,a9,ac⟩:=O.hi;obtain⟨Z,b6,ad⟩:=O.hT A hT;have hu:=aX ht hk;have j:i.size=A.size:=by rw[J,Z]
 obtain⟨du,ax,q⟩:=a5.hu;rw[a6]at q;simp only[UK]at q;subst q;obtain⟨n,rfl⟩:∃n:Nat,l=(n:Int):=⟨l.toNat,by omega⟩;rw[Int.toNat_natCast]at hb a7 I;obtain⟨cells,v,hv,C,L,b1⟩:∃cells v,a.eval xo=v∧w.ownsRow 0 e A.size v f.length cells ∧
   (∀i (h':i<f.length),ai (Fr (own φ h) Bw w false) A f[i] (fun k v=>cells[i*A.size+k]? = some v)) ∧
   ∀k,v.ownBlock=some k→∃i o,Y=some i∧h i=some o∧o.live=true∧φ i k:=by
  rcases I with⟨rfl,rfl,rfl,_⟩ | ⟨id,rfl,a1,rfl,_⟩
  ·simp only[V]at X;exact⟨[],_,X,World.ownsRow_nil w 0 e _,fun i hi=>absurd hi (by simp),fun k hk=>by cases hk⟩
  ·simp only[V]at X;obtain⟨u,q1,b2,_,cells,r1,r2⟩:=m.ob id _ a1;rw[X.1]at q1;cases q1;obtain⟨_,aa,nn,cc,he⟩:=X;exact⟨cells,_,rfl,r1,r2,fun k M=>⟨id,_,rfl,a1,rfl,b2 _ (by rw[da he];exact M)⟩⟩
 have a2:apply us h=bu (fun i=>if Y=some i then none else h i) new (some (.arr e A (f++List.replicate n A.zero))):=by
  rcases I with⟨_,rfl,rfl,rfl⟩ | ⟨id,_,_,rfl,rfl⟩
  ·rw[bp];rfl
  ·rw[su];rfl
 have N:w.ownsRow 0 e i.size v f.length cells:=by rw[j];exact C
 have D:z.cells.size=A.size:=by rw[a9,←Z]
 obtain⟨v',w',hr,h2,h3,h4⟩:=uf (P:=P) (t:=t) (u:=u) (ty:=o.type) (kl:=kl) (k0:=k0) hu ax hi hz (by rw[D,j]) (by omega) ac N n (by unfold maxLen;omega) (by rw[B];exact hb);have b3:∃aa nn cc,v' = .slice aa nn cc:=by rcases h2.2 with⟨e,_⟩ | ⟨g,cap,b7,e,_⟩ <;> exact⟨_,_,_,e⟩
 have hy:=bR hl;refine Good.aH (v:=v') (w':=w') ?_ ?_
 ·simp only[execOp,ho,resolve,invoke,builtin,Sem.run_bind,Sem.run_pure,Result.andThen_ok,List.map_toArray,List.map_cons,List.map_nil,hv,hy,hr]
 ·obtain⟨aa,nn,cc,E⟩:=b3;refine cV m Y new (.arr e A (f++List.replicate n A.zero)) v' v.ownBlock h3 b1 (.inl hn) (fun _ k M=>h4 k (by rw[←da E];exact M)) (fun F' a3 hF b4=>?_) a2 (fun _=>rfl) (fun F' a3 hF b4 a4=>?_)
  ·have b5:ai (F' false) A A.zero (fun k u=>z.cells.toList[k]? = some u):=by have:=gU (F:=F') (ρ:=a3) z.cells.toList;rw[a8]at this;exact(cZ ad this).1
   refine⟨fun _ h=>h,h0,cells++(Builtin.zeroCells z.cells n).toList,by rw[List.length_append,List.length_replicate,←j];exact h2,fun i hi=>p9 C.1 (fun i hi=>ai.mono (hF _) (fun _ _ h=>h) (L i hi)) (yh D b5) i hi⟩
  ·simp only[V];exact⟨a4,_,_,_,E⟩
theorem EZ(m:Mem Bw w0 ρ φ h w){o:Oper}{a:Act}{t:TypeId}{ti D:TI}(ht:aO P t ti){xo:Operand}{Y:List ag}(Z:V (Fr (own φ h) Bw w) ρ (.agg Y) (a.eval xo)){f:Nat}(ho:o.op = .field t xo f)
  {fs:List (Nat×TypeId)} (hk:ti.k = .st fs) {off:Nat} {E:TypeId} (A:fs[f]? = some (off,E)) (B:aO P E D) {y:ag} (z:fk D Y off=some y):Good P o a w (aG Bw w0 ρ φ h w new y []):=by
 obtain⟨d,h1,h2⟩:=ht.hu;rw[hk]at h2;obtain⟨I,rfl,h3,h4⟩:=h2;subst h3;rw[List.getElem?_map]at A;obtain⟨e,J,L⟩:∃e,I.toList[f]? = some e∧(e.offset,e.type)=(off,E):=by
  cases hq:I.toList[f]? with
  | none=>rw[hq]at A;cases A
  | some e=>rw[hq]at A;exact⟨e,rfl,by simpa using A⟩
 cases L;have M:I[f]? = some e:=by simpa using J
 simp only[V]at Z;obtain⟨vs,hv,a1,C⟩:=Z;obtain⟨v,hr,N⟩:∃v,(part e.type vs e.offset).run P w = .ok v w∧V (Fr (own φ h) Bw w) ρ y v:=by
  unfold fk at z;unfold part;rw[Sem.run_bind,lv B];simp only[Result.andThen_ok];split at z
  ·rename_i j;split at z
   ·rename_i a2;cases z;refine⟨.agg (vs.extract e.offset (e.offset+D.size)),?_,?_⟩
    ·rw[if_pos j,Sem.run_bind,run_sizeOf B];rfl
    ·simp only[V];refine⟨_,rfl,by simp only[Array.size_extract,List.length_take,List.length_drop];omega,VL.mono (fun _ _ _ h=>h) (fun _ _ h=>h) (fun k u hk=>hk) (VL.mk fun k x q=>?_)⟩;rw[List.getElem?_take]at q;split at q
     ·rename_i a3;rw[List.getElem?_drop]at q;obtain⟨u,O,X⟩:=VL.get C q;exact⟨u,by rw[Array.getElem?_extract,if_pos (by omega)];exact O,X⟩
     ·cases q
   ·cases z
  ·rename_i j;obtain⟨u,O,X⟩:=VL.get C z;refine⟨u,?_,X⟩;rw[if_neg (by simpa using j),O];rfl
 refine Good.aH (v:=v) (w':=w) ?_ (aG.pure m N);simp[execOp,ho,Instr.field,run_underlying h1,M,hv,asAgg,hr]
end
end Go.Tv
