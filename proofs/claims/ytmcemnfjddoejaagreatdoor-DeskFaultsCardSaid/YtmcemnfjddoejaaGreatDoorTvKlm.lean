import Derived.Test.YtmcemnfjddoejaaGreatDoorTvKjm
import Derived.Lib.AppendStr
import Derived.Lib.AppendZerosOnto
namespace Go.Tv
open Go Go.RowKit
section
variable{P:Program}{Bw:Nat→Prop}{w0:cu P}{ρ:Nat→QW}{φ:Nat→Nat→Prop}{h:Nat→Qz}{w:World}{new:Nat}
theorem H8{b:Nat}{v:Value}(c:w.pb ⟨b,0,some 0⟩=some v):∃f j,w.heap[b]? = some (.map f j)∧v = .tuple (f.map fun e=>Value.tuple #[e.key,e.val]):=by
 unfold World.pb at c;simp only at c;split at c
 ·rename_i f j hb;cases c;exact⟨f,j,hb,rfl⟩
 ·cases c
def As(e:IntKind)(c:Bool)(r:Option Int):ag :=
 if c then .tup [.p false (.int e) (r.getD 0),.p false .bool r.isSome]else .p false (.int e) (r.getD 0)
theorem Fk{F:Bool→Addr→Value→Prop}{e:IntKind}{c:Bool}{r:Option Int}{v:Value}{b:Bool}(f:v = .int e (r.getD 0))(hb:b=r.isSome):V F ρ (As e c r) (if c then .tuple #[v,.bool b]else v):=by
 subst f hb;cases c
 ·simp[As,V,ai,Ty.scalar]
 ·simp only[As,if_true,V,VL];exact⟨_,rfl,rfl,⟨_,rfl,by simp[ai,Ty.scalar]⟩,⟨_,rfl,by simp[ai,Ty.scalar]⟩,trivial⟩
theorem HJ{t f j:TypeId}{ti D E:TI}(ht:aP P t ti)(hk:ti.k = .mp f j){I p:IntKind}(q:aP P f E)(u:E.k = .int I)(e:aP P j D)(hT:D.T=some (.int p)):
  P.underlying t=some (.map f j)∧(zeroValue j).run P w = .ok (.int p 0) w∧fC P f (.int I):=by
 obtain⟨L,J,c⟩:=ht.hu;rw[hk]at c;simp only[UK]at c;subst c;obtain⟨z,hz,x,A,B⟩:=dy e w;have C:MV (fun _ _=>True) (.int p) (Ty.zero (.int p)) z:=wA e hT hz x A B;have:=Hy (F:=fun _ _ _=>True) (ρ:=js) C;simp only[enc,Ty.scalar,if_true,V,ai]at this;rw[←this.2]at hz;exact⟨J,hz,fC.Af q (by rw[u];rfl)⟩
theorem look_nil(m:Mem Bw w0 ρ φ h w){o:Oper}{a:Act}{t x C:TypeId}{ti D E:TI}(ht:aP P t ti)(hk:ti.k = .mp x C){q u:IntKind}(z:aP P x E)(A:E.k = .int q)(B:aP P C D)(hT:D.T=some (.int u))
  {I J:Operand} {c:Bool} (L:o.op = .lookup t I J c) (M:a.eval I = .map none) {i:Int} (N:a.eval J=aO (.int q) i) :
  Good P o a w (aG Bw w0 ρ φ h w new (As u c (aU (α:=Int) (.int q) [] i)) []):=by
 obtain⟨O,hz,p⟩:=HJ (w:=w) ht hk z A B hT;have V:=p.find i [] [] w rfl;have f:(Instr.findKey x (aO (.int q) i) []).run P w = .ok none w:=by
  rcases V with⟨X,_⟩ | ⟨j,e,_,Y,_⟩
  ·exact X
  ·simp at Y
 refine Good.aH (v:=if c then .tuple #[.int u 0,.bool false]else .int u 0) (w':=w) ?_ (aG.pure m (Fk rfl rfl));simp only[execOp,L];rw[M,N];cases c <;> simp[Instr.lookup,run_underlying O,p.check,f,hz,Result.andThen]
theorem FY(m:Mem Bw w0 ρ φ h w){o:Oper}{a:Act}{t kt et:TypeId}{ti te tk:TI}(ht:aP P t ti)(hk:ti.k = .mp kt et){f I:IntKind}(N:aP P kt tk)(O:tk.k = .int f)(V:aP P et te)(hT:te.T=some (.int I))
  {xo ko:Operand} {c:Bool} (ho:o.op = .lookup t xo ko c) {b:Nat} (e1:a.eval xo = .map (some b)) {i:Int} (e2:a.eval ko=aO (.int f) i) {A:Array MapEntry} {cl:Nat} (hb:w.heap[b]? = some (.map A cl))
  {z:Qq} (L:A.toList.map (·.key)=z.map (fun p=>Value.int f p.1)) (X:A.toList.map (·.val)=z.map (fun p=>Value.int I p.2)) (Y:(z.map (·.1)).Nodup) :
  Good P o a w (aG Bw w0 ρ φ h w new (As I c (aU (α:=Int) (.int f) z i)) []):=by
 obtain⟨hm,hz,C⟩:=HJ (w:=w) ht hk N O V hT;have q:A.toList.map (·.key)=(z.map (·.1)).map (aO (.int f)):=by rw[L,List.map_map];rfl
 have M:∀(j:Nat) (e:MapEntry),A.toList[j]? = some e→∃p:Int×Int,z[j]? = some p∧e.key=Value.int f p.1∧e.val=Value.int I p.2:=fun j e he=>by
  have u:=congrArg (fun l=>l[j]?) L;have B:=congrArg (fun l=>l[j]?) X;simp only[List.getElem?_map,he]at u B;cases q1:z[j]? with
  | none=>rw[q1]at u;simp at u
  | some p=>rw[q1]at u B;simp at u B;exact⟨p,rfl,u,B⟩
 rcases C.find i A.toList (z.map (·.1)) w q with⟨u,B⟩ | ⟨j,e,u,B,h3⟩
 ·have D:aU (α:=Int) (.int f) z i=none:=jB (K:= .int f) rfl fun p Z e=>by
   obtain⟨j,hj⟩:=List.mem_iff_getElem?.1 Z;have J:(A.toList.map (·.key))[j]? = some (aO (.int f) i):=by rw[q,List.getElem?_map,List.getElem?_map,hj];exact congrArg some (congrArg (aO (.int f)) e)
   rw[List.getElem?_map]at J;cases hq:A.toList[j]? with
   | none=>rw[hq]at J;cases J
   | some x =>rw[hq]at J;simp at J;exact B x (List.mem_of_getElem? hq) J
  rw[D];refine Good.aH (v:=if c then .tuple #[.int I 0,.bool false]else .int I 0) (w':=w) ?_ (aG.pure m (Fk rfl rfl));simp only[execOp,ho];rw[e1,e2];cases c <;> simp[Instr.lookup,run_underlying hm,Go.MapKept.run_getObj_map hb,C.check,u,hz,Result.andThen]
 ·obtain⟨p,Z,a1,a2⟩:=M j e B;have a3:p.1=i:=by rw[a1]at h3;simpa [aO]using h3
  have E:=lB (K:= .int f) (α:=Int) (k:=i) rfl Y Z a3;rw[E];refine Good.aH (v:=if c then .tuple #[e.val,.bool true]else e.val) (w':=w) ?_ (aG.pure m (Fk (by rw[a2];rfl) rfl));simp only[execOp,ho];rw[e1,e2];cases c <;> simp[Instr.lookup,run_underlying hm,Go.MapKept.run_getObj_map hb,C.check,u,Result.andThen]
theorem Bg(m:Mem Bw w0 ρ φ h w){o:Oper}{a:Act}{t O X:TypeId}{ti Y Z:TI}(ht:aP P t ti)(hk:ti.k = .mp O X){c u:IntKind}(x:aP P O Z)(z:Z.k = .int c)(A:aP P X Y)(hT:Y.T=some (.int u))
  {xo I:Operand} {B:Bool} (ho:o.op = .lookup t xo I B) {β:Bool} {q:Qq} (hx:V (Fr (own φ h) Bw w) ρ (.p β (.mapi c u) q) (a.eval xo)) {J:Bool} {i:Int} (hi:V (Fr (own φ h) Bw w) ρ (.p J (.int c) i) (a.eval I)) :
  Good P o a w (aG Bw w0 ρ φ h w new (As u B (aU (α:=Int) (.int c) q i)) []):=by
 have e2:a.eval I=aO (.int c) i:=nu rfl rfl hi;simp only[V,ai]at hx;obtain⟨-,r,e1,L⟩:=hx;cases r with
 | none =>
  simp only at L;subst L;exact look_nil m ht hk x z A hT ho e1.symm e2
 | some b =>
  obtain⟨M,N⟩:=L;obtain⟨D,cl,hb,f⟩:=H8 M.2.2;unfold LG at f;simp only[Value.tuple.injEq]at f;have hl:(q.map fun p=>Value.tuple #[.int c p.1,.int u p.2])=D.toList.map fun e=>Value.tuple #[e.key,e.val]:=by have:=congrArg Array.toList f;simpa using this
  have C:∀j:Nat,(D.toList.map (·.key))[j]? = (q.map (fun p=>Value.int c p.1))[j]? ∧(D.toList.map (·.val))[j]? = (q.map (fun p=>Value.int u p.2))[j]? :=fun j=>by
   have:=congrArg (fun l=>l[j]?) hl;simp only[List.getElem?_map]at this ⊢;cases q1:q[j]? <;> cases q2:D.toList[j]? <;> rw[q1,q2]at this <;> simp at this ⊢
   exact⟨this.1.symm,this.2.symm⟩
  exact FY m ht hk x z A hT ho e1.symm e2 hb (List.ext_getElem? fun j=>(C j).1) (List.ext_getElem? fun j=>(C j).2) N
/-! ### Rows of E -/
theorem xM{F:Bool→Addr→Value→Prop}{sz:Nat}:∀ {c:List ag} {vs:QY},(∀x∈c,(cellsOf x).all ag.cell=true∧(cellsOf x).length=sz)→iP F ρ c vs →
  vs.length=c.length∧(∀v∈vs,v.cells.size=sz)∧VL F ρ (c.flatMap cellsOf) (fun k u=>(vs.flatMap fun v=>v.cells.toList)[k]? = some u)
 | [],[],_,_=>⟨rfl,fun _ h=>by simp at h,by simp only[List.flatMap_nil,VL]⟩
 | x::c,v::vs,z,⟨A,B⟩=>by
  obtain⟨C,D⟩:=z x (by simp);obtain⟨E,I,J⟩:=xM (fun y L=>z y (by simp[L])) B;obtain⟨M,j,N⟩:=fV C A;refine⟨by simp[E],fun u hu=>?_,?_⟩
  ·rcases List.mem_cons.1 hu with rfl | hu
   ·rw[←D,←j,Array.length_toList]
   ·exact I u hu
  ·rw[List.flatMap_cons,List.flatMap_cons];refine VL.mk fun k y hk=>?_
   rcases Nat.lt_or_ge k (cellsOf x).length with e | f
   ·rw[List.getElem?_append_left e]at hk;obtain⟨u,p,q⟩:=VL.get M hk;exact⟨u,by rw[List.getElem?_append_left (by rw[j];exact e)];exact p,q⟩
   ·rw[List.getElem?_append_right f]at hk;obtain⟨u,p,q⟩:=VL.get J hk;exact⟨u,by rw[List.getElem?_append_right (by rw[j];exact f),j];exact p,q⟩
 | [],_::_,_,h=>h.elim
 | _::_,[],_,h=>h.elim
theorem yW(m:Mem Bw w0 ρ φ h w)(hn:ρ new=none){o:Oper}{a:Act}{t e:TypeId}{ti z:TI}(ht:aP P t ti)(hk:ti.k = .sl e)(M:aP P e z)
  {parts:Array (Nat×Operand)} {len:Nat} (ho:o.op = .buildSlice t len parts) (N:parts.toList.map (·.1)=List.range len) {f:List ag}
  (hx:iP (Fr (own φ h) Bw w) ρ f (parts.toList.map fun p=>a.eval p.2)) (O:∀x∈f,(cellsOf x).all ag.cell=true∧(cellsOf x).length=z.size) (X:len*z.size≤16777216) :
  Good P o a w (aG Bw w0 ρ φ h w new (.sl new) [(new,some (.vrow len z.size (f.flatMap cellsOf)))]):=by
 obtain⟨g1,g2,g3⟩:=xM O hx;have c:(parts.toList.map fun p=>a.eval p.2).length=len:=by have:=congrArg List.length N;simpa using this
 have A:(parts.map fun p=>(p.1,a.eval p.2))=(((parts.toList.map fun p=>a.eval p.2).zipIdx 0).map fun p=>(p.2,p.1)).toArray:=by
  apply Array.ext';simp only[Array.toList_map];apply List.ext_getElem?;intro j;simp only[List.getElem?_map,List.getElem?_zipIdx,Option.map_map];have C:=congrArg (fun l=>l[j]?) N;simp only[List.getElem?_map]at C;cases Y:parts.toList[j]? with
  | none=>simp[Y]
  | some p =>
   simp only[Y,Option.map_some]at C ⊢;have Z:j<len:=by have:=(List.getElem?_eq_some_iff.1 Y).1;have h2:=congrArg List.length N;simp only[List.length_map,List.length_range]at h2;omega
   rw[List.getElem?_range Z]at C;simp only[Option.some.injEq]at C;simp[C]
 have B:=pU (P:=P) (w:=w) ht hk M (vs:=parts.toList.map fun p=>a.eval p.2) g2 (by rw[c];exact X);rw[c,←A]at B;refine Good.aH (v:=_) (w':=_) (by simp only[execOp,ho,Sem.run_bind,B,Result.andThen_ok];rfl) ?_;have D:∀ {vs:QY},(∀v∈vs,v.cells.size=z.size)→(vs.flatMap fun v=>v.cells.toList).length=vs.length*z.size:=fun {vs} E=>by
  induction vs with
  | nil=>simp
  | cons v vs ih=>rw[List.flatMap_cons,List.length_append,ih (fun u hu=>E u (by simp[hu])),Array.length_toList,E v (by simp),List.length_cons,Nat.succ_mul,Nat.add_comm]
 have q:∀ {f:List ag},(∀x∈f,(cellsOf x).all ag.cell=true∧(cellsOf x).length=z.size)→(f.flatMap cellsOf).length=f.length*z.size:=fun {f} E=>by
  induction f with
  | nil=>simp
  | cons v vs ih=>rw[List.flatMap_cons,List.length_append,ih (fun u hu=>E u (by simp[hu])),(E v (by simp)).2,List.length_cons,Nat.succ_mul,Nat.add_comm]
 have I:f.length=len:=by rw[←g1,c]
 refine cN m none new (.vrow len z.size (f.flatMap cellsOf)) (.slice (some ⟨w.heap.size,0,none⟩) len len) none (World.grownBy_alloc w _ none) (fun k e=>by cases e) (.inl hn) (fun _ k hk=>?_) (fun F' a1 hF J=>?_) (by rw[bp];rfl) (fun _=>rfl) (fun F' a1 hF J L=>?_)
 ·simp only[dg,Option.some.injEq]at hk;exact .inl (by omega)
 ·simp only[OR];refine⟨_,e,_,rfl,rfl,heap_alloc_new w _,?_,?_,VL.mono hF J (fun k u hk=>by simpa using hk) g3⟩
  ·rw[List.size_toArray,D g2,q O,c,I]
  ·rw[q O,I]
 ·simp only[V];exact⟨L,_,_,_,rfl⟩
theorem AN(m:Mem Bw w0 ρ φ h w){id n sz:Nat}{c:List ag}(hb:h id=some (.vrow n sz c)){u:Value}(f:ρ id=some u):
  ∃g t cells,u = .slice (some ⟨g,0,none⟩) n n∧w.heap[g]? = some (.cells cells t (0,0))∧cells.size=c.length∧c.length=n*sz∧VL (Fr (own φ h) Bw w) ρ c (fun k v=>cells[k]? = some v):=by
 obtain⟨z,e,g,t,cells,rfl,_,j,p,q,x⟩:=m.ob id _ hb;rw[f]at e;cases e;exact⟨g,t,cells,rfl,j,p,q,x⟩
theorem Dn(m:Mem Bw w0 ρ φ h w){o:Oper}{a:Act}{t:TypeId}{ti:TI}(ht:aP P t ti){e:TypeId}(hk:ti.k = .sl e){xo:Operand}{id n sz:Nat}{q:List ag}(j:V (Fr (own φ h) Bw w) ρ (.sl id) (a.eval xo))
  (hb:h id=some (.vrow n sz q)) (u:o.op = .call { callee:= .builtin .len,args:= #[xo],argTypes:= #[t] }):Good P o a w (aG Bw w0 ρ φ h w new (.p false (.int .i64) (n:Int)) []):=by
 obtain⟨d,x,c⟩:=ht.hu;rw[hk]at c;simp only[UK]at c;subst c;simp only[V]at j;obtain⟨f,-⟩:=j;obtain⟨g,A,cells,z,-⟩:=AN m hb f;refine Good.aH (v:= .int .i64 n) (w':=w) ?_ (aG.pure m (dC _ _ _));simp only[execOp,u,resolve,invoke,builtin,Sem.run_bind,Sem.run_pure,Result.andThen_ok,List.map_toArray,List.map_cons,List.map_nil,z];simp[Builtin.len_,run_underlying x,goInt]
theorem zn(m:Mem Bw w0 ρ φ h w){o:Oper}{a:Act}{t e:TypeId}{ti f:TI}(ht:aP P t ti)(hk:ti.k = .sl e)(j:aP P e f){xo io:Operand}{id n:Nat}{x:List ag}(q:V (Fr (own φ h) Bw w) ρ (.sl id) (a.eval xo))
  (hb:h id=some (.vrow n f.size x)) {β:Bool} {k:IntKind} {i:Int} (hi:V (Fr (own φ h) Bw w) ρ (.p β (.int k) i) (a.eval io)) (z:o.op = .indexAddr t xo io) (A:0≤i) (hn:i<n) :
  Good P o a w (aG Bw w0 ρ φ h w new (.adr id i.toNat f.size 0) []):=by
 have hu:=aY ht hk;have B:=bR hi;simp only[V]at q;obtain⟨c,-⟩:=q;obtain⟨g,C,cells,u,-⟩:=AN m hb c;refine Good.aH (v:= .pointer (some ((⟨g,0,none⟩:Addr).add (i.toNat*f.size)))) (w':=w) ?_ (aG.pure m ?_)
 ·simp[execOp,z,Instr.indexAt,asIntOf,B,u,run_underlying hu,run_sizeOf j,A,hn]
 ·simp only[V];exact⟨g,.inr ⟨_,_,by rw[c,u]⟩,by rw[cf];simp⟩
theorem AH(m:Mem Bw w0 ρ φ h w){o:Oper}{a:Act}{t:TypeId}{ti:TI}(ht:aP P t ti){xo:Operand}{id i sz off:Nat}(z:V (Fr (own φ h) Bw w) ρ (.adr id i sz off) (a.eval xo))(A:o.op = .load t xo)
  {n f:Nat} {j:List ag} (hb:h id=some (.vrow n f j)) {y:ag} (B:eR ti j (i*sz+off)=some y):Good P o a w (aG Bw w0 ρ φ h w new y []):=by
 obtain⟨u,p,_⟩:=m.ob id _ hb;obtain⟨g,L,cells,rfl,C,M,N,D⟩:=AN m hb p;simp only[V]at z;obtain⟨q,c,E⟩:=z;have x:q=g:=by
  rcases c with c | ⟨_,_,c⟩
  ·rw[p]at c;cases c
  ·rw[p]at c;cases c;rfl
 subst x;have e:VL (Fr (own φ h) Bw w) ρ j (fun k u=>w.cell? ((⟨q,0,none⟩:Addr).add k)=some u):=VL.mono (fun _ _ _ h=>h) (fun _ _ h=>h) (fun k u hk=>by
  rw[cf,Nat.zero_add];simp only[World.cell?,C];exact hk) D
 obtain⟨v,I,J⟩:=gx (P:=P) ht e B;refine Good.aH (v:=v) (w':=w) ?_ (aG.pure m J);have:a.eval xo = .pointer (some ((⟨q,0,none⟩:Addr).add (i*sz+off))):=by rw[E,cf,Nat.zero_add]
 simp[execOp,A,Instr.loadAt,this,Instr.sureAddr,I]
theorem Cg{w:World}{g:Nat}{c:QU}{f:TypeId}{mk:Nat×Nat}(j:w.heap[g]? = some (.cells c f mk))(e:mk=(0,0)∨mk=(c.size,c.size+1)):
  (w.freeze ⟨g,c.size,none⟩ 1).heap[g]? = some (.cells c f (c.size,c.size+1)):=by
 unfold World.freeze;rw[if_neg (by decide)];simp only[Array.getElem?_modify,j,if_true,Option.map_some];rcases e with rfl | rfl
 ·simp
 ·simp
theorem sO(w:World)(g k:Nat):w.grownBy (w.freeze ⟨g,k,none⟩ 1) (some g):=by
 refine⟨rfl,rfl,rfl,?_,fun j f c=>?_⟩
 ·unfold World.freeze;rw[if_neg (by decide)];simp
 ·unfold World.freeze;rw[if_neg (by decide)];have:g≠j:=fun e=>c (by rw[e])
  simp[Array.getElem?_modify,this]
theorem zq(m:Mem Bw w0 ρ φ h w){o:Oper}{a:Act}{t e:TypeId}{ti O:TI}(ht:aP P t ti)(hk:ti.k = .sl e)(D:aP P e O)(E:O.k = .int .u8){xo:Operand}{id:Nat}(X:V (Fr (own φ h) Bw w) ρ (.sl id) (a.eval xo))
  (ho:o.op = .convert t t xo) {j:TypeId} {f:QK} (hi:h id=some (.arr j (.int .u8) f)) (h0:0<f.length):Good P o a w (aG Bw w0 ρ φ h w new (.sl id) [(id,some (.bytes j f)),(id,some (.bytes j f))]):=by
 have hu:=aY ht hk;obtain⟨d2,I,p⟩:=D.hu;rw[E]at p;simp only[UK]at p;subst p;obtain⟨J,f1⟩:=m.F1 hi;obtain⟨u,Y,q2⟩:=J.ob id _ (ao h id (some (.bytes j f)));simp only[V]at X;obtain⟨q,-⟩:=X;rw[q]at Y;cases Y;rcases q2 with⟨_,hn⟩ | ⟨g,cap,c,mk,L,x,Z,r2,r3,r5,r6⟩
 ·subst hn;simp at h0
 have M:w.shape? g=some (j,c.size):=by unfold World.shape?;rw[Z]
 have z:(convert t t (.slice (some ⟨g,0,none⟩) f.length cap)).run P w = .ok (.slice (some ⟨g,0,none⟩) f.length cap) (w.freeze ⟨g,c.size,none⟩ 1):=by simp[convert,run_underlying hu,run_underlying I,markStringish,M]
 refine Good.aH (v:=a.eval xo) (w':=w.freeze ⟨g,c.size,none⟩ 1) (by simp only[execOp,ho,L,Sem.run_bind,z,Result.andThen_ok];rfl) ?_;refine aG.after (u1:=[(id,some (.bytes j f))]) (u2:=[(id,some (.bytes j f))]) rfl f1 ?_;refine dW J (some id) id (.bytes j f) (a.eval xo) (φ id) (some g) (sO w g _) (fun k e=>⟨id,_,rfl,ao _ _ _,rfl,by cases e;exact x⟩) (.inr ⟨rfl,q⟩)
  (fun _ k hk=>Nat.lt_of_lt_of_le (J.lt id _ k (ao _ _ _) rfl hk) (sO w g _).size) (fun _ k hk=> .inr ⟨id,_,rfl,ao _ _ _,rfl,hk⟩) (fun F' N hF A=>?_) (by rw[bg];rfl) (fun e=>by rw[q]at e;cases e) (fun F' N hF A B=>?_)
 ·refine .inr ⟨g,cap,c,(c.size,c.size+1),L,x,Cg Z r2,.inr rfl,r3,r5,r6⟩
 ·simp only[V];exact⟨B,_,_,_,L⟩
/-! ### Bytes of a string C a row of bytes -/
theorem tp{t u ty e:TypeId}{i:TypeInfo}(ht:P.underlying t=some (.slice e))(hu:P.underlying u=some .string)(hi:P.info? e=some i)(hz:i.zero=some (.int .u8 0))(c:i.size=1)(q:i.bytes=1)
  {v:Value} {n:Nat} {B:QY} (f:w.ownsRow 0 e 1 v n B) (s:ByteArray) (C:n+s.size≤maxLen) (p:n+s.size≤140737488355328) :
  ∃D w',(Builtin.append_ #[t,u] ty #[v,.string s]).run P w = .ok D w'∧w'.ownsRow 0 e 1 D (n+s.size) (B++Lib.strCells s)∧w.grownBy w' v.ownBlock ∧
   ∀k,D.ownBlock=some k→w.heap.size≤k∨v.ownBlock=some k:=by
 obtain⟨D,w',x,O,V,X⟩:=Lib.run_append_own_string (P:=P) w 0 t u ty e i ht hu hi hz c q v n B f s C p (Nat.zero_le _);refine⟨D,w',x,O,V,fun k hk=>?_⟩;have I:n+s.size≤9223372036854775807:=by simp only[maxLen]at C;omega
 rcases f.2 with⟨rfl,rfl⟩ | ⟨g,cap,E,rfl,_,Y,Z,a1,J,L⟩
 ·by_cases hm:s.size=0
  ·rw[X.2 ⟨rfl,hm⟩]at hk;cases hk
  ·have:=run_append_nil_string (P:=P) w t u ty e i (.int .u8 0) ht hu hi hz s (by omega) (by omega) (by rw[q];omega);rw[this]at x;cases x;simp only[Value.ownBlock,Option.some.injEq]at hk;exact .inl (by omega)
 ·have N:E.size=cap:=by simpa using J
  by_cases z:n+s.size≤cap
  ·have:=Lib.run_append_room_string (P:=P) w t u ty e i ht hu hi c g n cap E Y s z (by omega);rw[this]at x;cases x;exact .inr hk
  ·have A:∀j u,B[j]? = some u→w.cell? ((⟨g,0,none⟩:Addr).add j)=some u:=f.cells (g:=g) rfl;have M:B.length=n:=by simpa using f.1
   have:=Lib.run_append_grow_string (P:=P) w t u ty e i (.int .u8 0) ht hu hi hz ⟨g,0,none⟩ n cap B (by rw[c];simpa using M) A s (by omega) (by omega) (by rw[q];exact growslice_fits (by omega) (by omega));rw[this]at x;cases x;simp only[Value.ownBlock,Option.some.injEq]at hk;exact .inl (by omega)
theorem pF(m:Mem Bw w0 ρ φ h w)(hn:ρ new=none){o:Oper}{a:Act}{t u e:TypeId}{ti tu te:TI}(ht:aP P t ti)(hk:ti.k = .sl e)(a2:aP P u tu)(a3:tu.k = .str)(D:aP P e te)(hT:te.T=some (.int .u8))(a4:te.bytes=1)
  {xo yo:Operand} {x:ag} (M:V (Fr (own φ h) Bw w) ρ x (a.eval xo)) {β:Bool} {s:QX} (hy:V (Fr (own φ h) Bw w) ρ (.p β .str s) (a.eval yo)) (ho:o.op = .call { callee:= .builtin .append,args:= #[xo,yo],argTypes:= #[t,u] })
  {c:QK} {N:QJ} {uu:hD}
  (O:(x = .nils∧c=[]∧N=none∧uu=[(new,some (.arr e (.int .u8) (cR s)))])∨(∃id,x = .sl id∧h id=some (.arr e (.int .u8) c)∧N=some id∧uu=[(id,none),(new,some (.arr e (.int .u8) (c++cR s)))]))
  (hb:c.length+s.length≤140737488355328):Good P o a w (aG Bw w0 ρ φ h w new (.sl new) uu):=by
 obtain⟨i,z,hi,hz,E,j,a5,a6,a7⟩:=D.hi;obtain⟨a8,b9,be⟩:=D.hT _ hT;have hu:=aY ht hk;have a9:te.size=1:=a8.symm;obtain⟨d,ac,I⟩:=a2.hu;rw[a3]at I;simp only[UK]at I;subst I;have ad:z = .int .u8 0:=by
  have ax:(zeroValue e).run P w = .ok z w:=by simp[zeroValue,typeInfo,hi,hz]
  have b1:MV (Fr (own φ h) Bw w false) (.int .u8) (Ty.zero (.int .u8)) z:=wA D hT ax a5 a6 a7;have:=Hy (ρ:=ρ) b1;simp only[enc,Ty.scalar,if_true,V,ai]at this;exact this.2.symm
 subst ad;have b2:a.eval yo = .string ⟨s.toArray⟩:=pT hy;have f:(⟨s.toArray⟩:ByteArray).size=s.length:=rfl;have A:Lib.strCells ⟨s.toArray⟩=(cR s).map (Value.int .u8):=by simp[Lib.strCells,cR]
 obtain⟨cells,v,hv,B,J,b3⟩:∃cells v,a.eval xo=v∧w.ownsRow 0 e 1 v c.length cells ∧
   (∀i (h':i<c.length),cells[i]? = some (.int .u8 c[i])) ∧
   ∀k,v.ownBlock=some k→∃i o,N=some i∧h i=some o∧o.live=true∧φ i k:=by
  rcases O with⟨rfl,rfl,rfl,_⟩ | ⟨id,rfl,X,rfl,_⟩
  ·simp only[V]at M;exact⟨[],_,M,World.ownsRow_nil w 0 e _,fun i hi=>absurd hi (by simp),fun k hk=>by cases hk⟩
  ·simp only[V]at M;obtain⟨u,q1,b4,_,cells,r1,r2⟩:=m.ob id _ X;rw[M.1]at q1;cases q1;obtain⟨_,aa,nn,cc,he⟩:=M;refine⟨cells,_,rfl,r1,fun i hi=>?_,fun k L=>⟨id,_,rfl,X,rfl,b4 _ (by rw[cz he];exact L)⟩⟩;have:=r2 i hi;simpa [ai,Ty.size]using this
 have Y:apply uu h=bq (fun i=>if N=some i then none else h i) new (some (.arr e (.int .u8) (c++cR s))):=by
  rcases O with⟨_,rfl,rfl,rfl⟩ | ⟨id,_,_,rfl,rfl⟩
  ·rw[bp];rfl
  ·rw[tw];rfl
 obtain⟨v',w',hr,h2,h3,h4⟩:=tp (P:=P) (ty:=o.type) hu ac hi hz (by rw[E,a9]) (by rw[j,a4]) B ⟨s.toArray⟩ (by rw[f];unfold maxLen;omega) (by rw[f];exact hb);have b5:∃aa nn cc,v' = .slice aa nn cc:=by rcases h2.2 with⟨e,_⟩ | ⟨g,cap,bi,e,_⟩ <;> exact⟨_,_,_,e⟩
 refine Good.aH (v:=v') (w':=w') ?_ ?_
 ·simp only[execOp,ho,resolve,invoke,builtin,Sem.run_bind,Sem.run_pure,Result.andThen_ok,List.map_toArray,List.map_cons,List.map_nil,hv,b2,hr]
 ·obtain⟨aa,nn,cc,C⟩:=b5;rw[f,A]at h2;have Z:(c++cR s).length=c.length+s.length:=by simp[cR]
  have b6:cells.length=c.length:=by simpa using B.1
  refine cN m N new (.arr e (.int .u8) (c++cR s)) v' v.ownBlock h3 b3 (.inl hn) (fun _ k L=>h4 k (by rw[←cz C];exact L)) (fun F' b7 hF b8=>?_) Y (fun _=>rfl) (fun F' b7 hF b8 a1=>?_)
  ·refine⟨fun _ h=>h,by decide,cells++(cR s).map (Value.int .u8),by rw[←Z]at h2;exact h2,fun i hi=>?_⟩;simp only[ai,Ty.size,Nat.mul_one,Nat.add_zero];rcases Nat.lt_or_ge i c.length with q | q
   ·rw[List.getElem_append_left q,List.getElem?_append_left (by omega)];exact J i q
   ·rw[List.getElem_append_right q,List.getElem?_append_right (by omega),b6];have:i - c.length<(cR s).length:=by simp only[List.length_append]at hi;omega
    simp[this]
  ·simp only[V];exact⟨a1,_,_,_,C⟩
end
end Go.Tv
namespace Go.Tv
open Go Go.RowKit
open Go.MapKept (run_setObj_map heap_set)
section
variable{P:Program}{tb:bP}{Bw:Nat→Prop}{w0:cu P}{ρ:Nat→QW}{φ:Nat→Nat→Prop}{h:Nat→Qz}{w:World}{new:Nat}
theorem EA(m:Mem Bw w0 ρ φ h w){o:Oper}{a:Act}{t B C:TypeId}{ti:TI}(ht:aP P t ti)(hk:ti.k = .mp B C){xo:Operand}(D:o.op = .call { callee:= .builtin .clear,args:= #[xo],argTypes:= #[t] })
  {id:Nat} {K A:Ty} {E:List (K.den×A.den)} (hi:h id=some (.mpo K A E)) (I:V (Fr (own φ h) Bw w) ρ (.mp id) (a.eval xo)) :
  Good P o a w (aG Bw w0 ρ φ h w new (.tup []) [(id,some (.mpo K A []))]):=by
 obtain⟨r,Y,clock,J,c,j,hb,⟨L,hB⟩,p,M,q⟩:=uA m hi I;obtain⟨Z,N,f⟩:=ht.hu;rw[hk]at f;simp only[UK]at f;subst f;refine Good.aH (v:= .tuple #[]) (w':= { w with heap:=w.heap.setIfInBounds r (.map #[] clock) }) ?_ ?_
 ·simp only[execOp,D,resolve,invoke,builtin,Sem.run_bind,Sem.run_pure,Result.andThen_ok,List.map_toArray,List.map_cons,List.map_nil,J];simp[Builtin.clear_,run_underlying N,Go.MapKept.run_getObj_map hb,run_setObj_map _ hb,Result.andThen]
 ·refine dW m (some id) id (.mpo K A []) (.map (some r)) (φ id) (some r) (gG w r _) (fun k e=>⟨id,_,rfl,hi,rfl,by cases e;exact j⟩) (.inr ⟨rfl,c⟩)
   (fun _ k hk=>Nat.lt_of_lt_of_le (m.lt id _ k hi rfl hk) (gG w r _).size) (fun _ k hk=> .inr ⟨id,_,rfl,hi,rfl,hk⟩) (fun F' u O x=>?_) (by rw[bg];rfl) (fun e=>by rw[c]at e;cases e) (fun F' u O c z=>?_)
  ·exact⟨r,#[],clock,rfl,j,(heap_set hb).1,⟨L,List.nodup_nil,fun e X=>by cases X⟩,rfl,List.nodup_nil,fun i hi=>absurd hi (by simp)⟩
  ·simp only[V,VL];exact⟨#[],rfl,rfl,trivial⟩
theorem Cn(m:Mem Bw w0 ρ φ h w){o:Oper}{a:Act}{t e:TypeId}{ti:TI}(ht:aP P t ti)(hk:ti.k = .sl e){xo:Operand}(f:o.op = .call { callee:= .builtin .cap,args:= #[xo],argTypes:= #[t] })
  (c:V (Fr (own φ h) Bw w) ρ .nils (a.eval xo)):Good P o a w (aG Bw w0 ρ φ h w new (.p false (.int .i64) (0:Int)) []):=by
 have hu:=aY ht hk;simp only[V]at c;refine Good.aH (v:= .int .i64 0) (w':=w) ?_ (aG.pure m (dC _ _ _));simp only[execOp,f,resolve,invoke,builtin,Sem.run_bind,Sem.run_pure,Result.andThen_ok,List.map_toArray,List.map_cons,List.map_nil,c];simp[Builtin.cap_,run_underlying hu,goInt]
theorem wZ{G:Addr→Value→Prop}{A:Ty}{z:QU}(hz:z.size=A.size)(h:ai G A A.zero (fun k u=>z.toList[k]? = some u)){n:Nat}:∀j (f:j<(List.replicate n A.zero).length),ai G A (List.replicate n A.zero)[j] (fun k v=>(Builtin.zeroCells z n).toList[j*A.size+k]? = some v):=fun j f=>by
 simp only[List.length_replicate]at f;simp only[List.getElem_replicate];refine ai.gB (fun k v hk e=>?_) h;have p:j*A.size+A.size≤n*A.size:=by rw[←Nat.succ_mul];exact Nat.mul_le_mul_right _ f
 rw[Array.getElem?_toList];have q:(Builtin.zeroCells z n)[j*A.size+k]? = some (z[(j*A.size+k) % z.size]!):=by
  have:j*A.size+k<n*z.size:=by rw[hz];omega
  simp[Builtin.zeroCells,this]
 rw[q,hz,Nat.mul_comm,Nat.mul_add_mod,Nat.mod_eq_of_lt hk];have c:k<z.size:=by omega
 simp only[Array.getElem?_toList]at e;rw[Array.getElem?_eq_getElem c]at e;simp only[Option.some.injEq]at e;simp[c,e]
theorem uO{t u ty e:TypeId}{i:TypeInfo}{z:Value}{k0 kl:IntKind}(ht:P.underlying t=some (.slice e))(hu:P.underlying u=some (.int k0))(hi:P.info? e=some i)(hz:i.zero=some z)
  (N:z.cells.size=i.size) (O:0<i.size) (a4:∀c∈z.cells.toList,c.oneCell'=true) {v:Value} {n:Nat} {D:QY} (f:w.ownsRow 0 e i.size v n D) (k:Nat)
  (V:n+k≤maxLen) (q:(n+k)*i.bytes≤140737488355328) :
  ∃v' w',(Builtin.append_ #[t,u] ty #[v,.int kl k]).run P w = .ok v' w'∧w'.ownsRow 0 e i.size v' (n+k) (D++(Builtin.zeroCells z.cells k).toList)∧w.grownBy w' v.ownBlock ∧
   ∀b,v'.ownBlock=some b→w.heap.size≤b∨v.ownBlock=some b:=by
 have a3:n+k≤9223372036854775807:=by simp only[maxLen]at V;omega
 have hw:IntKind.i64.wrap (k:Int)=k:=by rw[IntKind.wrap_i64];omega
 have X:¬((k:Int)<0):=by omega
 have aa:k*i.bytes≤140737488355328:=Nat.le_trans (Nat.mul_le_mul_right _ (by omega)) q;have Y:¬(281474976710656<(k:Int)*(i.bytes:Int)):=by rw[←Int.natCast_mul];omega
 have I:(Builtin.zeroCells z.cells k).toList.length=k*i.size:=by rw[Array.length_toList,size_zeroCells,N]
 by_cases hk:k=0
 ·subst hk;have Z:IntKind.i64.wrap 0=0:=rfl;have e0:(Builtin.zeroCells z.cells 0).toList=[]:=List.eq_nil_of_length_eq_zero (by rw[I];omega);refine⟨v,w,?_,by rw[e0,List.append_nil];exact f,⟨rfl,rfl,rfl,Nat.le_refl _,fun _ _ _=>rfl⟩,fun b hb=> .inr hb⟩;rcases f.2 with⟨rfl,rfl⟩ | ⟨g,cap,A,rfl,_,hg,a1,_⟩
  ·simp[Builtin.append_,run_underlying ht,run_underlying hu,sizeOf,typeInfo,hi,asInt,asIntOf,Z]
  ·simp[Builtin.append_,run_underlying ht,run_underlying hu,sizeOf,typeInfo,hi,asInt,asIntOf,Z,a1,storeCells]
 have a5:¬(k*i.size=0):=Nat.mul_ne_zero hk (by omega);have x:(D++(Builtin.zeroCells z.cells k).toList).length=(n+k)*i.size:=by rw[List.length_append,f.1,I,Nat.add_mul]
 have grown:∀(B:Nat) (row:QJ) (w':World),w'=w.drew.alloc (.cells (D.toArray++Builtin.zeroCells z.cells k++Builtin.zeroCells z.cells (grownCap w (n+k) B e - (n+k))) e) →
   w'.ownsRow 0 e i.size (.slice (some ⟨w.heap.size,0,none⟩) (n+k) (grownCap w (n+k) B e)) (n+k) (D++(Builtin.zeroCells z.cells k).toList)∧w.grownBy w' row:=by
  rintro B row w' rfl;have a6:=grownCap_ge w (n+k) B e;have J:grownCap w (n+k) B e≤maxLen:=grownCap_le_maxLen w (n+k) B e V;refine⟨⟨x,.inr ⟨w.heap.size,_,_,rfl,Nat.zero_le _,heap_alloc_new w.drew _,a6,J,?_,?_⟩⟩,⟨rfl,rfl,rfl,by simp,fun k hk _=>heap_alloc_old w.drew _ hk⟩⟩
  ·simp only[Array.size_append,List.size_toArray,size_zeroCells,N,f.1,←Nat.add_mul];congr 1;omega
  ·simp only[Array.toList_append];rw[←x];exact List.take_left
 rcases f.2 with⟨rfl,rfl⟩ | ⟨g,cap,A,rfl,_,hg,a1,J,a7,L⟩
 ·have hx:D=[]:=List.eq_nil_of_length_eq_zero (by simpa using f.1);subst hx;have hr:=Lib.run_append_nil_zeros (P:=P) w t u ty e i z kl k0 ht hu hi hz k (by omega) O (by omega) (by omega);have C:=grown 0 (Value.ownBlock (.slice none 0 0)) _ rfl;simp only[Nat.zero_add,List.nil_append,Array.empty_append]at C ⊢;exact⟨_,_,hr,C.1,C.2,fun b hb=> .inl (by simp only[Value.ownBlock,Option.some.injEq]at hb;omega)⟩
 ·by_cases p:n+k≤cap
  ·have E:n*i.size+(Builtin.zeroCells z.cells k).toList.length≤A.size:=by rw[I,a7,←Nat.add_mul];exact Nat.mul_le_mul_right _ p
   have a2:=run_storeCells_at P g (n*i.size) e (Builtin.zeroCells z.cells k).toList 0 A w hg (by simpa using E) (fun c hc=>by
    simp only[Builtin.zeroCells,Array.toList_map,List.mem_map]at hc;obtain⟨j,_,rfl⟩:=hc;have a8:j % z.cells.size<z.cells.size:=Nat.mod_lt _ (by omega);rw[getElem!_pos z.cells (j % z.cells.size) a8];exact a4 _ (by simp))
   simp only[Nat.add_zero]at a2;refine⟨.slice (some ⟨g,0,none⟩) (n+k) cap,_,?_,⟨x,.inr ⟨g,cap,_,rfl,Nat.zero_le _,setRow_heap w g A (A.toList.take (n*i.size)++(Builtin.zeroCells z.cells k).toList++A.toList.drop (n*i.size+(Builtin.zeroCells z.cells k).toList.length)).toArray e _ hg,p,J,?_,?_⟩⟩,⟨rfl,rfl,rfl,by simp,fun k _ hk=>setRow_other w g k _ (fun e=>hk (by simp[Value.ownBlock,e]))⟩,fun b hb=> .inr hb⟩
   ·simp[Builtin.append_,run_underlying ht,run_underlying hu,sizeOf,typeInfo,zeroValue,hi,hz,asInt,asIntOf,hw,X,Y,a5,p,Addr.add_lit,a2]
   ·simp only[List.size_toArray,List.length_append,List.length_take,List.length_drop,Array.length_toList]at E ⊢;omega
   ·rw[L,←x];exact List.take_left
  ·have M:∀j u,D[j]? = some u→w.cell? ((⟨g,0,none⟩:Addr).add j)=some u:=f.cells (g:=g) rfl;have a9:=run_firstCells_some (P:=P) w.drew i.size n ⟨g,0,none⟩ n cap D f.1 (by simpa using M);have hr:=Lib.run_append_grow_zeros (P:=P) w t u ty e i z kl k0 ht hu hi hz (some ⟨g,0,none⟩) n cap D a9 k (by omega) O (by omega) (by omega) (by omega) (growslice_fits (by omega) q);have C:=grown cap (Value.ownBlock (.slice (some ⟨g,0,none⟩) n cap)) _ rfl;exact⟨_,_,hr,C.1,C.2,fun b hb=> .inl (by simp only[Value.ownBlock,Option.some.injEq]at hb;omega)⟩
theorem Ah(m:Mem Bw w0 ρ φ h w)(hn:ρ new=none){o:Oper}{a:Act}{t e u:TypeId}{ti te tu:TI}(ht:aP P t ti)(hk:ti.k = .sl e)(N:aP P e te){A:Ty}(hT:te.T=some A)(h0:0<A.size)
  (a4:aP P u tu) {k0:IntKind} (a5:tu.k = .int k0) {xo yo:Operand} (ho:o.op = .call { callee:= .builtin .append,args:= #[xo,yo],argTypes:= #[t,u] })
  {x:ag} (O:V (Fr (own φ h) Bw w) ρ x (a.eval xo)) {β:Bool} {kl:IntKind} {l:Int} (hl:V (Fr (own φ h) Bw w) ρ (.p β (.int kl) l) (a.eval yo)) {c:List A.den} {X:QJ} {us:hD}
  (E:(x = .nils∧c=[]∧X=none∧us=[(new,some (.arr e A (c++List.replicate l.toNat A.zero)))])∨(∃id,x = .sl id∧h id=some (.arr e A c)∧X=some id∧us=[(id,none),(new,some (.arr e A (c++List.replicate l.toNat A.zero)))]))
  (h1:0≤l) (hb:(c.length+l.toNat)*te.bytes≤140737488355328) (a6:c.length+l.toNat≤9223372036854775807) :
  Good P o a w (aG Bw w0 ρ φ h w new (.sl new) us):=by
 obtain⟨i,z,hi,hz,I,q,a7,a8,a9⟩:=N.hi;obtain⟨Y,b5,ac⟩:=N.hT A hT;have hu:=aY ht hk;have f:i.size=A.size:=by rw[I,Y]
 obtain⟨du,ad,j⟩:=a4.hu;rw[a5]at j;simp only[UK]at j;subst j;obtain⟨n,rfl⟩:∃n:Nat,l=(n:Int):=⟨l.toNat,by omega⟩;rw[Int.toNat_natCast]at hb a6 E;obtain⟨cells,v,hv,B,J,ax⟩:∃cells v,a.eval xo=v∧w.ownsRow 0 e A.size v c.length cells ∧
   (∀i (h':i<c.length),ai (Fr (own φ h) Bw w false) A c[i] (fun k v=>cells[i*A.size+k]? = some v)) ∧
   ∀k,v.ownBlock=some k→∃i o,X=some i∧h i=some o∧o.live=true∧φ i k:=by
  rcases E with⟨rfl,rfl,rfl,_⟩ | ⟨id,rfl,Z,rfl,_⟩
  ·simp only[V]at O;exact⟨[],_,O,World.ownsRow_nil w 0 e _,fun i hi=>absurd hi (by simp),fun k hk=>by cases hk⟩
  ·simp only[V]at O;obtain⟨u,q1,b1,_,cells,r1,r2⟩:=m.ob id _ Z;rw[O.1]at q1;cases q1;obtain⟨_,aa,nn,cc,he⟩:=O;exact⟨cells,_,rfl,r1,r2,fun k L=>⟨id,_,rfl,Z,rfl,b1 _ (by rw[cz he];exact L)⟩⟩
 have a1:apply us h=bq (fun i=>if X=some i then none else h i) new (some (.arr e A (c++List.replicate n A.zero))):=by
  rcases E with⟨_,rfl,rfl,rfl⟩ | ⟨id,_,_,rfl,rfl⟩
  ·rw[bp];rfl
  ·rw[tw];rfl
 have M:w.ownsRow 0 e i.size v c.length cells:=by rw[f];exact B
 have C:z.cells.size=A.size:=by rw[a8,←Y]
 obtain⟨v',w',hr,h2,h3,h4⟩:=uO (P:=P) (t:=t) (u:=u) (ty:=o.type) (kl:=kl) (k0:=k0) hu ad hi hz (by rw[C,f]) (by omega) a9 M n (by unfold maxLen;omega) (by rw[q];exact hb);have b2:∃aa nn cc,v' = .slice aa nn cc:=by rcases h2.2 with⟨e,_⟩ | ⟨g,cap,b6,e,_⟩ <;> exact⟨_,_,_,e⟩
 have hy:=bR hl;refine Good.aH (v:=v') (w':=w') ?_ ?_
 ·simp only[execOp,ho,resolve,invoke,builtin,Sem.run_bind,Sem.run_pure,Result.andThen_ok,List.map_toArray,List.map_cons,List.map_nil,hv,hy,hr]
 ·obtain⟨aa,nn,cc,D⟩:=b2;refine cN m X new (.arr e A (c++List.replicate n A.zero)) v' v.ownBlock h3 ax (.inl hn) (fun _ k L=>h4 k (by rw[←cz D];exact L)) (fun F' a2 hF b3=>?_) a1 (fun _=>rfl) (fun F' a2 hF b3 a3=>?_)
  ·have b4:ai (F' false) A A.zero (fun k u=>z.cells.toList[k]? = some u):=by have:=gv (F:=F') (ρ:=a2) z.cells.toList;rw[a7]at this;exact(cU ac this).1
   refine⟨fun _ h=>h,h0,cells++(Builtin.zeroCells z.cells n).toList,by rw[List.length_append,List.length_replicate,←f];exact h2,fun i hi=>pL B.1 (fun i hi=>ai.mono (hF _) (fun _ _ h=>h) (J i hi)) (wZ C b4) i hi⟩
  ·simp only[V];exact⟨a3,_,_,_,D⟩
theorem Fc(m:Mem Bw w0 ρ φ h w){o:Oper}{a:Act}{t:TypeId}{ti B:TI}(ht:aP P t ti){xo:Operand}{O:List ag}(X:V (Fr (own φ h) Bw w) ρ (.agg O) (a.eval xo)){f:Nat}(ho:o.op = .field t xo f)
  {Y:List (Nat×TypeId)} (hk:ti.k = .st Y) {off:Nat} {C:TypeId} (q:Y[f]? = some (off,C)) (z:aP P C B) {y:ag} (p:eR B O off=some y):Good P o a w (aG Bw w0 ρ φ h w new y []):=by
 obtain⟨d,h1,Z⟩:=ht.hu;rw[hk]at Z;obtain⟨D,rfl,h3,h4⟩:=Z;subst h3;rw[List.getElem?_map]at q;obtain⟨c,E,I⟩:∃c,D.toList[f]? = some c∧(c.offset,c.type)=(off,C):=by
  cases hq:D.toList[f]? with
  | none=>rw[hq]at q;cases q
  | some c=>rw[hq]at q;exact⟨c,rfl,by simpa using q⟩
 cases I;have J:D[f]? = some c:=by simpa using E
 simp only[V]at X;obtain⟨vs,hv,a1,A⟩:=X;obtain⟨v,hr,L⟩:∃v,(part c.type vs c.offset).run P w = .ok v w∧V (Fr (own φ h) Bw w) ρ y v:=by
  unfold eR at p;unfold part;rw[Sem.run_bind,lf z];simp only[Result.andThen_ok];split at p
  ·rename_i e;split at p
   ·rename_i a2;cases p;refine⟨.agg (vs.extract c.offset (c.offset+B.size)),?_,?_⟩
    ·rw[if_pos e,Sem.run_bind,run_sizeOf z];rfl
    ·simp only[V];refine⟨_,rfl,by simp only[Array.size_extract,List.length_take,List.length_drop];omega,VL.mono (fun _ _ _ h=>h) (fun _ _ h=>h) (fun k u hk=>hk) (VL.mk fun k x j=>?_)⟩;rw[List.getElem?_take]at j;split at j
     ·rename_i a3;rw[List.getElem?_drop]at j;obtain⟨u,M,N⟩:=VL.get A j;exact⟨u,by rw[Array.getElem?_extract,if_pos (by omega)];exact M,N⟩
     ·cases j
   ·cases p
  ·rename_i e;obtain⟨u,M,N⟩:=VL.get A p;refine⟨u,?_,N⟩;rw[if_neg (by simpa using e),M];rfl
 refine Good.aH (v:=v) (w':=w) ?_ (aG.pure m L);simp[execOp,ho,Instr.field,run_underlying h1,J,hv,asAgg,hr]
end
end Go.Tv
