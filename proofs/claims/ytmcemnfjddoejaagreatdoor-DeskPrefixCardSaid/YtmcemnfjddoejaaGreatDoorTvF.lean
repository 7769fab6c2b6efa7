/- Operations on memory: new variables, loads, stores, addresses. -/
import Derived.Test.YtmcemnfjddoejaaGreatDoorTvDm
namespace Go.Tv
open Go Go.RowKit
section
variable{P:Program}{Bw:Nat→Prop}{w0:b9 P}{ρ:Nat→Option Value}{φ:Nat→Nat→Prop}{h:Nat→Option Obj}{w:World}{new:Nat}
theorem OR.J9{F:Bool→Addr→Value→Prop}{S:Nat→Prop}{o:Obj}{u:Value}(h:OR F ρ S w o u)(hl:o.live=true){k:Nat}(c:iB u=some k):k<w.heap.size:=by
 have key:∀g (x:Go.Obj),w.heap[g]? = some x→g<w.heap.size:=fun g x B=>by
  rcases Nat.lt_or_ge g w.heap.size with h' | h'
  ·exact h'
  ·rw[Array.getElem?_eq_none h']at B;cases B
 cases o with
 | arr e A p =>
  obtain⟨_,_,cells,⟨_,q⟩,_⟩:=h;rcases q with⟨rfl,_⟩ | ⟨g,cap,m,rfl,_,z,_⟩
  ·simp[iB]at c
  ·simp only[iB,Option.some.injEq]at c;subst c;exact key _ _ z
 | fz A p=>simp[Obj.live]at hl
 | cutz A p=>simp[Obj.live]at hl
 | lmp k n p C =>
  obtain⟨g,t,cells,rfl,_,j,_⟩:=h;simp only[iB,Option.some.injEq]at c;subst c;exact key _ _ j
 | vrow n sz C =>
  obtain⟨g,t,cells,rfl,_,j,_⟩:=h;simp only[iB,Option.some.injEq]at c;subst c;exact key _ _ j
 | box C =>
  obtain⟨g,t,cells,rfl,_,j,_⟩:=h;simp only[iB,Option.some.injEq]at c;subst c;exact key _ _ j
 | mpo K A D =>
  obtain⟨r,E,clock,rfl,_,j,_⟩:=h;simp only[iB,Option.some.injEq]at c;subst c;exact key _ _ j
 | mpl K D =>
  obtain⟨r,E,clock,rfl,_,j,_⟩:=h;simp only[iB,Option.some.injEq]at c;subst c;exact key _ _ j
 | mat e J A I L =>
  obtain⟨_,_,_,cells,⟨_,q⟩,_⟩:=h;rcases q with⟨rfl,_⟩ | ⟨g,cap,m,rfl,_,z,_⟩
  ·simp[iB]at c
  ·simp only[iB,Option.some.injEq]at c;subst c;exact key _ _ z
 | bytes e p =>
  rcases h with⟨rfl,_⟩ | ⟨g,cap,m,mk,rfl,_,j,_⟩
  ·simp[iB]at c
  ·simp only[iB,Option.some.injEq]at c;subst c;exact key _ _ j
theorem eH(m:Mem Bw w0 ρ φ h w){w':World}(q:Option Nat)(j:Nat)(z:Obj)(u1:Value)(A:Nat→Prop)(row:Option Nat)
  (J:w.grownBy w' row)
  (L:∀k,row=some k→∃i o,q=some i∧h i=some o∧o.live=true∧φ i k)
  (c:ρ j=none∨(q=some j∧ρ j=some u1))
  (C:z.live=true→∀k,A k→k<w'.heap.size)
  (hb:z.live=true→∀k,A k→w.heap.size≤k∨∃i o,q=some i∧h i=some o∧o.live=true∧φ i k)
  (M:∀F' f,(∀β a v,Fr (own φ h) Bw w β a v→F' β a v)→(∀i u,ρ i=some u→f i=some u)→OR F' f A w' z u1)
  {x:ag} {v:Value} {u:hZ} (hu:apply u h=bH (fun i=>if q=some i then none else h i) j (some z))
  (B:ρ j=none→j=new)
  (N:∀F' f,(∀β a v,Fr (own φ h) Bw w β a v→F' β a v)→(∀i u,ρ i=some u→f i=some u)→f j=some u1→V F' f x v) :
  aE Bw w0 ρ φ h w new x u v w':=by
 obtain⟨O,E,I⟩:=m.put q j z u1 A row J L c C hb M;refine⟨bH ρ j (some u1),bH φ j A,by rw[hu];exact O,by rw[hu];exact E,I,fun i u hi=> ?_,N _ _ (by rw[hu];exact E) I (aw _ _ _)⟩;by_cases e:i=j
 ·subst e;rcases c with D | ⟨_,D⟩
  ·exact .inr ⟨0,by omega,B D⟩
  ·rw[aw]at hi;exact .inl (by rw[D,hi])
 ·rw[aB _ _ e]at hi;exact .inl hi
theorem cQ(m:Mem Bw w0 ρ φ h w){w':World}(C:Option Nat)(z:Nat)(D:Obj)(u1:Value)(row:Option Nat)
  (L:w.grownBy w' row)
  (I:∀k,row=some k→∃i o,C=some i∧h i=some o∧o.live=true∧φ i k)
  (j:ρ z=none∨(C=some z∧ρ z=some u1))
  (hb:D.live=true→∀k,iB u1=some k→w.heap.size≤k∨row=some k)
  (J:∀F' f,(∀β a v,Fr (own φ h) Bw w β a v→F' β a v)→(∀i u,ρ i=some u→f i=some u)→OR F' f (fun k=>iB u1=some k) w' D u1)
  {x:ag} {v:Value} {u:hZ} (hu:apply u h=bH (fun i=>if C=some i then none else h i) z (some D))
  (B:ρ z=none→z=new)
  (M:∀F' f,(∀β a v,Fr (own φ h) Bw w β a v→F' β a v)→(∀i u,ρ i=some u→f i=some u)→f z=some u1→V F' f x v) :
  aE Bw w0 ρ φ h w new x u v w' :=
 eH m C z D u1 (fun k=>iB u1=some k) row L I j
  (fun hl k E=>OR.J9 (J (fun _ _ _=>True) (fun i=>(ρ i)) (fun _ _ _ _=>trivial) (fun _ _ h=>h)) hl E)
  (fun hl k E=>(hb hl k E).imp id (fun e=>I k e)) J hu B M
theorem aE.after{u1 u2:hZ}{j:Nat→Option Obj}(e:apply u1 h=j)(I:∀β a v,Fr (own φ h) Bw w β a v→Fr (own φ j) Bw w β a v){x:ag}{v:Value}{w':World}
  (J:aE Bw w0 ρ φ j w new x u2 v w'):aE Bw w0 ρ φ h w new x (u1++u2) v w':=by
 subst e;obtain⟨z,B,C,D,L,M,E⟩:=J;rw[←gG]at C D E;exact⟨z,B,C,fun β a v N=>D _ _ _ (I _ _ _ N),L,M,E⟩
theorem BQ(m:Mem Bw w0 ρ φ h w)(z:ρ new=none){j:List ag}{arr:Array Value}{q:TypeId}(A:arr.size=j.length)
  (hl:VL (Fr (own φ h) Bw w) ρ j (fun k u=>arr[k]? = some u)) (sz:Nat) :
  aE Bw w0 ρ φ h w new (.adr new 0 sz 0) [(new,some (.box j))] (.pointer (some ⟨w.heap.size,0,none⟩)) (w.alloc (.cells arr q)):=by
 refine cQ m none new (.box j) (.pointer (some ⟨w.heap.size,0,none⟩)) none (World.grownBy_alloc w _ none) (fun k e=>by cases e) (.inl z) (fun _ k B=> ?_) (fun F' p x c=> ?_)
  (by rw[bn];rfl) (fun _=>rfl) (fun F' p x c f=> ?_)
 ·simp only[iB,Option.some.injEq]at B;exact .inl (by omega)
 ·exact⟨_,q,arr,rfl,rfl,heap_alloc_new w _,A,VL.mono x c (fun _ _ h=>h) hl⟩
 ·simp only[V];exact⟨_,.inl f,by simp⟩
theorem C6(m:Mem Bw w0 ρ φ h w)(e:ρ new=none){o:Oper}{a:Act}{t:TypeId}{ti:TI}(f:aQ P t ti)(j:o.op = .alloc t):
  Good P o a w (aE Bw w0 ρ φ h w new (.adr new 0 ti.size 0) [(new,some (.box ti.z))]):=by
 obtain⟨z,k,c,p,q⟩:=dg f w;refine Good.aH (v:= .pointer (some ⟨w.heap.size,0,none⟩)) (w':=w.alloc (.cells z.cells t)) ?_ (BQ m e (by rw[←c];simp) ?_ _)
 ·simp[execOp,j,Instr.alloc,k,newVar,newRow]
 ·rw[←c];have:=g9 (F:=Fr (own φ h) Bw w) (ρ:=ρ) z.cells.toList;simpa using this
theorem Hk(m:Mem Bw w0 ρ φ h w)(e:ρ new=none){o:Oper}{a:Act}{t:TypeId}{c:Operand}{x:ag}(f:V (Fr (own φ h) Bw w) ρ x (a.eval c))(j:(cellsOf x).all ag.cell=true)
  (p:o.op = .box t c) (sz:Nat):Good P o a w (aE Bw w0 ρ φ h w new (.adr new 0 sz 0) [(new,some (.box (cellsOf x)))]):=by
 obtain⟨q,z,C⟩:=fA j f;refine Good.aH (v:= .pointer (some ⟨w.heap.size,0,none⟩)) (w':=w.alloc (.cells (a.eval c).cells t)) ?_ (BQ m e (by simpa using z) (VL.mono (fun _ _ _ h=>h) (fun _ _ h=>h) (fun k u B=>by simpa using B) q) _);simp[execOp,p,Instr.box,newVar,newRow]
def kE(h:Nat→Option Obj):ag→Option (List ag×Nat×Prop)
 | .adr id i sz off=>match h id with
  | some (.box cs)=>some (cs,i*sz+off,True)
  | some (.arr _ A e)=>if sz=A.size then some (flat false A (e.getD i A.zero),off,i<e.length)else none
  | some (.fz A e)=>if sz=A.size then some (flat false A (e.getD i A.zero),off,i<e.length)else none
  | _=>none
 | .fad _ cs off=>if cs.all ag.cell then some (cs,off,True)else none
 | _=>none
theorem xj{F:Bool→Addr→Value→Prop}{A:Ty}{c:List A.den}{i:Nat}{g:Nat→Value→Prop}(hi:i<c.length)(f:ai (F false) A c[i] g):VL F ρ (flat false A (c.getD i A.zero)) g:=by
 have e:c.getD i A.zero=c[i]:=by simp[hi]
 rw[e];exact jE false A _ _ f
theorem mj(m:Mem Bw w0 ρ φ h w){x:ag}{v:Value}(I:V (Fr (own φ h) Bw w) ρ x v){cs:List ag}{off:Nat}{c:Prop}(j:kE h x=some (cs,off,c))(p:c):
  ∃C:Addr,v = .pointer (some (C.add off))∧VL (Fr (own φ h) Bw w) ρ cs (fun k u=>w.cell? (C.add k)=some u):=by
 unfold kE at j;split at j
 ·rename_i id i sz R;simp only[V]at I;obtain⟨g,f,rfl⟩:=I;split at j
  ·rename_i Z hi;cases j;obtain⟨u,B,J,X,cells,rfl,a1,L,Y,r3⟩:=m.ob id _ hi;rw[B]at f;have M:J=g:=by
    rcases f with f | ⟨n,c,f⟩
    ·simpa using f
    ·cases f
   subst M;refine⟨⟨J,0,none⟩,by rw[ca,Nat.zero_add],VL.mono (fun _ _ _ h=>h) (fun _ _ h=>h) (fun k u q=> ?_) r3⟩;rw[ca,Nat.zero_add,cell_of_row w J k cells X (0,0) L];exact q
  ·rename_i X A xs hi;split at j
   ·rename_i e;cases j;obtain⟨u,B,z⟩:=m.ob id _ hi;obtain⟨_,_,cells,L,Y⟩:=z;have D:=L.cells (g:=g);have N:u.ownBlock=some g:=by
     rcases L.2 with⟨rfl,hn⟩ | ⟨J,cap,a2,rfl,_⟩
     ·omega
     ·rw[B]at f;rcases f with f | ⟨n,c,f⟩
      ·cases f
      ·simp only[Option.some.injEq,Value.slice.injEq]at f;obtain⟨f,_⟩:=f;cases f;rfl
    refine⟨⟨g,i*A.size,none⟩,by rw[ca,e],xj p (ai.mono (fun _ _ h=>h) (fun k u q=> ?_) (Y i p))⟩;have:=D N _ _ q;rw[ca,Nat.zero_add]at this;rw[ca];exact this
   ·cases j
  ·rename_i A xs hi;split at j
   ·rename_i e;cases j;obtain⟨u,B,z⟩:=m.ob id _ hi;simp only[OR,V,ai]at z;obtain⟨_,C,len,cap,rfl,hl,z⟩:=z;obtain⟨b,hb,q3⟩:=z i p;subst hb;rw[B]at f;have O:b=⟨g,0,none⟩:=by
     rcases f with f | ⟨n,c,f⟩
     ·cases f
     ·simp only[Option.some.injEq,Value.slice.injEq]at f;exact f.1
    subst O;refine⟨⟨g,i*A.size,none⟩,by rw[ca,e],xj p (ai.mono (fun _ _ h=>h) (fun k u q=> ?_) q3)⟩;rw[ca,Nat.zero_add]at q;rw[ca];exact q.2.2
   ·cases j
  ·cases j
 ·split at j
  ·rename_i E;cases j;simp only[V]at I;obtain⟨C,rfl,hl⟩:=I;refine⟨C,rfl,VL.mk fun k x q=> ?_⟩;obtain⟨u,B,z⟩:=VL.get hl q;exact⟨u,World.ji B.2.2 (rz (List.all_eq_true.1 E _ (List.mem_of_getElem? q)) z),z⟩
  ·cases j
 ·cases j
theorem Ff(m:Mem Bw w0 ρ φ h w){o:Oper}{a:Act}{t:TypeId}{ti:TI}(k:aQ P t ti){f:Operand}{x:ag}(p:V (Fr (own φ h) Bw w) ρ x (a.eval f))(q:o.op = .load t f)
  {j:List ag} {off:Nat} {c:Prop} (u:kE h x=some (j,off,c)) (e:c) {y:ag} (z:dV ti j off=some y):Good P o a w (aE Bw w0 ρ φ h w new y []):=by
 obtain⟨I,B,C⟩:=mj m p u e;obtain⟨v,D,E⟩:=gn (P:=P) k C z;refine Good.aH (v:=v) (w':=w) ?_ (aE.pure m E);simp[execOp,q,Instr.loadAt,B,Instr.sureAddr,D]
theorem oG(m:Mem Bw w0 ρ φ h w){o:Oper}{a:Act}{t:TypeId}{ti:TI}(O:aQ P t ti){z:Operand}{x:ag}(u:V (Fr (own φ h) Bw w) ρ x (a.eval z)){f:Nat}(R:o.op = .fieldAddr t z f)
  {J:List (Nat×TypeId)} (X:ti.k = .st J) {off:Nat} {L:TypeId} (e:J[f]? = some (off,L)) {y:ag}
  (Y:(∃id i sz k,x = .adr id i sz k∧y = .adr id i sz (k+off))∨(∃β B k,x = .fad β B k∧y = .fad β B (k+off))):Good P o a w (aE Bw w0 ρ φ h w new y []):=by
 obtain⟨d,Z,M⟩:=O.hu;rw[X]at M;obtain⟨C,rfl,h3,h4⟩:=M;subst h3;rw[List.getElem?_map]at e;obtain⟨c,j,D⟩:∃c,C.toList[f]? = some c∧(c.offset,c.type)=(off,L):=by
  cases N:C.toList[f]? with
  | none=>rw[N]at e;cases e
  | some c=>rw[N]at e;exact⟨c,rfl,by simpa using e⟩
 cases D;have E:C[f]? = some c:=by simpa using j
 obtain⟨i,hi,I⟩:=h4 c (List.mem_of_getElem? j);have key:∀p:Addr,a.eval z = .pointer (some p)→(execOp a.eval o).run P w = .ok (.value (.pointer (some (p.add c.offset)))) w:=fun p q=>by simp[execOp,R,Instr.fieldAt,run_underlying Z,E,q,Instr.sureAddr,fieldPlace,sizeOf,typeInfo,hi,I]
 rcases Y with⟨id,i,sz,k,rfl,rfl⟩ | ⟨β,B,k,rfl,rfl⟩
 ·simp only[V]at u;obtain⟨g,hg,q⟩:=u;refine Good.aH (key _ q) (aE.pure m ?_);simp only[V];exact⟨g,hg,by rw[ca,Nat.add_assoc]⟩
 ·simp only[V]at u;obtain⟨p,q,hl⟩:=u;refine Good.aH (key _ q) (aE.pure m ?_);simp only[V];exact⟨p,by rw[add_add],hl⟩
def wO(T':Ty):(T:Ty)→T.den→Nat→Option T'.den
 | T,x,off=>if h:T=T'∧off=0 then some (h.1 ▸ x)else match T,x with
  | .prod a b,x=>if off<a.size then wO T' a x.1 off else wO T' b x.2 (off - a.size)
  | _,_=>none
theorem BC{F:Addr→Value→Prop}{T':Ty}:∀ {T:Ty} {x:T.den} {off:Nat} {y:T'.den},wO T' T x off=some y→∀ {g:Nat→Value→Prop},ai F T x g→ai F T' y (fun k u=>g (off+k) u):=fun {T}=>by
 induction T with
 | prod a b e f =>
  intro x off y h g c;unfold wO at h;split at h
  ·rename_i j;obtain⟨rfl,rfl⟩:=j;cases h;exact ai.mono (fun _ _ h=>h) (fun k u m=>by rwa [Nat.zero_add]) c
  ·simp only at h;split at h
   ·exact e h c.1
   ·rename_i p;refine ai.mono (fun _ _ h=>h) (fun k u m=> ?_) (f h c.2);rwa [←Nat.add_assoc,Nat.add_sub_cancel' (Nat.le_of_not_lt p)]at m
 | _ =>
  intro x off y h g c;unfold wO at h;split at h
  ·rename_i j;obtain⟨rfl,rfl⟩:=j;cases h;exact ai.mono (fun _ _ h=>h) (fun k u m=>by rwa [Nat.zero_add]) c
  ·simp only at h;cases h
theorem yt(m:Mem Bw w0 ρ φ h w){o:Oper}{a:Act}{t:TypeId}{ti:TI}(L:aQ P t ti){xo:Operand}{β:Bool}{T:Ty}{x:T.den}(B:V (Fr (own φ h) Bw w) ρ (.loc β T x) (a.eval xo)){f:Nat}(M:o.op = .fieldAddr t xo f)
  {C:List (Nat×TypeId)} (D:ti.k = .st C) {off:Nat} {E:TypeId} (e:C[f]? = some (off,E)) {T':Ty} {y:T'.den} (N:wO T' T x off=some y):Good P o a w (aE Bw w0 ρ φ h w new (.loc β T' y) []):=by
 obtain⟨d,O,I⟩:=L.hu;rw[D]at I;obtain⟨p,rfl,R,X⟩:=I;subst R;rw[List.getElem?_map]at e;obtain⟨c,j,q⟩:∃c,p.toList[f]? = some c∧(c.offset,c.type)=(off,E):=by
  cases J:p.toList[f]? with
  | none=>rw[J]at e;cases e
  | some c=>rw[J]at e;exact⟨c,rfl,by simpa using e⟩
 cases q;have z:p[f]? = some c:=by simpa using j
 obtain⟨i,hi,A⟩:=X c (List.mem_of_getElem? j);simp only[V]at B;obtain⟨Y,Z,hv⟩:=B;refine Good.aH (v:= .pointer (some (Y.add c.offset))) (w':=w) (by simp[execOp,M,Instr.fieldAt,run_underlying O,z,Z,Instr.sureAddr,fieldPlace,sizeOf,typeInfo,hi,A]) (aE.pure m ?_);simp only[V];exact⟨_,rfl,ai.mono (fun _ _ h=>h) (fun k u D=>by rwa [add_add]) (BC N hv)⟩
theorem zC(m:Mem Bw w0 ρ φ h w){o:Oper}{a:Act}{t:TypeId}{ti:TI}(D:aQ P t ti){xo:Operand}{β:Bool}{T:Ty}{x:T.den}(E:V (Fr (own φ h) Bw w) ρ (.loc β T x) (a.eval xo))(J:o.op = .load t xo)
  (hT:ti.T=some T) (A:T.scalar=true):Good P o a w (aE Bw w0 ρ φ h w new (.p β T x) []):=by
 simp only[V]at E;obtain⟨ad,L,M⟩:=E;have f:=jE (ρ:=ρ) β T x _ M;have j:flat β T x=[.p (if T.isRef then β else false) T x]∨flat β T x=[.p β T x]:=by cases T <;> simp[Ty.scalar]at A <;> simp[flat,Ty.isRef]
 obtain⟨N,q,_⟩:=D.hT T hT;have z:ti.k.agg=false:=by rw[A]at q;simpa using q.symm
 have O:∀y:ag,flat β T x=[y]→V (Fr (own φ h) Bw w) ρ y=V (Fr (own φ h) Bw w) ρ y:=fun _ _=>rfl
 obtain⟨u,hu,R⟩:∃u,w.cell? (ad.add 0)=some u∧V (Fr (own φ h) Bw w) ρ (.p β T x) u:=by
  have X:T.size=1:=Ty.eS A;rcases j with e | e
  ·rw[e]at f;obtain⟨u,B,c⟩:=VL.get f (k:=0) rfl;refine⟨u,World.ji B.2.2 (rz rfl c),?_⟩;by_cases C:T.isRef=true
   ·simpa [C]using c
   ·simp only[C]at c;simp only[V]at c ⊢;exact⟨c.1,sb c.1 (by simpa using C) c.2⟩
  ·rw[e]at f;obtain⟨u,B,c⟩:=VL.get f (k:=0) rfl;exact⟨u,World.ji B.2.2 (rz rfl c),c⟩
 obtain⟨v,I,Y⟩:=gn (P:=P) (F:=Fr (own φ h) Bw w) (ρ:=ρ) (cs:=[.p β T x]) (off:=0) (x:= .p β T x) D (w:=w) (ad:=ad) (by
  simp only[VL];exact⟨⟨u,hu,R⟩,trivial⟩) (by unfold dV;rw[z];rfl)
 have Z:ad.add 0=ad:=by simp[Addr.add]
 rw[Z]at I;refine Good.aH (v:=v) (w':=w) ?_ (aE.pure m Y);simp[execOp,J,Instr.loadAt,L,Instr.sureAddr,I]
theorem yi(m:Mem Bw w0 ρ φ h w){o:Oper}{a:Act}{t e:TypeId}{ti q:TI}{n:Nat}(D:aQ P t ti)(E:ti.k = .ar n e)(u:aQ P e q)(x:q.size=1){xo io:Operand}{β:Bool}{k:IntKind}{f:ep n}
  (C:V (Fr (own φ h) Bw w) ρ (.loc β (.arr k n) f) (a.eval xo)) {z:Bool} {I:IntKind} {i:Int} (hi:V (Fr (own φ h) Bw w) ρ (.p z (.int I) i) (a.eval io)) (J:o.op = .indexAddr t xo io) (L:0≤i) (M:i<(n:Int)) :
  Good P o a w (aE Bw w0 ρ φ h w new (.loc β (.int k) (eP f i.toNat)) []):=by
 obtain⟨d,A,c⟩:=D.hu;rw[E]at c;simp only[UK]at c;subst c;simp only[V]at C;obtain⟨N,O,R⟩:=C;have B:=bV hi;refine Good.aH (v:= .pointer (some (N.add (i.toNat*q.size)))) (w':=w) (by simp[execOp,J,Instr.indexAt,asIntOf,B,O,run_underlying A,Instr.sureAddr,run_sizeOf u,L,M]) (aE.pure m ?_);simp only[V];refine⟨_,rfl,?_⟩;have j:i.toNat<f.1.length:=by rw[f.2];omega
 have X:=R i.toNat j;simp only[ai];rw[add_add,x,Nat.mul_one,Nat.add_zero];have e:eP f i.toNat=f.1[i.toNat]:=by simp[eP,j]
 rw[e];exact X
theorem tX(m:Mem Bw w0 ρ φ h w){o:Oper}{a:Act}{t e:TypeId}{ti q:TI}(D:aQ P t ti)(x:ti.k = .sl e)(z:aQ P e q){xo io:Operand}{β:Bool}{A:Ty}{c:List A.den}(j:V (Fr (own φ h) Bw w) ρ (.p β (.slice A) c) (a.eval xo))
  {B:Bool} {k:IntKind} {i:Int} (hi:V (Fr (own φ h) Bw w) ρ (.p B (.int k) i) (a.eval io)) (E:o.op = .indexAddr t xo io) (C:A.size=q.size) (I:0≤i) (J:i<c.length) :
  Good P o a w (aE Bw w0 ρ φ h w new (.loc β A (c.getD i.toNat A.zero)) []):=by
 have hu:=bd D x;have L:=bV hi;simp only[V,ai]at j;obtain⟨_,O,len,cap,M,⟨hl,_⟩,j⟩:=j;have f:i.toNat<c.length:=by omega
 obtain⟨b,hb,N⟩:=j i.toNat f;subst hb;refine Good.aH (v:= .pointer (some (b.add (i.toNat*q.size)))) (w':=w) (by simp[execOp,E,Instr.indexAt,asIntOf,L,←M,run_underlying hu,run_sizeOf z,I,hl,J]) (aE.pure m ?_);simp only[V];refine⟨_,rfl,?_⟩;have e:c.getD i.toNat A.zero=c[i.toNat]:=by simp[f]
 rw[e];exact ai.mono (fun _ _ h=>h) (fun k u x=>by rw[add_add,←C];exact x) N
theorem BB(m:Mem Bw w0 ρ φ h w){o:Oper}{a:Act}{xo:Operand}{β:Bool}{A:Ty}{q:Option A.den}(c:V (Fr (own φ h) Bw w) ρ (.p β (.ptr A) q) (a.eval xo))(f:o.op = .nilCheck xo)(j:q.isSome=true):
  Good P o a w (aE Bw w0 ρ φ h w new (.loc β A (q.getD A.zero)) []):=by
 cases q with
 | none=>cases j
 | some y =>
  obtain⟨_,b,e,u⟩:_∧∃b:Addr,Value.pointer (some b)=a.eval xo∧ai (Fr (own φ h) Bw w β) A y (fun k v=>Fr (own φ h) Bw w β (b.add k) v):=by simpa only [V,ai]using c
  refine Good.aH (v:=a.eval xo) (w':=w) (by simp only[execOp,f,←e];rfl) (aE.pure m ?_);simp only[V,Option.getD_some];exact⟨b,e.symm,u⟩
theorem zS(m:Mem Bw w0 ρ φ h w){o:Oper}{a:Act}{xo:Operand}{β:Bool}{A:Ty}{x:A.den}(c:V (Fr (own φ h) Bw w) ρ (.loc β A x) (a.eval xo))(f:o.op = .nilCheck xo):
  Good P o a w (aE Bw w0 ρ φ h w new (.loc β A x) []):=by
 obtain⟨e,j,k⟩:∃e:Addr,a.eval xo = .pointer (some e)∧_:=by simpa only [V]using c
 exact Good.aH (v:=a.eval xo) (w':=w) (by simp only[execOp,f,j];rfl) (aE.pure m c)
def ze(h:Nat→Option Obj)(x:ag)(i:Int):Option (ag×Nat×Prop) :=
 match x with
 | .p β (.slice A) c=>some (.fad β (flat β A (c.getD i.toNat A.zero)) 0,A.size,0≤i∧i<c.length)
 | .sl id=>match h id with
  | some (.arr _ A c)=>some (.adr id i.toNat A.size 0,A.size,0≤i∧i<c.length)
  | some (.fz A c)=>some (.fad false (flat false A (c.getD i.toNat A.zero)) 0,A.size,0≤i∧i<c.length)
  | some (.mat _ _ _ e _)=>some (.adr id i.toNat 1 0,1,0≤i∧i<e.length)
  | some (.bytes _ c)=>some (.adr id i.toNat 1 0,1,0≤i∧i<c.length)
  | _=>none
 | _=>none
theorem xk(m:Mem Bw w0 ρ φ h w){o:Oper}{a:Act}{t e:TypeId}{ti J:TI}(ht:aQ P t ti)(R:ti.k = .sl e)(X:aQ P e J){O io:Operand}{x:ag}(I:V (Fr (own φ h) Bw w) ρ x (a.eval O))
  {β:Bool} {k:IntKind} {i:Int} (hi:V (Fr (own φ h) Bw w) ρ (.p β (.int k) i) (a.eval io)) (ho:o.op = .indexAddr t O io)
  {y:ag} {c:Prop} (z:ze h x i=some (y,J.size,c)) (D:c):Good P o a w (aE Bw w0 ρ φ h w new y []):=by
 have hu:=bd ht R;have he:=bV hi;have key:∀(b:Addr) (len cap:Nat),a.eval O = .slice (some b) len cap→0≤i→i<len→(execOp a.eval o).run P w = .ok (.value (.pointer (some (b.add (i.toNat*J.size))))) w:=fun b len cap hb h0 h1=>by simp[execOp,ho,Instr.indexAt,asIntOf,he,hb,run_underlying hu,run_sizeOf X,h0,h1]
 have data:∀(E:Bool) (A:Ty) (xs:List A.den),V (Fr (own φ h) Bw w) ρ (.p E (.slice A) xs) (a.eval O)→A.size=J.size→(0≤i∧i<xs.length) →
   Good P o a w (aE Bw w0 ρ φ h w new (.fad E (flat E A (xs.getD i.toNat A.zero)) 0) []):=fun E A xs I f D=>by
  simp only[V,ai]at I;obtain⟨_,ad,len,cap,hs,⟨hl,_⟩,I⟩:=I;have L:i.toNat<xs.length:=by omega
  obtain⟨b,hb,hv⟩:=I i.toNat L;subst hb;refine Good.aH (key b len cap hs.symm D.1 (by omega)) (aE.pure m ?_);simp only[V];refine⟨b.add (i.toNat*J.size),by simp[Addr.add],?_⟩;have e:xs.getD i.toNat A.zero=xs[i.toNat]:=by simp[L]
  rw[e];exact jE E A _ _ (ai.mono (fun _ _ h=>h) (fun k u R=>by rw[add_add,←f];exact R) hv)
 unfold ze at z;split at z
 ·simp only[Option.some.injEq,Prod.mk.injEq]at z;obtain⟨rfl,f,rfl⟩:=z;exact data _ _ _ I f D
 ·rename_i id;simp only[V]at I;obtain⟨B,_,_,_,_⟩:=I;split at z
  ·rename_i M A xs C;simp only[Option.some.injEq,Prod.mk.injEq]at z;obtain⟨rfl,f,rfl⟩:=z;obtain⟨u,j,Y,_,cells,Z,r2⟩:=m.ob id _ C;rw[B]at j;simp only[Option.some.injEq]at j;rcases Z.2 with⟨_,hn⟩ | ⟨g,cap,N,q,_⟩
   ·omega
   ·refine Good.aH (key ⟨g,0,none⟩ _ cap (j.trans q) D.1 D.2) (aE.pure m ?_);simp only[V];exact⟨g,.inr ⟨_,_,by rw[B,j,q]⟩,by rw[ca,f];simp⟩
  ·rename_i A xs C;simp only[Option.some.injEq,Prod.mk.injEq]at z;obtain⟨rfl,f,rfl⟩:=z;obtain⟨u,j,q2⟩:=m.ob id _ C;rw[B]at j;simp only[Option.some.injEq]at j;subst j;exact data _ _ _ q2 f D
  ·rename_i M e2 A a1 a2 C;simp only[Option.some.injEq,Prod.mk.injEq]at z;obtain⟨rfl,f,rfl⟩:=z;obtain⟨u,j,Y,_,_,cells,Z,r2⟩:=m.ob id _ C;rw[B]at j;simp only[Option.some.injEq]at j;rcases Z.2 with⟨_,hn⟩ | ⟨g,cap,N,q,_⟩
   ·omega
   ·refine Good.aH (key ⟨g,0,none⟩ _ cap (j.trans q) D.1 D.2) (aE.pure m ?_);simp only[V];exact⟨g,.inr ⟨_,_,by rw[B,j,q]⟩,by rw[ca,←f];simp⟩
  ·rename_i M xs C;simp only[Option.some.injEq,Prod.mk.injEq]at z;obtain⟨rfl,f,rfl⟩:=z;obtain⟨u,j,q2⟩:=m.ob id _ C;rw[B]at j;simp only[Option.some.injEq]at j;rcases q2 with⟨_,hn⟩ | ⟨g,cap,N,mk,q,_⟩
   ·subst hn;simp at D;omega
   ·refine Good.aH (key ⟨g,0,none⟩ _ cap (j.trans q) D.1 D.2) (aE.pure m ?_);simp only[V];exact⟨g,.inr ⟨_,_,by rw[B,j,q]⟩,by rw[ca,←f];simp⟩
  ·cases z
 ·cases z
end
end Go.Tv
