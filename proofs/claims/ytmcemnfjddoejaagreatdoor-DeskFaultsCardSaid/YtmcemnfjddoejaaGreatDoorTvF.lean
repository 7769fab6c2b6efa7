import Derived.Test.YtmcemnfjddoejaaGreatDoorTvDm
namespace Go.Tv
open Go Go.RowKit
section
variable{P:Program}{Bw:Nat→Prop}{w0:cu P}{ρ:Nat→QW}{φ:Nat→Nat→Prop}{h:Nat→Qz}{w:World}{new:Nat}
theorem OR.L3{F:Bool→Addr→Value→Prop}{S:Nat→Prop}{o:Obj}{u:Value}(h:OR F ρ S w o u)(hl:o.live=true){k:Nat}(hk:dg u=some k):k<w.heap.size:=by
 have key:∀g (x:Go.Obj),w.heap[g]? = some x→g<w.heap.size:=fun g x z=>by
  rcases Nat.lt_or_ge g w.heap.size with h' | h'
  ·exact h'
  ·rw[Array.getElem?_eq_none h']at z;cases z
 cases o with
 | arr e A xs =>
  obtain⟨_,_,cells,⟨_,j⟩,_⟩:=h;rcases j with⟨rfl,_⟩ | ⟨g,cap,p,rfl,_,q,_⟩
  ·simp[dg]at hk
  ·simp only[dg,Option.some.injEq]at hk;subst hk;exact key _ _ q
 | fz A xs=>simp[Obj.live]at hl
 | cutz A xs=>simp[Obj.live]at hl
 | lmp k n xs B =>
  obtain⟨g,t,cells,rfl,_,c,_⟩:=h;simp only[dg,Option.some.injEq]at hk;subst hk;exact key _ _ c
 | vrow n sz B =>
  obtain⟨g,t,cells,rfl,_,c,_⟩:=h;simp only[dg,Option.some.injEq]at hk;subst hk;exact key _ _ c
 | nds e E L I =>
  obtain⟨_,_,cells,⟨_,j⟩,_⟩:=h;rcases j with⟨rfl,_⟩ | ⟨g,cap,p,rfl,_,q,_⟩
  ·simp[dg]at hk
  ·simp only[dg,Option.some.injEq]at hk;subst hk;exact key _ _ q
 | mpq b C =>
  obtain⟨_,_,j⟩:=h;cases b with
  | false=>obtain⟨rfl,_⟩:=j;simp[dg]at hk
  | true =>
   obtain⟨r,D,clock,rfl,q,_⟩:=j;simp only[dg,Option.some.injEq]at hk;subst hk;exact key _ _ q
 | box B =>
  obtain⟨g,t,cells,rfl,_,c,_⟩:=h;simp only[dg,Option.some.injEq]at hk;subst hk;exact key _ _ c
 | mpo K A C =>
  obtain⟨r,D,clock,rfl,_,c,_⟩:=h;simp only[dg,Option.some.injEq]at hk;subst hk;exact key _ _ c
 | mpl K C =>
  obtain⟨r,D,clock,rfl,_,c,_⟩:=h;simp only[dg,Option.some.injEq]at hk;subst hk;exact key _ _ c
 | mat e E A J I =>
  obtain⟨_,_,_,cells,⟨_,j⟩,_⟩:=h;rcases j with⟨rfl,_⟩ | ⟨g,cap,p,rfl,_,q,_⟩
  ·simp[dg]at hk
  ·simp only[dg,Option.some.injEq]at hk;subst hk;exact key _ _ q
 | bytes e xs =>
  rcases h with⟨rfl,_⟩ | ⟨g,cap,p,mk,rfl,_,c,_⟩
  ·simp[dg]at hk
  ·simp only[dg,Option.some.injEq]at hk;subst hk;exact key _ _ c
theorem dW(m:Mem Bw w0 ρ φ h w){w':World}(z:QJ)(q:Nat)(o1:Obj)(u1:Value)(A:Nat→Prop)(row:QJ)
  (J:w.grownBy w' row)
  (L:∀k,row=some k→∃i o,z=some i∧h i=some o∧o.live=true∧φ i k)
  (f:ρ q=none∨(z=some q∧ρ q=some u1))
  (C:o1.live=true→∀k,A k→k<w'.heap.size)
  (hb:o1.live=true→∀k,A k→w.heap.size≤k∨∃i o,z=some i∧h i=some o∧o.live=true∧φ i k)
  (M:∀F' j,(∀β a v,Fr (own φ h) Bw w β a v→F' β a v)→(∀i u,ρ i=some u→j i=some u)→OR F' j A w' o1 u1)
  {x:ag} {v:Value} {u:hD} (hu:apply u h=bq (fun i=>if z=some i then none else h i) q (some o1))
  (B:ρ q=none→q=new)
  (N:∀F' j,(∀β a v,Fr (own φ h) Bw w β a v→F' β a v)→(∀i u,ρ i=some u→j i=some u)→j q=some u1→V F' j x v) :
  aG Bw w0 ρ φ h w new x u v w':=by
 obtain⟨O,E,I⟩:=m.put z q o1 u1 A row J L f C hb M;refine⟨bq ρ q (some u1),bq φ q A,by rw[hu];exact O,by rw[hu];exact E,I,fun i u hi=>?_,N _ _ (by rw[hu];exact E) I (ao _ _ _)⟩;by_cases e:i=q
 ·subst e;rcases f with D | ⟨_,D⟩
  ·exact .inr ⟨0,by omega,B D⟩
  ·rw[ao]at hi;exact .inl (by rw[D,hi])
 ·rw[aD _ _ e]at hi;exact .inl hi
theorem cN(m:Mem Bw w0 ρ φ h w){w':World}(C:QJ)(z:Nat)(o1:Obj)(u1:Value)(row:QJ)
  (I:w.grownBy w' row)
  (D:∀k,row=some k→∃i o,C=some i∧h i=some o∧o.live=true∧φ i k)
  (j:ρ z=none∨(C=some z∧ρ z=some u1))
  (hb:o1.live=true→∀k,dg u1=some k→w.heap.size≤k∨row=some k)
  (E:∀F' f,(∀β a v,Fr (own φ h) Bw w β a v→F' β a v)→(∀i u,ρ i=some u→f i=some u)→OR F' f (fun k=>dg u1=some k) w' o1 u1)
  {x:ag} {v:Value} {u:hD} (hu:apply u h=bq (fun i=>if C=some i then none else h i) z (some o1))
  (B:ρ z=none→z=new)
  (J:∀F' f,(∀β a v,Fr (own φ h) Bw w β a v→F' β a v)→(∀i u,ρ i=some u→f i=some u)→f z=some u1→V F' f x v) :
  aG Bw w0 ρ φ h w new x u v w' :=
 dW m C z o1 u1 (fun k=>dg u1=some k) row I D j
  (fun hl k hk=>OR.L3 (E (fun _ _ _=>True) (fun i=>(ρ i)) (fun _ _ _ _=>trivial) (fun _ _ h=>h)) hl hk)
  (fun hl k hk=>(hb hl k hk).imp id (fun e=>D k e)) E hu B J
theorem aG.after{u1 u2:hD}{j:Nat→Qz}(e:apply u1 h=j)(I:∀β a v,Fr (own φ h) Bw w β a v→Fr (own φ j) Bw w β a v){x:ag}{v:Value}{w':World}
  (J:aG Bw w0 ρ φ j w new x u2 v w'):aG Bw w0 ρ φ h w new x (u1++u2) v w':=by
 subst e;obtain⟨z,B,C,D,L,M,E⟩:=J;rw[←eL]at C D E;exact⟨z,B,C,fun β a v N=>D _ _ _ (I _ _ _ N),L,M,E⟩
theorem DV(m:Mem Bw w0 ρ φ h w)(hn:ρ new=none){j:List ag}{arr:QU}{q:TypeId}(z:arr.size=j.length)
  (hl:VL (Fr (own φ h) Bw w) ρ j (fun k u=>arr[k]? = some u)) (sz:Nat) :
  aG Bw w0 ρ φ h w new (.adr new 0 sz 0) [(new,some (.box j))] (.pointer (some ⟨w.heap.size,0,none⟩)) (w.alloc (.cells arr q)):=by
 refine cN m none new (.box j) (.pointer (some ⟨w.heap.size,0,none⟩)) none (World.grownBy_alloc w _ none) (fun k e=>by cases e) (.inl hn) (fun _ k hk=>?_) (fun F' p x c=>?_)
  (by rw[bp];rfl) (fun _=>rfl) (fun F' p x c f=>?_)
 ·simp only[dg,Option.some.injEq]at hk;exact .inl (by omega)
 ·exact⟨_,q,arr,rfl,rfl,heap_alloc_new w _,z,VL.mono x c (fun _ _ h=>h) hl⟩
 ·simp only[V];exact⟨_,.inl f,by simp⟩
theorem Fi(m:Mem Bw w0 ρ φ h w)(hn:ρ new=none){o:Oper}{a:Act}{t:TypeId}{ti:TI}(ht:aP P t ti)(e:o.op = .alloc t):
  Good P o a w (aG Bw w0 ρ φ h w new (.adr new 0 ti.size 0) [(new,some (.box ti.z))]):=by
 obtain⟨z,f,c,j,p⟩:=dy ht w;refine Good.aH (v:= .pointer (some ⟨w.heap.size,0,none⟩)) (w':=w.alloc (.cells z.cells t)) ?_ (DV m hn (by rw[←c];simp) ?_ _)
 ·simp[execOp,e,Instr.alloc,f,newVar,newRow]
 ·rw[←c];have:=gv (F:=Fr (own φ h) Bw w) (ρ:=ρ) z.cells.toList;simpa using this
theorem Ji(m:Mem Bw w0 ρ φ h w)(hn:ρ new=none){o:Oper}{a:Act}{t:TypeId}{c:Operand}{x:ag}(e:V (Fr (own φ h) Bw w) ρ x (a.eval c))(f:(cellsOf x).all ag.cell=true)
  (j:o.op = .box t c) (sz:Nat):Good P o a w (aG Bw w0 ρ φ h w new (.adr new 0 sz 0) [(new,some (.box (cellsOf x)))]):=by
 obtain⟨p,q,z⟩:=fV f e;refine Good.aH (v:= .pointer (some ⟨w.heap.size,0,none⟩)) (w':=w.alloc (.cells (a.eval c).cells t)) ?_ (DV m hn (by simpa using q) (VL.mono (fun _ _ _ h=>h) (fun _ _ h=>h) (fun k u hk=>by simpa using hk) p) _);simp[execOp,j,Instr.box,newVar,newRow]
def kN(h:Nat→Qz):ag→Option (List ag×Nat×Prop)
 | .adr id i sz off=>match h id with
  | some (.box cs)=>some (cs,i*sz+off,True)
  | some (.arr _ A e)=>if sz=A.size then some (flat false A (e.getD i A.zero),off,i<e.length)else none
  | some (.fz A e)=>if sz=A.size then some (flat false A (e.getD i A.zero),off,i<e.length)else none
  | _=>none
 | .fad _ cs off=>if cs.all ag.cell then some (cs,off,True)else none
 | _=>none
theorem wV{F:Bool→Addr→Value→Prop}{A:Ty}{c:List A.den}{i:Nat}{g:Nat→Value→Prop}(hi:i<c.length)(f:ai (F false) A c[i] g):VL F ρ (flat false A (c.getD i A.zero)) g:=by
 have e:c.getD i A.zero=c[i]:=by simp[hi]
 rw[e];exact jJ false A _ _ f
theorem mT(m:Mem Bw w0 ρ φ h w){x:ag}{v:Value}(E:V (Fr (own φ h) Bw w) ρ x v){cs:List ag}{off:Nat}{c:Prop}(j:kN h x=some (cs,off,c))(p:c):
  ∃B:Addr,v = .pointer (some (B.add off))∧VL (Fr (own φ h) Bw w) ρ cs (fun k u=>w.cell? (B.add k)=some u):=by
 unfold kN at j;split at j
 ·rename_i id i sz O;simp only[V]at E;obtain⟨g,f,rfl⟩:=E;split at j
  ·rename_i Z hi;cases j;obtain⟨u,z,I,X,cells,rfl,a1,J,Y,r3⟩:=m.ob id _ hi;rw[z]at f;have L:I=g:=by
    rcases f with f | ⟨n,c,f⟩
    ·simpa using f
    ·cases f
   subst L;refine⟨⟨I,0,none⟩,by rw[cf,Nat.zero_add],VL.mono (fun _ _ _ h=>h) (fun _ _ h=>h) (fun k u hk=>?_) r3⟩;rw[cf,Nat.zero_add,cell_of_row w I k cells X (0,0) J];exact hk
  ·rename_i X A xs hi;split at j
   ·rename_i e;cases j;obtain⟨u,z,q⟩:=m.ob id _ hi;obtain⟨_,_,cells,J,Y⟩:=q;have C:=J.cells (g:=g);have M:u.ownBlock=some g:=by
     rcases J.2 with⟨rfl,hn⟩ | ⟨I,cap,a2,rfl,_⟩
     ·omega
     ·rw[z]at f;rcases f with f | ⟨n,c,f⟩
      ·cases f
      ·simp only[Option.some.injEq,Value.slice.injEq]at f;obtain⟨f,_⟩:=f;cases f;rfl
    refine⟨⟨g,i*A.size,none⟩,by rw[cf,e],wV p (ai.mono (fun _ _ h=>h) (fun k u hk=>?_) (Y i p))⟩;have:=C M _ _ hk;rw[cf,Nat.zero_add]at this;rw[cf];exact this
   ·cases j
  ·rename_i A xs hi;split at j
   ·rename_i e;cases j;obtain⟨u,z,q⟩:=m.ob id _ hi;simp only[OR,V,ai]at q;obtain⟨_,B,len,cap,rfl,hl,q⟩:=q;obtain⟨b,hb,q3⟩:=q i p;subst hb;rw[z]at f;have N:b=⟨g,0,none⟩:=by
     rcases f with f | ⟨n,c,f⟩
     ·cases f
     ·simp only[Option.some.injEq,Value.slice.injEq]at f;exact f.1
    subst N;refine⟨⟨g,i*A.size,none⟩,by rw[cf,e],wV p (ai.mono (fun _ _ h=>h) (fun k u hk=>?_) q3)⟩;rw[cf,Nat.zero_add]at hk;rw[cf];exact hk.2.2
   ·cases j
  ·cases j
 ·split at j
  ·rename_i D;cases j;simp only[V]at E;obtain⟨B,rfl,hl⟩:=E;refine⟨B,rfl,VL.mk fun k x hk=>?_⟩;obtain⟨u,z,q⟩:=VL.get hl hk;exact⟨u,World.ju z.2.2 (tM (List.all_eq_true.1 D _ (List.mem_of_getElem? hk)) q),q⟩
  ·cases j
 ·cases j
theorem Hl(m:Mem Bw w0 ρ φ h w){o:Oper}{a:Act}{t:TypeId}{ti:TI}(ht:aP P t ti){f:Operand}{x:ag}(p:V (Fr (own φ h) Bw w) ρ x (a.eval f))(q:o.op = .load t f)
  {j:List ag} {off:Nat} {c:Prop} (u:kN h x=some (j,off,c)) (e:c) {y:ag} (z:eR ti j off=some y):Good P o a w (aG Bw w0 ρ φ h w new y []):=by
 obtain⟨I,B,C⟩:=mT m p u e;obtain⟨v,D,E⟩:=gx (P:=P) ht C z;refine Good.aH (v:=v) (w':=w) ?_ (aG.pure m E);simp[execOp,q,Instr.loadAt,B,Instr.sureAddr,D]
theorem pZ(m:Mem Bw w0 ρ φ h w){o:Oper}{a:Act}{t:TypeId}{ti:TI}(ht:aP P t ti){z:Operand}{x:ag}(u:V (Fr (own φ h) Bw w) ρ x (a.eval z)){f:Nat}(O:o.op = .fieldAddr t z f)
  {J:List (Nat×TypeId)} (hk:ti.k = .st J) {off:Nat} {L:TypeId} (e:J[f]? = some (off,L)) {y:ag}
  (X:(∃id i sz k,x = .adr id i sz k∧y = .adr id i sz (k+off))∨(∃β B k,x = .fad β B k∧y = .fad β B (k+off))):Good P o a w (aG Bw w0 ρ φ h w new y []):=by
 obtain⟨d,Y,M⟩:=ht.hu;rw[hk]at M;obtain⟨C,rfl,Z,h4⟩:=M;subst Z;rw[List.getElem?_map]at e;obtain⟨c,j,D⟩:∃c,C.toList[f]? = some c∧(c.offset,c.type)=(off,L):=by
  cases N:C.toList[f]? with
  | none=>rw[N]at e;cases e
  | some c=>rw[N]at e;exact⟨c,rfl,by simpa using e⟩
 cases D;have E:C[f]? = some c:=by simpa using j
 obtain⟨i,hi,I⟩:=h4 c (List.mem_of_getElem? j);have key:∀p:Addr,a.eval z = .pointer (some p)→(execOp a.eval o).run P w = .ok (.value (.pointer (some (p.add c.offset)))) w:=fun p q=>by simp[execOp,O,Instr.fieldAt,run_underlying Y,E,q,Instr.sureAddr,fieldPlace,sizeOf,typeInfo,hi,I]
 rcases X with⟨id,i,sz,k,rfl,rfl⟩ | ⟨β,B,k,rfl,rfl⟩
 ·simp only[V]at u;obtain⟨g,hg,q⟩:=u;refine Good.aH (key _ q) (aG.pure m ?_);simp only[V];exact⟨g,hg,by rw[cf,Nat.add_assoc]⟩
 ·simp only[V]at u;obtain⟨p,q,hl⟩:=u;refine Good.aH (key _ q) (aG.pure m ?_);simp only[V];exact⟨p,by rw[add_add],hl⟩
def yt(T':Ty):(T:Ty)→T.den→Nat→Option T'.den
 | T,x,off=>if h:T=T'∧off=0 then some (h.1 ▸ x)else match T,x with
  | .prod a b,x=>if off<a.size then yt T' a x.1 off else yt T' b x.2 (off - a.size)
  | _,_=>none
theorem CT{F:Addr→Value→Prop}{T':Ty}:∀ {T:Ty} {x:T.den} {off:Nat} {y:T'.den},yt T' T x off=some y→∀ {g:Nat→Value→Prop},ai F T x g→ai F T' y (fun k u=>g (off+k) u):=fun {T}=>by
 induction T with
 | prod a b e f =>
  intro x off y h g c;unfold yt at h;split at h
  ·rename_i j;obtain⟨rfl,rfl⟩:=j;cases h;exact ai.mono (fun _ _ h=>h) (fun k u hk=>by rwa [Nat.zero_add]) c
  ·simp only at h;split at h
   ·exact e h c.1
   ·rename_i p;refine ai.mono (fun _ _ h=>h) (fun k u hk=>?_) (f h c.2);rwa [←Nat.add_assoc,Nat.add_sub_cancel' (Nat.le_of_not_lt p)]at hk
 | _ =>
  intro x off y h g c;unfold yt at h;split at h
  ·rename_i j;obtain⟨rfl,rfl⟩:=j;cases h;exact ai.mono (fun _ _ h=>h) (fun k u hk=>by rwa [Nat.zero_add]) c
  ·simp only at h;cases h
theorem yY(m:Mem Bw w0 ρ φ h w){o:Oper}{a:Act}{t:TypeId}{ti:TI}(ht:aP P t ti){xo:Operand}{β:Bool}{T:Ty}{x:T.den}(B:V (Fr (own φ h) Bw w) ρ (.loc β T x) (a.eval xo)){f:Nat}(J:o.op = .fieldAddr t xo f)
  {C:List (Nat×TypeId)} (hk:ti.k = .st C) {off:Nat} {D:TypeId} (e:C[f]? = some (off,D)) {T':Ty} {y:T'.den} (L:yt T' T x off=some y):Good P o a w (aG Bw w0 ρ φ h w new (.loc β T' y) []):=by
 obtain⟨d,M,E⟩:=ht.hu;rw[hk]at E;obtain⟨p,rfl,N,O⟩:=E;subst N;rw[List.getElem?_map]at e;obtain⟨c,j,q⟩:∃c,p.toList[f]? = some c∧(c.offset,c.type)=(off,D):=by
  cases I:p.toList[f]? with
  | none=>rw[I]at e;cases e
  | some c=>rw[I]at e;exact⟨c,rfl,by simpa using e⟩
 cases q;have z:p[f]? = some c:=by simpa using j
 obtain⟨i,hi,A⟩:=O c (List.mem_of_getElem? j);simp only[V]at B;obtain⟨X,Y,Z⟩:=B;refine Good.aH (v:= .pointer (some (X.add c.offset))) (w':=w) (by simp[execOp,J,Instr.fieldAt,run_underlying M,z,Y,Instr.sureAddr,fieldPlace,sizeOf,typeInfo,hi,A]) (aG.pure m ?_);simp only[V];exact⟨_,rfl,ai.mono (fun _ _ h=>h) (fun k u hk=>by rwa [add_add]) (CT L Z)⟩
theorem Ar(m:Mem Bw w0 ρ φ h w){o:Oper}{a:Act}{t:TypeId}{ti:TI}(ht:aP P t ti){xo:Operand}{β:Bool}{T:Ty}{x:T.den}(D:V (Fr (own φ h) Bw w) ρ (.loc β T x) (a.eval xo))(I:o.op = .load t xo)
  (hT:ti.T=some T) (A:T.scalar=true):Good P o a w (aG Bw w0 ρ φ h w new (.p β T x) []):=by
 simp only[V]at D;obtain⟨ad,J,L⟩:=D;have f:=jJ (ρ:=ρ) β T x _ L;have j:flat β T x=[.p (if T.isRef then β else false) T x]∨flat β T x=[.p β T x]:=by cases T <;> simp[Ty.scalar]at A <;> simp[flat,Ty.isRef]
 obtain⟨M,q,_⟩:=ht.hT T hT;have z:ti.k.agg=false:=by rw[A]at q;simpa using q.symm
 have N:∀y:ag,flat β T x=[y]→V (Fr (own φ h) Bw w) ρ y=V (Fr (own φ h) Bw w) ρ y:=fun _ _=>rfl
 obtain⟨u,hu,O⟩:∃u,w.cell? (ad.add 0)=some u∧V (Fr (own φ h) Bw w) ρ (.p β T x) u:=by
  have X:T.size=1:=Ty.fB A;rcases j with e | e
  ·rw[e]at f;obtain⟨u,B,c⟩:=VL.get f (k:=0) rfl;refine⟨u,World.ju B.2.2 (tM rfl c),?_⟩;by_cases C:T.isRef=true
   ·simpa [C]using c
   ·simp only[C]at c;simp only[V]at c ⊢;exact⟨c.1,sd c.1 (by simpa using C) c.2⟩
  ·rw[e]at f;obtain⟨u,B,c⟩:=VL.get f (k:=0) rfl;exact⟨u,World.ju B.2.2 (tM rfl c),c⟩
 obtain⟨v,E,Y⟩:=gx (P:=P) (F:=Fr (own φ h) Bw w) (ρ:=ρ) (cs:=[.p β T x]) (off:=0) (x:= .p β T x) ht (w:=w) (ad:=ad) (by
  simp only[VL];exact⟨⟨u,hu,O⟩,trivial⟩) (by unfold eR;rw[z];rfl)
 have Z:ad.add 0=ad:=by simp[Addr.add]
 rw[Z]at E;refine Good.aH (v:=v) (w':=w) ?_ (aG.pure m Y);simp[execOp,I,Instr.loadAt,J,Instr.sureAddr,E]
theorem za(m:Mem Bw w0 ρ φ h w){o:Oper}{a:Act}{t e:TypeId}{ti q:TI}{n:Nat}(ht:aP P t ti)(hk:ti.k = .ar n e)(u:aP P e q)(x:q.size=1){xo io:Operand}{β:Bool}{k:IntKind}{f:fb n}
  (C:V (Fr (own φ h) Bw w) ρ (.loc β (.arr k n) f) (a.eval xo)) {z:Bool} {D:IntKind} {i:Int} (hi:V (Fr (own φ h) Bw w) ρ (.p z (.int D) i) (a.eval io)) (E:o.op = .indexAddr t xo io) (I:0≤i) (J:i<(n:Int)) :
  Good P o a w (aG Bw w0 ρ φ h w new (.loc β (.int k) (fA f i.toNat)) []):=by
 obtain⟨d,A,c⟩:=ht.hu;rw[hk]at c;simp only[UK]at c;subst c;simp only[V]at C;obtain⟨L,M,N⟩:=C;have B:=bR hi;refine Good.aH (v:= .pointer (some (L.add (i.toNat*q.size)))) (w':=w) (by simp[execOp,E,Instr.indexAt,asIntOf,B,M,run_underlying A,Instr.sureAddr,run_sizeOf u,I,J]) (aG.pure m ?_);simp only[V];refine⟨_,rfl,?_⟩;have j:i.toNat<f.1.length:=by rw[f.2];omega
 have O:=N i.toNat j;simp only[ai];rw[add_add,x,Nat.mul_one,Nat.add_zero];have e:fA f i.toNat=f.1[i.toNat]:=by simp[fA,j]
 rw[e];exact O
theorem uC(m:Mem Bw w0 ρ φ h w){o:Oper}{a:Act}{t e:TypeId}{ti q:TI}(ht:aP P t ti)(hk:ti.k = .sl e)(x:aP P e q){xo io:Operand}{β:Bool}{A:Ty}{c:List A.den}(j:V (Fr (own φ h) Bw w) ρ (.p β (.slice A) c) (a.eval xo))
  {z:Bool} {k:IntKind} {i:Int} (hi:V (Fr (own φ h) Bw w) ρ (.p z (.int k) i) (a.eval io)) (C:o.op = .indexAddr t xo io) (B:A.size=q.size) (D:0≤i) (E:i<c.length) :
  Good P o a w (aG Bw w0 ρ φ h w new (.loc β A (c.getD i.toNat A.zero)) []):=by
 have hu:=aY ht hk;have I:=bR hi;simp only[V,ai]at j;obtain⟨_,M,len,cap,J,⟨hl,_⟩,j⟩:=j;have f:i.toNat<c.length:=by omega
 obtain⟨b,hb,L⟩:=j i.toNat f;subst hb;refine Good.aH (v:= .pointer (some (b.add (i.toNat*q.size)))) (w':=w) (by simp[execOp,C,Instr.indexAt,asIntOf,I,←J,run_underlying hu,run_sizeOf x,D,hl,E]) (aG.pure m ?_);simp only[V];refine⟨_,rfl,?_⟩;have e:c.getD i.toNat A.zero=c[i.toNat]:=by simp[f]
 rw[e];exact ai.mono (fun _ _ h=>h) (fun k u hk=>by rw[add_add,←B];exact hk) L
theorem DR(m:Mem Bw w0 ρ φ h w){o:Oper}{a:Act}{xo:Operand}{β:Bool}{A:Ty}{q:Option A.den}(c:V (Fr (own φ h) Bw w) ρ (.p β (.ptr A) q) (a.eval xo))(f:o.op = .nilCheck xo)(j:q.isSome=true):
  Good P o a w (aG Bw w0 ρ φ h w new (.loc β A (q.getD A.zero)) []):=by
 cases q with
 | none=>cases j
 | some y =>
  obtain⟨_,b,e,u⟩:_∧∃b:Addr,Value.pointer (some b)=a.eval xo∧ai (Fr (own φ h) Bw w β) A y (fun k v=>Fr (own φ h) Bw w β (b.add k) v):=by simpa only [V,ai]using c
  refine Good.aH (v:=a.eval xo) (w':=w) (by simp only[execOp,f,←e];rfl) (aG.pure m ?_);simp only[V,Option.getD_some];exact⟨b,e.symm,u⟩
theorem AG(m:Mem Bw w0 ρ φ h w){o:Oper}{a:Act}{xo:Operand}{β:Bool}{A:Ty}{x:A.den}(c:V (Fr (own φ h) Bw w) ρ (.loc β A x) (a.eval xo))(f:o.op = .nilCheck xo):
  Good P o a w (aG Bw w0 ρ φ h w new (.loc β A x) []):=by
 obtain⟨e,j,p⟩:∃e:Addr,a.eval xo = .pointer (some e)∧_:=by simpa only [V]using c
 exact Good.aH (v:=a.eval xo) (w':=w) (by simp only[execOp,f,j];rfl) (aG.pure m c)
def zG(h:Nat→Qz)(x:ag)(i:Int):Option (ag×Nat×Prop) :=
 match x with
 | .p β (.slice A) c=>some (.fad β (flat β A (c.getD i.toNat A.zero)) 0,A.size,0≤i∧i<c.length)
 | .sl id=>match h id with
  | some (.arr _ A c)=>some (.adr id i.toNat A.size 0,A.size,0≤i∧i<c.length)
  | some (.fz A c)=>some (.fad false (flat false A (c.getD i.toNat A.zero)) 0,A.size,0≤i∧i<c.length)
  | some (.mat _ _ _ e _)=>some (.adr id i.toNat 1 0,1,0≤i∧i<e.length)
  | some (.bytes _ c)=>some (.adr id i.toNat 1 0,1,0≤i∧i<c.length)
  | _=>none
 | _=>none
theorem yu(m:Mem Bw w0 ρ φ h w){o:Oper}{a:Act}{t e:TypeId}{ti J:TI}(ht:aP P t ti)(hk:ti.k = .sl e)(X:aP P e J){O io:Operand}{x:ag}(I:V (Fr (own φ h) Bw w) ρ x (a.eval O))
  {β:Bool} {k:IntKind} {i:Int} (hi:V (Fr (own φ h) Bw w) ρ (.p β (.int k) i) (a.eval io)) (ho:o.op = .indexAddr t O io)
  {y:ag} {c:Prop} (z:zG h x i=some (y,J.size,c)) (D:c):Good P o a w (aG Bw w0 ρ φ h w new y []):=by
 have hu:=aY ht hk;have he:=bR hi;have key:∀(b:Addr) (len cap:Nat),a.eval O = .slice (some b) len cap→0≤i→i<len→(execOp a.eval o).run P w = .ok (.value (.pointer (some (b.add (i.toNat*J.size))))) w:=fun b len cap hb h0 h1=>by simp[execOp,ho,Instr.indexAt,asIntOf,he,hb,run_underlying hu,run_sizeOf X,h0,h1]
 have data:∀(E:Bool) (A:Ty) (xs:List A.den),V (Fr (own φ h) Bw w) ρ (.p E (.slice A) xs) (a.eval O)→A.size=J.size→(0≤i∧i<xs.length) →
   Good P o a w (aG Bw w0 ρ φ h w new (.fad E (flat E A (xs.getD i.toNat A.zero)) 0) []):=fun E A xs I f D=>by
  simp only[V,ai]at I;obtain⟨_,ad,len,cap,hs,⟨hl,_⟩,I⟩:=I;have L:i.toNat<xs.length:=by omega
  obtain⟨b,hb,hv⟩:=I i.toNat L;subst hb;refine Good.aH (key b len cap hs.symm D.1 (by omega)) (aG.pure m ?_);simp only[V];refine⟨b.add (i.toNat*J.size),by simp[Addr.add],?_⟩;have e:xs.getD i.toNat A.zero=xs[i.toNat]:=by simp[L]
  rw[e];exact jJ E A _ _ (ai.mono (fun _ _ h=>h) (fun k u hk=>by rw[add_add,←f];exact hk) hv)
 unfold zG at z;split at z
 ·simp only[Option.some.injEq,Prod.mk.injEq]at z;obtain⟨rfl,f,rfl⟩:=z;exact data _ _ _ I f D
 ·rename_i id;simp only[V]at I;obtain⟨B,_,_,_,_⟩:=I;split at z
  ·rename_i M A xs C;simp only[Option.some.injEq,Prod.mk.injEq]at z;obtain⟨rfl,f,rfl⟩:=z;obtain⟨u,j,Y,_,cells,Z,r2⟩:=m.ob id _ C;rw[B]at j;simp only[Option.some.injEq]at j;rcases Z.2 with⟨_,hn⟩ | ⟨g,cap,N,q,_⟩
   ·omega
   ·refine Good.aH (key ⟨g,0,none⟩ _ cap (j.trans q) D.1 D.2) (aG.pure m ?_);simp only[V];exact⟨g,.inr ⟨_,_,by rw[B,j,q]⟩,by rw[cf,f];simp⟩
  ·rename_i A xs C;simp only[Option.some.injEq,Prod.mk.injEq]at z;obtain⟨rfl,f,rfl⟩:=z;obtain⟨u,j,q2⟩:=m.ob id _ C;rw[B]at j;simp only[Option.some.injEq]at j;subst j;exact data _ _ _ q2 f D
  ·rename_i M e2 A a1 a2 C;simp only[Option.some.injEq,Prod.mk.injEq]at z;obtain⟨rfl,f,rfl⟩:=z;obtain⟨u,j,Y,_,_,cells,Z,r2⟩:=m.ob id _ C;rw[B]at j;simp only[Option.some.injEq]at j;rcases Z.2 with⟨_,hn⟩ | ⟨g,cap,N,q,_⟩
   ·omega
   ·refine Good.aH (key ⟨g,0,none⟩ _ cap (j.trans q) D.1 D.2) (aG.pure m ?_);simp only[V];exact⟨g,.inr ⟨_,_,by rw[B,j,q]⟩,by rw[cf,←f];simp⟩
  ·rename_i M xs C;simp only[Option.some.injEq,Prod.mk.injEq]at z;obtain⟨rfl,f,rfl⟩:=z;obtain⟨u,j,q2⟩:=m.ob id _ C;rw[B]at j;simp only[Option.some.injEq]at j;rcases q2 with⟨_,hn⟩ | ⟨g,cap,N,mk,q,_⟩
   ·subst hn;simp at D;omega
   ·refine Good.aH (key ⟨g,0,none⟩ _ cap (j.trans q) D.1 D.2) (aG.pure m ?_);simp only[V];exact⟨g,.inr ⟨_,_,by rw[B,j,q]⟩,by rw[cf,←f];simp⟩
  ·cases z
 ·cases z
end
end Go.Tv
