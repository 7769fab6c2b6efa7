import Derived.Test.YtflahpmlcfhpcaaGreatDoorTvDm
namespace Go.Tv
open Go Go.RowKit
section
variable{P:Program}{Bw:Nat→Prop}{w0:cw P}{ρ:Nat→QW}{φ:Nat→Nat→Prop}{h:Nat→Qz}{w:World}{new:Nat}
theorem OR.JD{F:Bool→Addr→Value→Prop}{S:Nat→Prop}{o:Obj}{u:Value}(h:OR F ρ S w o u)(hl:o.live=true){k:Nat}(hk:dx u=some k):k<w.heap.size:=by
 have key:∀g (x:Go.Obj),w.heap[g]? = some x→g<w.heap.size:=fun g x B=>by
  rcases Nat.lt_or_ge g w.heap.size with h' | h'
  ·exact h'
  ·rw[Array.getElem?_eq_none h']at B;cases B
 cases o with
 | arr e A xs =>
  obtain⟨_,_,cells,⟨_,p⟩,_⟩:=h;rcases p with⟨rfl,_⟩ | ⟨g,cap,q,rfl,_,z,_⟩
  ·simp[dx]at hk
  ·simp only[dx,Option.some.injEq]at hk;subst hk;exact key _ _ z
 | fz A xs=>simp[Obj.live]at hl
 | cutz A xs=>simp[Obj.live]at hl
 | lmp k n xs C =>
  obtain⟨g,t,cells,rfl,_,j,_⟩:=h;simp only[dx,Option.some.injEq]at hk;subst hk;exact key _ _ j
 | vrow n sz C =>
  obtain⟨g,t,cells,rfl,_,j,_⟩:=h;simp only[dx,Option.some.injEq]at hk;subst hk;exact key _ _ j
 | nds e I M J =>
  obtain⟨_,_,cells,⟨_,p⟩,_⟩:=h;rcases p with⟨rfl,_⟩ | ⟨g,cap,q,rfl,_,z,_⟩
  ·simp[dx]at hk
  ·simp only[dx,Option.some.injEq]at hk;subst hk;exact key _ _ z
 | mpq b D =>
  obtain⟨_,_,p⟩:=h;cases b with
  | false=>obtain⟨rfl,_⟩:=p;simp[dx]at hk
  | true =>
   obtain⟨r,E,clock,rfl,z,_⟩:=p;simp only[dx,Option.some.injEq]at hk;subst hk;exact key _ _ z
 | box C =>
  obtain⟨g,t,cells,rfl,_,j,_⟩:=h;simp only[dx,Option.some.injEq]at hk;subst hk;exact key _ _ j
 | mpo K A D =>
  obtain⟨r,E,clock,rfl,_,j,_⟩:=h;simp only[dx,Option.some.injEq]at hk;subst hk;exact key _ _ j
 | mpl K D =>
  obtain⟨r,E,clock,rfl,_,j,_⟩:=h;simp only[dx,Option.some.injEq]at hk;subst hk;exact key _ _ j
 | mat e I A L J =>
  obtain⟨_,_,_,cells,⟨_,p⟩,_⟩:=h;rcases p with⟨rfl,_⟩ | ⟨g,cap,q,rfl,_,z,_⟩
  ·simp[dx]at hk
  ·simp only[dx,Option.some.injEq]at hk;subst hk;exact key _ _ z
 | bytes e xs =>
  rcases h with⟨rfl,_⟩ | ⟨g,cap,q,mk,rfl,_,j,_⟩
  ·simp[dx]at hk
  ·simp only[dx,Option.some.injEq]at hk;subst hk;exact key _ _ j
theorem dY(m:Mem Bw w0 ρ φ h w){w':World}(z:QJ)(q:Nat)(o1:Obj)(u1:Value)(A:Nat→Prop)(row:QJ)
  (J:w.grownBy w' row)
  (L:∀k,row=some k→∃i o,z=some i∧h i=some o∧o.live=true∧φ i k)
  (f:ρ q=none∨(z=some q∧ρ q=some u1))
  (C:o1.live=true→∀k,A k→k<w'.heap.size)
  (hb:o1.live=true→∀k,A k→w.heap.size≤k∨∃i o,z=some i∧h i=some o∧o.live=true∧φ i k)
  (M:∀F' j,(∀β a v,Fr (own φ h) Bw w β a v→F' β a v)→(∀i u,ρ i=some u→j i=some u)→OR F' j A w' o1 u1)
  {x:ag} {v:Value} {u:gZ} (hu:apply u h=bF (fun i=>if z=some i then none else h i) q (some o1))
  (B:ρ q=none→q=new)
  (N:∀F' j,(∀β a v,Fr (own φ h) Bw w β a v→F' β a v)→(∀i u,ρ i=some u→j i=some u)→j q=some u1→V F' j x v) :
  aF Bw w0 ρ φ h w new x u v w':=by
 obtain⟨O,E,I⟩:=m.put z q o1 u1 A row J L f C hb M;refine⟨bF ρ q (some u1),bF φ q A,by rw[hu];exact O,by rw[hu];exact E,I,fun i u hi=>?_,N _ _ (by rw[hu];exact E) I (aB _ _ _)⟩;by_cases e:i=q
 ·subst e;rcases f with D | ⟨_,D⟩
  ·exact .inr ⟨0,by omega,B D⟩
  ·rw[aB]at hi;exact .inl (by rw[D,hi])
 ·rw[aQ _ _ e]at hi;exact .inl hi
theorem cV(m:Mem Bw w0 ρ φ h w){w':World}(C:QJ)(z:Nat)(o1:Obj)(u1:Value)(row:QJ)
  (I:w.grownBy w' row)
  (D:∀k,row=some k→∃i o,C=some i∧h i=some o∧o.live=true∧φ i k)
  (j:ρ z=none∨(C=some z∧ρ z=some u1))
  (hb:o1.live=true→∀k,dx u1=some k→w.heap.size≤k∨row=some k)
  (E:∀F' f,(∀β a v,Fr (own φ h) Bw w β a v→F' β a v)→(∀i u,ρ i=some u→f i=some u)→OR F' f (fun k=>dx u1=some k) w' o1 u1)
  {x:ag} {v:Value} {u:gZ} (hu:apply u h=bF (fun i=>if C=some i then none else h i) z (some o1))
  (B:ρ z=none→z=new)
  (J:∀F' f,(∀β a v,Fr (own φ h) Bw w β a v→F' β a v)→(∀i u,ρ i=some u→f i=some u)→f z=some u1→V F' f x v) :
  aF Bw w0 ρ φ h w new x u v w' :=
 dY m C z o1 u1 (fun k=>dx u1=some k) row I D j
  (fun hl k hk=>OR.JD (E (fun _ _ _=>True) (fun i=>(ρ i)) (fun _ _ _ _=>trivial) (fun _ _ h=>h)) hl hk)
  (fun hl k hk=>(hb hl k hk).imp id (fun e=>D k e)) E hu B J
theorem aF.after{u1 u2:gZ}{j:Nat→Qz}(e:apply u1 h=j)(I:∀β a v,Fr (own φ h) Bw w β a v→Fr (own φ j) Bw w β a v){x:ag}{v:Value}{w':World}
  (J:aF Bw w0 ρ φ j w new x u2 v w'):aF Bw w0 ρ φ h w new x (u1++u2) v w':=by
 subst e;obtain⟨z,B,C,D,L,M,E⟩:=J;rw[←eU]at C D E;exact⟨z,B,C,fun β a v N=>D _ _ _ (I _ _ _ N),L,M,E⟩
theorem Am(m:Mem Bw w0 ρ φ h w)(hn:ρ new=none){p:List ag}{arr:QU}{x:TypeId}(A:arr.size=p.length)
  (hl:VL (Fr (own φ h) Bw w) ρ p (fun k u=>arr[k]? = some u)) (sz:Nat) :
  aF Bw w0 ρ φ h w new (.adr new 0 sz 0) [(new,some (.box p))] (.pointer (some ⟨w.heap.size,0,none⟩)) (w.alloc (.cells arr x)):=by
 refine cV m none new (.box p) (.pointer (some ⟨w.heap.size,0,none⟩)) none (World.grownBy_alloc w _ none) (fun k e=>by cases e) (.inl hn) (fun _ k hk=>?_) (fun F' q z f=>?_)
  (by rw[bp];rfl) (fun _=>rfl) (fun F' q z f j=>?_)
 ·simp only[dx,Option.some.injEq]at hk;exact .inl (by omega)
 ·exact⟨_,x,arr,rfl,rfl,heap_alloc_new w _,A,VL.mono z f (fun _ _ h=>h) hl⟩
 ·simp only[V];exact⟨_,.inl j,by simp⟩
theorem CF(m:Mem Bw w0 ρ φ h w)(hn:ρ new=none){o:Oper}{a:Act}{t:TypeId}{ti:TI}(ht:aN P t ti)(f:o.op = .alloc t):
  Good P o a w (aF Bw w0 ρ φ h w new (.adr new 0 ti.size 0) [(new,some (.box ti.z))]):=by
 obtain⟨z,j,e,p,q⟩:=dX ht w;refine Good.aG (v:= .pointer (some ⟨w.heap.size,0,none⟩)) (w':=w.alloc (.cells z.cells t)) ?_ (Am m hn (by rw[←e];simp) ?_ _)
 ·simp[execOp,f,Instr.alloc,j,newVar,newRow]
 ·rw[←e];have:=gE (F:=Fr (own φ h) Bw w) (ρ:=ρ) z.cells.toList;simpa using this
theorem Hc(m:Mem Bw w0 ρ φ h w)(hn:ρ new=none){o:Oper}{a:Act}{t:TypeId}{e:Operand}{x:ag}(f:V (Fr (own φ h) Bw w) ρ x (a.eval e))(hc:(cellsOf x).all ag.cell=true)
  (j:o.op = .box t e) (sz:Nat):Good P o a w (aF Bw w0 ρ φ h w new (.adr new 0 sz 0) [(new,some (.box (cellsOf x)))]):=by
 obtain⟨p,q,z⟩:=fW hc f;refine Good.aG (v:= .pointer (some ⟨w.heap.size,0,none⟩)) (w':=w.alloc (.cells (a.eval e).cells t)) ?_ (Am m hn (by simpa using q) (VL.mono (fun _ _ _ h=>h) (fun _ _ h=>h) (fun k u hk=>by simpa using hk) p) _);simp[execOp,j,Instr.box,newVar,newRow]
def lU(h:Nat→Qz):ag→Option (List ag×Nat×Prop)
 | .adr id i sz off=>match h id with
  | some (.box cs)=>some (cs,i*sz+off,True)
  | some (.arr _ A e)=>if sz=A.size then some (flat false A (e.getD i A.zero),off,i<e.length)else none
  | some (.fz A e)=>if sz=A.size then some (flat false A (e.getD i A.zero),off,i<e.length)else none
  | _=>none
 | .fad _ cs off=>if cs.all ag.cell then some (cs,off,True)else none
 | _=>none
theorem uG{F:Bool→Addr→Value→Prop}{A:Ty}{f:List A.den}{i:Nat}{g:Nat→Value→Prop}(hi:i<f.length)(j:ah (F false) A f[i] g):VL F ρ (flat false A (f.getD i A.zero)) g:=by
 have e:f.getD i A.zero=f[i]:=by simp[hi]
 rw[e];exact jB false A _ _ j
theorem pR(m:Mem Bw w0 ρ φ h w){x:ag}{v:Value}(D:V (Fr (own φ h) Bw w) ρ x v){cs:List ag}{off:Nat}{c:Prop}(hc:lU h x=some (cs,off,c))(j:c):
  ∃z:Addr,v = .pointer (some (z.add off))∧VL (Fr (own φ h) Bw w) ρ cs (fun k u=>w.cell? (z.add k)=some u):=by
 unfold lU at hc;split at hc
 ·rename_i id i sz N;simp only[V]at D;obtain⟨g,f,rfl⟩:=D;split at hc
  ·rename_i Y hi;cases hc;obtain⟨u,q,E,O,cells,rfl,Z,I,X,r3⟩:=m.ob id _ hi;rw[q]at f;have J:E=g:=by
    rcases f with f | ⟨n,c,f⟩
    ·simpa using f
    ·cases f
   subst J;refine⟨⟨E,0,none⟩,by rw[cr,Nat.zero_add],VL.mono (fun _ _ _ h=>h) (fun _ _ h=>h) (fun k u hk=>?_) r3⟩;rw[cr,Nat.zero_add,cell_of_row w E k cells O (0,0) I];exact hk
  ·rename_i O A xs hi;split at hc
   ·rename_i e;cases hc;obtain⟨u,q,p⟩:=m.ob id _ hi;obtain⟨_,_,cells,I,X⟩:=p;have B:=I.cells (g:=g);have L:u.ownBlock=some g:=by
     rcases I.2 with⟨rfl,hn⟩ | ⟨E,cap,a1,rfl,_⟩
     ·omega
     ·rw[q]at f;rcases f with f | ⟨n,c,f⟩
      ·cases f
      ·simp only[Option.some.injEq,Value.slice.injEq]at f;obtain⟨f,_⟩:=f;cases f;rfl
    refine⟨⟨g,i*A.size,none⟩,by rw[cr,e],uG j (ah.mono (fun _ _ h=>h) (fun k u hk=>?_) (X i j))⟩;have:=B L _ _ hk;rw[cr,Nat.zero_add]at this;rw[cr];exact this
   ·cases hc
  ·rename_i A xs hi;split at hc
   ·rename_i e;cases hc;obtain⟨u,q,p⟩:=m.ob id _ hi;simp only[OR,V,ah]at p;obtain⟨_,z,len,cap,rfl,hl,p⟩:=p;obtain⟨b,hb,q3⟩:=p i j;subst hb;rw[q]at f;have M:b=⟨g,0,none⟩:=by
     rcases f with f | ⟨n,c,f⟩
     ·cases f
     ·simp only[Option.some.injEq,Value.slice.injEq]at f;exact f.1
    subst M;refine⟨⟨g,i*A.size,none⟩,by rw[cr,e],uG j (ah.mono (fun _ _ h=>h) (fun k u hk=>?_) q3)⟩;rw[cr,Nat.zero_add]at hk;rw[cr];exact hk.2.2
   ·cases hc
  ·cases hc
 ·split at hc
  ·rename_i C;cases hc;simp only[V]at D;obtain⟨z,rfl,hl⟩:=D;refine⟨z,rfl,VL.mk fun k x hk=>?_⟩;obtain⟨u,q,p⟩:=VL.get hl hk;exact⟨u,World.jt q.2.2 (qV (List.all_eq_true.1 C _ (List.mem_of_getElem? hk)) p),p⟩
  ·cases hc
 ·cases hc
theorem EN(m:Mem Bw w0 ρ φ h w){o:Oper}{a:Act}{t:TypeId}{ti:TI}(ht:aN P t ti){f:Operand}{x:ag}(p:V (Fr (own φ h) Bw w) ρ x (a.eval f))(q:o.op = .load t f)
  {j:List ag} {off:Nat} {c:Prop} (hc:lU h x=some (j,off,c)) (e:c) {y:ag} (u:gk ti j off=some y):Good P o a w (aF Bw w0 ρ φ h w new y []):=by
 obtain⟨E,z,B⟩:=pR m p hc e;obtain⟨v,C,D⟩:=iE (P:=P) ht B u;refine Good.aG (v:=v) (w':=w) ?_ (aF.pure m D);simp[execOp,q,Instr.loadAt,z,Instr.sureAddr,C]
theorem ot(m:Mem Bw w0 ρ φ h w){o:Oper}{a:Act}{t:TypeId}{ti:TI}(ht:aN P t ti){B:Operand}{x:ag}(z:V (Fr (own φ h) Bw w) ρ x (a.eval B)){f:Nat}(X:o.op = .fieldAddr t B f)
  {L:List (Nat×TypeId)} (hk:ti.k = .st L) {off:Nat} {M:TypeId} (j:L[f]? = some (off,M)) {y:ag}
  (Y:(∃id i sz k,x = .adr id i sz k∧y = .adr id i sz (k+off))∨(∃β C k,x = .fad β C k∧y = .fad β C (k+off))):Good P o a w (aF Bw w0 ρ φ h w new y []):=by
 obtain⟨d,Z,N⟩:=ht.hu;rw[hk]at N;obtain⟨D,rfl,h3,h4⟩:=N;subst h3;rw[List.getElem?_map]at j;obtain⟨e,p,E⟩:∃e,D.toList[f]? = some e∧(e.offset,e.type)=(off,M):=by
  cases O:D.toList[f]? with
  | none=>rw[O]at j;cases j
  | some e=>rw[O]at j;exact⟨e,rfl,by simpa using j⟩
 cases E;have I:D[f]? = some e:=by simpa using p
 obtain⟨i,hi,J⟩:=h4 e (List.mem_of_getElem? p);have key:∀q:Addr,a.eval B = .pointer (some q)→(execOp a.eval o).run P w = .ok (.value (.pointer (some (q.add e.offset)))) w:=fun q u=>by simp[execOp,X,Instr.fieldAt,run_underlying Z,I,u,Instr.sureAddr,fieldPlace,sizeOf,typeInfo,hi,J]
 rcases Y with⟨id,i,sz,k,rfl,rfl⟩ | ⟨β,C,k,rfl,rfl⟩
 ·simp only[V]at z;obtain⟨g,hg,u⟩:=z;refine Good.aG (key _ u) (aF.pure m ?_);simp only[V];exact⟨g,hg,by rw[cr,Nat.add_assoc]⟩
 ·simp only[V]at z;obtain⟨q,u,hl⟩:=z;refine Good.aG (key _ u) (aF.pure m ?_);simp only[V];exact⟨q,by rw[add_add],hl⟩
def wJ(T':Ty):(T:Ty)→T.den→Nat→Option T'.den
 | T,x,off=>if h:T=T'∧off=0 then some (h.1 ▸ x)else match T,x with
  | .prod a b,x=>if off<a.size then wJ T' a x.1 off else wJ T' b x.2 (off - a.size)
  | _,_=>none
theorem AO{F:Addr→Value→Prop}{T':Ty}:∀ {T:Ty} {x:T.den} {off:Nat} {y:T'.den},wJ T' T x off=some y→∀ {g:Nat→Value→Prop},ah F T x g→ah F T' y (fun k u=>g (off+k) u):=fun {T}=>by
 induction T with
 | prod a b f j =>
  intro x off y h g e;unfold wJ at h;split at h
  ·rename_i hc;obtain⟨rfl,rfl⟩:=hc;cases h;exact ah.mono (fun _ _ h=>h) (fun k u hk=>by rwa [Nat.zero_add]) e
  ·simp only at h;split at h
   ·exact f h e.1
   ·rename_i p;refine ah.mono (fun _ _ h=>h) (fun k u hk=>?_) (j h e.2);rwa [←Nat.add_assoc,Nat.add_sub_cancel' (Nat.le_of_not_lt p)]at hk
 | _ =>
  intro x off y h g e;unfold wJ at h;split at h
  ·rename_i hc;obtain⟨rfl,rfl⟩:=hc;cases h;exact ah.mono (fun _ _ h=>h) (fun k u hk=>by rwa [Nat.zero_add]) e
  ·simp only at h;cases h
theorem xb(m:Mem Bw w0 ρ φ h w){o:Oper}{a:Act}{t:TypeId}{ti:TI}(ht:aN P t ti){xo:Operand}{β:Bool}{T:Ty}{x:T.den}(C:V (Fr (own φ h) Bw w) ρ (.loc β T x) (a.eval xo)){f:Nat}(L:o.op = .fieldAddr t xo f)
  {D:List (Nat×TypeId)} (hk:ti.k = .st D) {off:Nat} {E:TypeId} (j:D[f]? = some (off,E)) {T':Ty} {y:T'.den} (M:wJ T' T x off=some y):Good P o a w (aF Bw w0 ρ φ h w new (.loc β T' y) []):=by
 obtain⟨d,N,I⟩:=ht.hu;rw[hk]at I;obtain⟨q,rfl,O,X⟩:=I;subst O;rw[List.getElem?_map]at j;obtain⟨e,p,z⟩:∃e,q.toList[f]? = some e∧(e.offset,e.type)=(off,E):=by
  cases J:q.toList[f]? with
  | none=>rw[J]at j;cases j
  | some e=>rw[J]at j;exact⟨e,rfl,by simpa using j⟩
 cases z;have A:q[f]? = some e:=by simpa using p
 obtain⟨i,hi,B⟩:=X e (List.mem_of_getElem? p);simp only[V]at C;obtain⟨Y,Z,hv⟩:=C;refine Good.aG (v:= .pointer (some (Y.add e.offset))) (w':=w) (by simp[execOp,L,Instr.fieldAt,run_underlying N,A,Z,Instr.sureAddr,fieldPlace,sizeOf,typeInfo,hi,B]) (aF.pure m ?_);simp only[V];exact⟨_,rfl,ah.mono (fun _ _ h=>h) (fun k u hk=>by rwa [add_add]) (AO M hv)⟩
theorem yu(m:Mem Bw w0 ρ φ h w){o:Oper}{a:Act}{t:TypeId}{ti:TI}(ht:aN P t ti){xo:Operand}{β:Bool}{T:Ty}{x:T.den}(E:V (Fr (own φ h) Bw w) ρ (.loc β T x) (a.eval xo))(J:o.op = .load t xo)
  (hT:ti.T=some T) (B:T.scalar=true):Good P o a w (aF Bw w0 ρ φ h w new (.p β T x) []):=by
 simp only[V]at E;obtain⟨ad,L,M⟩:=E;have j:=jB (ρ:=ρ) β T x _ M;have q:flat β T x=[.p (if T.isRef then β else false) T x]∨flat β T x=[.p β T x]:=by cases T <;> simp[Ty.scalar]at B <;> simp[flat,Ty.isRef]
 obtain⟨N,z,_⟩:=ht.hT T hT;have A:ti.k.agg=false:=by rw[B]at z;simpa using z.symm
 have O:∀y:ag,flat β T x=[y]→V (Fr (own φ h) Bw w) ρ y=V (Fr (own φ h) Bw w) ρ y:=fun _ _=>rfl
 obtain⟨u,hu,X⟩:∃u,w.cell? (ad.add 0)=some u∧V (Fr (own φ h) Bw w) ρ (.p β T x) u:=by
  have Y:T.size=1:=Ty.fD B;rcases q with e | e
  ·rw[e]at j;obtain⟨u,C,f⟩:=VL.get j (k:=0) rfl;refine⟨u,World.jt C.2.2 (qV rfl f),?_⟩;by_cases D:T.isRef=true
   ·simpa [D]using f
   ·simp only[D]at f;simp only[V]at f ⊢;exact⟨f.1,qK f.1 (by simpa using D) f.2⟩
  ·rw[e]at j;obtain⟨u,C,f⟩:=VL.get j (k:=0) rfl;exact⟨u,World.jt C.2.2 (qV rfl f),f⟩
 obtain⟨v,I,Z⟩:=iE (P:=P) (F:=Fr (own φ h) Bw w) (ρ:=ρ) (cs:=[.p β T x]) (off:=0) (x:= .p β T x) ht (w:=w) (ad:=ad) (by
  simp only[VL];exact⟨⟨u,hu,X⟩,trivial⟩) (by unfold gk;rw[A];rfl)
 have h0:ad.add 0=ad:=by simp[Addr.add]
 rw[h0]at I;refine Good.aG (v:=v) (w':=w) ?_ (aF.pure m Z);simp[execOp,J,Instr.loadAt,L,Instr.sureAddr,I]
theorem xd(m:Mem Bw w0 ρ φ h w){o:Oper}{a:Act}{t e:TypeId}{ti u:TI}{n:Nat}(ht:aN P t ti)(hk:ti.k = .ar n e)(x:aN P e u)(z:u.size=1){xo io:Operand}{β:Bool}{k:IntKind}{j:fh n}
  (D:V (Fr (own φ h) Bw w) ρ (.loc β (.arr k n) j) (a.eval xo)) {A:Bool} {E:IntKind} {i:Int} (hi:V (Fr (own φ h) Bw w) ρ (.p A (.int E) i) (a.eval io)) (I:o.op = .indexAddr t xo io) (J:0≤i) (L:i<(n:Int)) :
  Good P o a w (aF Bw w0 ρ φ h w new (.loc β (.int k) (fC j i.toNat)) []):=by
 obtain⟨d,B,f⟩:=ht.hu;rw[hk]at f;simp only[UK]at f;subst f;simp only[V]at D;obtain⟨M,N,O⟩:=D;have C:=bX hi;refine Good.aG (v:= .pointer (some (M.add (i.toNat*u.size)))) (w':=w) (by simp[execOp,I,Instr.indexAt,asIntOf,C,N,run_underlying B,Instr.sureAddr,run_sizeOf x,J,L]) (aF.pure m ?_);simp only[V];refine⟨_,rfl,?_⟩;have q:i.toNat<j.1.length:=by rw[j.2];omega
 have X:=O i.toNat q;simp only[ah];rw[add_add,z,Nat.mul_one,Nat.add_zero];have e:fC j i.toNat=j.1[i.toNat]:=by simp[fC,q]
 rw[e];exact X
theorem sC(m:Mem Bw w0 ρ φ h w){o:Oper}{a:Act}{t e:TypeId}{ti x:TI}(ht:aN P t ti)(hk:ti.k = .sl e)(z:aN P e x){xo io:Operand}{β:Bool}{A:Ty}{f:List A.den}(q:V (Fr (own φ h) Bw w) ρ (.p β (.slice A) f) (a.eval xo))
  {B:Bool} {k:IntKind} {i:Int} (hi:V (Fr (own φ h) Bw w) ρ (.p B (.int k) i) (a.eval io)) (D:o.op = .indexAddr t xo io) (C:A.size=x.size) (E:0≤i) (I:i<f.length) :
  Good P o a w (aF Bw w0 ρ φ h w new (.loc β A (f.getD i.toNat A.zero)) []):=by
 have hu:=aX ht hk;have J:=bX hi;simp only[V,ah]at q;obtain⟨_,N,len,cap,L,⟨hl,_⟩,q⟩:=q;have j:i.toNat<f.length:=by omega
 obtain⟨b,hb,M⟩:=q i.toNat j;subst hb;refine Good.aG (v:= .pointer (some (b.add (i.toNat*x.size)))) (w':=w) (by simp[execOp,D,Instr.indexAt,asIntOf,J,←L,run_underlying hu,run_sizeOf z,E,hl,I]) (aF.pure m ?_);simp only[V];refine⟨_,rfl,?_⟩;have e:f.getD i.toNat A.zero=f[i.toNat]:=by simp[j]
 rw[e];exact ah.mono (fun _ _ h=>h) (fun k u hk=>by rw[add_add,←C];exact hk) M
theorem Bo(m:Mem Bw w0 ρ φ h w){o:Oper}{a:Act}{xo:Operand}{β:Bool}{A:Ty}{q:Option A.den}(f:V (Fr (own φ h) Bw w) ρ (.p β (.ptr A) q) (a.eval xo))(j:o.op = .nilCheck xo)(u:q.isSome=true):
  Good P o a w (aF Bw w0 ρ φ h w new (.loc β A (q.getD A.zero)) []):=by
 cases q with
 | none=>cases u
 | some y =>
  obtain⟨_,b,e,x⟩:_∧∃b:Addr,Value.pointer (some b)=a.eval xo∧ah (Fr (own φ h) Bw w β) A y (fun k v=>Fr (own φ h) Bw w β (b.add k) v):=by simpa only [V,ah]using f
  refine Good.aG (v:=a.eval xo) (w':=w) (by simp only[execOp,j,←e];rfl) (aF.pure m ?_);simp only[V,Option.getD_some];exact⟨b,e.symm,x⟩
theorem yW(m:Mem Bw w0 ρ φ h w){o:Oper}{a:Act}{xo:Operand}{β:Bool}{A:Ty}{x:A.den}(e:V (Fr (own φ h) Bw w) ρ (.loc β A x) (a.eval xo))(j:o.op = .nilCheck xo):
  Good P o a w (aF Bw w0 ρ φ h w new (.loc β A x) []):=by
 obtain⟨f,p,q⟩:∃f:Addr,a.eval xo = .pointer (some f)∧_:=by simpa only [V]using e
 exact Good.aG (v:=a.eval xo) (w':=w) (by simp only[execOp,j,p];rfl) (aF.pure m e)
def xG(h:Nat→Qz)(x:ag)(i:Int):Option (ag×Nat×Prop) :=
 match x with
 | .p β (.slice A) e=>some (.fad β (flat β A (e.getD i.toNat A.zero)) 0,A.size,0≤i∧i<e.length)
 | .sl id=>match h id with
  | some (.arr _ A e)=>some (.adr id i.toNat A.size 0,A.size,0≤i∧i<e.length)
  | some (.fz A e)=>some (.fad false (flat false A (e.getD i.toNat A.zero)) 0,A.size,0≤i∧i<e.length)
  | some (.mat _ _ _ f _)=>some (.adr id i.toNat 1 0,1,0≤i∧i<f.length)
  | some (.bytes _ e)=>some (.adr id i.toNat 1 0,1,0≤i∧i<e.length)
  | _=>none
 | _=>none
theorem u9(m:Mem Bw w0 ρ φ h w){o:Oper}{a:Act}{t e:TypeId}{ti I:TI}(ht:aN P t ti)(hk:ti.k = .sl e)(O:aN P e I){N io:Operand}{x:ag}(E:V (Fr (own φ h) Bw w) ρ x (a.eval N))
  {β:Bool} {k:IntKind} {i:Int} (hi:V (Fr (own φ h) Bw w) ρ (.p β (.int k) i) (a.eval io)) (ho:o.op = .indexAddr t N io)
  {y:ag} {c:Prop} (z:xG h x i=some (y,I.size,c)) (hc:c):Good P o a w (aF Bw w0 ρ φ h w new y []):=by
 have hu:=aX ht hk;have he:=bX hi;have key:∀(b:Addr) (len cap:Nat),a.eval N = .slice (some b) len cap→0≤i→i<len→(execOp a.eval o).run P w = .ok (.value (.pointer (some (b.add (i.toNat*I.size))))) w:=fun b len cap hb h0 h1=>by simp[execOp,ho,Instr.indexAt,asIntOf,he,hb,run_underlying hu,run_sizeOf O,h0,h1]
 have data:∀(D:Bool) (A:Ty) (xs:List A.den),V (Fr (own φ h) Bw w) ρ (.p D (.slice A) xs) (a.eval N)→A.size=I.size→(0≤i∧i<xs.length) →
   Good P o a w (aF Bw w0 ρ φ h w new (.fad D (flat D A (xs.getD i.toNat A.zero)) 0) []):=fun D A xs E f hc=>by
  simp only[V,ah]at E;obtain⟨_,ad,len,cap,hs,⟨hl,_⟩,E⟩:=E;have J:i.toNat<xs.length:=by omega
  obtain⟨b,hb,hv⟩:=E i.toNat J;subst hb;refine Good.aG (key b len cap hs.symm hc.1 (by omega)) (aF.pure m ?_);simp only[V];refine⟨b.add (i.toNat*I.size),by simp[Addr.add],?_⟩;have e:xs.getD i.toNat A.zero=xs[i.toNat]:=by simp[J]
  rw[e];exact jB D A _ _ (ah.mono (fun _ _ h=>h) (fun k u hk=>by rw[add_add,←f];exact hk) hv)
 unfold xG at z;split at z
 ·simp only[Option.some.injEq,Prod.mk.injEq]at z;obtain⟨rfl,f,rfl⟩:=z;exact data _ _ _ E f hc
 ·rename_i id;simp only[V]at E;obtain⟨B,_,_,_,_⟩:=E;split at z
  ·rename_i L A xs C;simp only[Option.some.injEq,Prod.mk.injEq]at z;obtain⟨rfl,f,rfl⟩:=z;obtain⟨u,j,X,_,cells,Y,r2⟩:=m.ob id _ C;rw[B]at j;simp only[Option.some.injEq]at j;rcases Y.2 with⟨_,hn⟩ | ⟨g,cap,M,q,_⟩
   ·omega
   ·refine Good.aG (key ⟨g,0,none⟩ _ cap (j.trans q) hc.1 hc.2) (aF.pure m ?_);simp only[V];exact⟨g,.inr ⟨_,_,by rw[B,j,q]⟩,by rw[cr,f];simp⟩
  ·rename_i A xs C;simp only[Option.some.injEq,Prod.mk.injEq]at z;obtain⟨rfl,f,rfl⟩:=z;obtain⟨u,j,Z⟩:=m.ob id _ C;rw[B]at j;simp only[Option.some.injEq]at j;subst j;exact data _ _ _ Z f hc
  ·rename_i L e2 A a1 a2 C;simp only[Option.some.injEq,Prod.mk.injEq]at z;obtain⟨rfl,f,rfl⟩:=z;obtain⟨u,j,X,_,_,cells,Y,r2⟩:=m.ob id _ C;rw[B]at j;simp only[Option.some.injEq]at j;rcases Y.2 with⟨_,hn⟩ | ⟨g,cap,M,q,_⟩
   ·omega
   ·refine Good.aG (key ⟨g,0,none⟩ _ cap (j.trans q) hc.1 hc.2) (aF.pure m ?_);simp only[V];exact⟨g,.inr ⟨_,_,by rw[B,j,q]⟩,by rw[cr,←f];simp⟩
  ·rename_i L xs C;simp only[Option.some.injEq,Prod.mk.injEq]at z;obtain⟨rfl,f,rfl⟩:=z;obtain⟨u,j,Z⟩:=m.ob id _ C;rw[B]at j;simp only[Option.some.injEq]at j;rcases Z with⟨_,hn⟩ | ⟨g,cap,M,mk,q,_⟩
   ·subst hn;simp at hc;omega
   ·refine Good.aG (key ⟨g,0,none⟩ _ cap (j.trans q) hc.1 hc.2) (aF.pure m ?_);simp only[V];exact⟨g,.inr ⟨_,_,by rw[B,j,q]⟩,by rw[cr,←f];simp⟩
  ·cases z
 ·cases z
end
end Go.Tv
