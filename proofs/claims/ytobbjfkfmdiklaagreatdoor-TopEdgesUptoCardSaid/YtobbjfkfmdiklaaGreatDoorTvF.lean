import Derived.Test.YtobbjfkfmdiklaaGreatDoorTvDm
namespace Go.Tv
open Go Go.RowKit
section
variable{P:Program}{Bw:Nat→Prop}{w0:cC P}{ρ:Nat→QW}{φ:Nat→Nat→Prop}{h:Nat→Qz}{w:World}{new:Nat}
theorem OR.Lk{F:Bool→Addr→Value→Prop}{S:Nat→Prop}{o:Obj}{u:Value}(h:OR F ρ S w o u)(hl:o.live=true){k:Nat}(hk:dw u=some k):k<w.heap.size:=by
 have key:∀g (x:Go.Obj),w.heap[g]? = some x→g<w.heap.size:=fun g x q=>by
  rcases Nat.lt_or_ge g w.heap.size with h' | h'
  ·exact h'
  ·rw[Array.getElem?_eq_none h']at q;cases q
 cases o with
 | arr e A xs =>
  obtain⟨_,_,cells,⟨_,h2⟩,_⟩:=h;rcases h2 with⟨rfl,_⟩ | ⟨g,cap,j,rfl,_,p,_⟩
  ·simp[dw]at hk
  ·simp only[dw,Option.some.injEq]at hk;subst hk;exact key _ _ p
 | fz A xs=>simp[Obj.live]at hl
 | cutz A xs=>simp[Obj.live]at hl
 | lmp k n xs z =>
  obtain⟨g,t,cells,rfl,_,h1,_⟩:=h;simp only[dw,Option.some.injEq]at hk;subst hk;exact key _ _ h1
 | vrow n sz z =>
  obtain⟨g,t,cells,rfl,_,h1,_⟩:=h;simp only[dw,Option.some.injEq]at hk;subst hk;exact key _ _ h1
 | nds e D J E =>
  obtain⟨_,_,cells,⟨_,h2⟩,_⟩:=h;rcases h2 with⟨rfl,_⟩ | ⟨g,cap,j,rfl,_,p,_⟩
  ·simp[dw]at hk
  ·simp only[dw,Option.some.injEq]at hk;subst hk;exact key _ _ p
 | mpq b B =>
  obtain⟨_,_,h2⟩:=h;cases b with
  | false=>obtain⟨rfl,_⟩:=h2;simp[dw]at hk
  | true =>
   obtain⟨r,C,clock,rfl,p,_⟩:=h2;simp only[dw,Option.some.injEq]at hk;subst hk;exact key _ _ p
 | box z =>
  obtain⟨g,t,cells,rfl,_,h1,_⟩:=h;simp only[dw,Option.some.injEq]at hk;subst hk;exact key _ _ h1
 | mpo K A B =>
  obtain⟨r,C,clock,rfl,_,h1,_⟩:=h;simp only[dw,Option.some.injEq]at hk;subst hk;exact key _ _ h1
 | mpl K B =>
  obtain⟨r,C,clock,rfl,_,h1,_⟩:=h;simp only[dw,Option.some.injEq]at hk;subst hk;exact key _ _ h1
 | mat e D A I E =>
  obtain⟨_,_,_,cells,⟨_,h2⟩,_⟩:=h;rcases h2 with⟨rfl,_⟩ | ⟨g,cap,j,rfl,_,p,_⟩
  ·simp[dw]at hk
  ·simp only[dw,Option.some.injEq]at hk;subst hk;exact key _ _ p
 | bytes e xs =>
  rcases h with⟨rfl,_⟩ | ⟨g,cap,j,mk,rfl,_,h1,_⟩
  ·simp[dw]at hk
  ·simp only[dw,Option.some.injEq]at hk;subst hk;exact key _ _ h1
theorem dW(m:Mem Bw w0 ρ φ h w){w':World}(A:QJ)(z:Nat)(o1:Obj)(u1:Value)(B:Nat→Prop)(row:QJ)
  (J:w.grownBy w' row)
  (L:∀k,row=some k→∃i o,A=some i∧h i=some o∧o.live=true∧φ i k)
  (j:ρ z=none∨(A=some z∧ρ z=some u1))
  (D:o1.live=true→∀k,B k→k<w'.heap.size)
  (hb:o1.live=true→∀k,B k→w.heap.size≤k∨∃i o,A=some i∧h i=some o∧o.live=true∧φ i k)
  (M:∀F' q,(∀β a v,Fr (own φ h) Bw w β a v→F' β a v)→(∀i u,ρ i=some u→q i=some u)→OR F' q B w' o1 u1)
  {x:ag} {v:Value} {u:gX} (hu:apply u h=bF (fun i=>if A=some i then none else h i) z (some o1))
  (C:ρ z=none→z=new)
  (N:∀F' q,(∀β a v,Fr (own φ h) Bw w β a v→F' β a v)→(∀i u,ρ i=some u→q i=some u)→q z=some u1→V F' q x v) :
  aF Bw w0 ρ φ h w new x u v w':=by
 obtain⟨O,E,I⟩:=m.put A z o1 u1 B row J L j D hb M;refine⟨bF ρ z (some u1),bF φ z B,by rw[hu];exact O,by rw[hu];exact E,I,fun i u hi=>?_,N _ _ (by rw[hu];exact E) I (aB _ _ _)⟩;by_cases e:i=z
 ·subst e;rcases j with hf | ⟨_,hf⟩
  ·exact .inr ⟨0,by omega,C hf⟩
  ·rw[aB]at hi;exact .inl (by rw[hf,hi])
 ·rw[aR _ _ e]at hi;exact .inl hi
theorem cT(m:Mem Bw w0 ρ φ h w){w':World}(D:QJ)(B:Nat)(o1:Obj)(u1:Value)(row:QJ)
  (J:w.grownBy w' row)
  (E:∀k,row=some k→∃i o,D=some i∧h i=some o∧o.live=true∧φ i k)
  (z:ρ B=none∨(D=some B∧ρ B=some u1))
  (hb:o1.live=true→∀k,dw u1=some k→w.heap.size≤k∨row=some k)
  (I:∀F' j,(∀β a v,Fr (own φ h) Bw w β a v→F' β a v)→(∀i u,ρ i=some u→j i=some u)→OR F' j (fun k=>dw u1=some k) w' o1 u1)
  {x:ag} {v:Value} {u:gX} (hu:apply u h=bF (fun i=>if D=some i then none else h i) B (some o1))
  (C:ρ B=none→B=new)
  (L:∀F' j,(∀β a v,Fr (own φ h) Bw w β a v→F' β a v)→(∀i u,ρ i=some u→j i=some u)→j B=some u1→V F' j x v) :
  aF Bw w0 ρ φ h w new x u v w' :=
 dW m D B o1 u1 (fun k=>dw u1=some k) row J E z
  (fun hl k hk=>OR.Lk (I (fun _ _ _=>True) (fun i=>(ρ i)) (fun _ _ _ _=>trivial) (fun _ _ h=>h)) hl hk)
  (fun hl k hk=>(hb hl k hk).imp id (fun e=>E k e)) I hu C L
theorem aF.after{u1 u2:gX}{h1:Nat→Qz}(e:apply u1 h=h1)(E:∀β a v,Fr (own φ h) Bw w β a v→Fr (own φ h1) Bw w β a v){x:ag}{v:Value}{w':World}
  (hp:aF Bw w0 ρ φ h1 w new x u2 v w'):aF Bw w0 ρ φ h w new x (u1++u2) v w':=by
 subst e;obtain⟨j,z,B,C,I,J,D⟩:=hp;rw[←eV]at B C D;exact⟨j,z,B,fun β a v L=>C _ _ _ (E _ _ _ L),I,J,D⟩
theorem AI(m:Mem Bw w0 ρ φ h w)(hn:ρ new=none){q:List ag}{arr:QU}{z:TypeId}(B:arr.size=q.length)
  (hl:VL (Fr (own φ h) Bw w) ρ q (fun k u=>arr[k]? = some u)) (sz:Nat) :
  aF Bw w0 ρ φ h w new (.adr new 0 sz 0) [(new,some (.box q))] (.pointer (some ⟨w.heap.size,0,none⟩)) (w.alloc (.cells arr z)):=by
 refine cT m none new (.box q) (.pointer (some ⟨w.heap.size,0,none⟩)) none (World.grownBy_alloc w _ none) (fun k e=>by cases e) (.inl hn) (fun _ k hk=>?_) (fun F' x A j=>?_)
  (by rw[bn];rfl) (fun _=>rfl) (fun F' x A j p=>?_)
 ·simp only[dw,Option.some.injEq]at hk;exact .inl (by omega)
 ·exact⟨_,z,arr,rfl,rfl,heap_alloc_new w _,B,VL.mono A j (fun _ _ h=>h) hl⟩
 ·simp only[V];exact⟨_,.inl p,by simp⟩
theorem DA(m:Mem Bw w0 ρ φ h w)(hn:ρ new=none){o:Oper}{a:Act}{t:TypeId}{ti:TI}(ht:aN P t ti)(j:o.op = .alloc t):
  Good P o a w (aF Bw w0 ρ φ h w new (.adr new 0 ti.size 0) [(new,some (.box ti.z))]):=by
 obtain⟨z,h1,h2,p,q⟩:=dT ht w;refine Good.aG (v:= .pointer (some ⟨w.heap.size,0,none⟩)) (w':=w.alloc (.cells z.cells t)) ?_ (AI m hn (by rw[←h2];simp) ?_ _)
 ·simp[execOp,j,Instr.alloc,h1,newVar,newRow]
 ·rw[←h2];have:=gw (F:=Fr (own φ h) Bw w) (ρ:=ρ) z.cells.toList;simpa using this
theorem Ir(m:Mem Bw w0 ρ φ h w)(hn:ρ new=none){o:Oper}{a:Act}{t:TypeId}{j:Operand}{x:ag}(p:V (Fr (own φ h) Bw w) ρ x (a.eval j))(hc:(cellsOf x).all ag.cell=true)
  (q:o.op = .box t j) (sz:Nat):Good P o a w (aF Bw w0 ρ φ h w new (.adr new 0 sz 0) [(new,some (.box (cellsOf x)))]):=by
 obtain⟨h1,h2,z⟩:=fV hc p;refine Good.aG (v:= .pointer (some ⟨w.heap.size,0,none⟩)) (w':=w.alloc (.cells (a.eval j).cells t)) ?_ (AI m hn (by simpa using h2) (VL.mono (fun _ _ _ h=>h) (fun _ _ h=>h) (fun k u hk=>by simpa using hk) h1) _);simp[execOp,q,Instr.box,newVar,newRow]
def mr(h:Nat→Qz):ag→Option (List ag×Nat×Prop)
 | .adr id i sz off=>match h id with
  | some (.box cs)=>some (cs,i*sz+off,True)
  | some (.arr _ A j)=>if sz=A.size then some (flat false A (j.getD i A.zero),off,i<j.length)else none
  | some (.fz A j)=>if sz=A.size then some (flat false A (j.getD i A.zero),off,i<j.length)else none
  | _=>none
 | .fad _ cs off=>if cs.all ag.cell then some (cs,off,True)else none
 | _=>none
theorem xh{F:Bool→Addr→Value→Prop}{A:Ty}{j:List A.den}{i:Nat}{g:Nat→Value→Prop}(hi:i<j.length)(q:ai (F false) A j[i] g):VL F ρ (flat false A (j.getD i A.zero)) g:=by
 have e:j.getD i A.zero=j[i]:=by simp[hi]
 rw[e];exact jL false A _ _ q
theorem qd(m:Mem Bw w0 ρ φ h w){x:ag}{v:Value}(E:V (Fr (own φ h) Bw w) ρ x v){cs:List ag}{off:Nat}{c:Prop}(hc:mr h x=some (cs,off,c))(p:c):
  ∃B:Addr,v = .pointer (some (B.add off))∧VL (Fr (own φ h) Bw w) ρ cs (fun k u=>w.cell? (B.add k)=some u):=by
 unfold mr at hc;split at hc
 ·rename_i id i sz O;simp only[V]at E;obtain⟨g,j,rfl⟩:=E;split at hc
  ·rename_i Z hi;cases hc;obtain⟨u,z,I,X,cells,rfl,a1,J,Y,r3⟩:=m.ob id _ hi;rw[z]at j;have L:I=g:=by
    rcases j with j | ⟨n,c,j⟩
    ·simpa using j
    ·cases j
   subst L;refine⟨⟨I,0,none⟩,by rw[ck,Nat.zero_add],VL.mono (fun _ _ _ h=>h) (fun _ _ h=>h) (fun k u hk=>?_) r3⟩;rw[ck,Nat.zero_add,cell_of_row w I k cells X (0,0) J];exact hk
  ·rename_i X A xs hi;split at hc
   ·rename_i e;cases hc;obtain⟨u,z,q⟩:=m.ob id _ hi;obtain⟨_,_,cells,J,Y⟩:=q;have C:=J.cells (g:=g);have M:u.ownBlock=some g:=by
     rcases J.2 with⟨rfl,hn⟩ | ⟨I,cap,a2,rfl,_⟩
     ·omega
     ·rw[z]at j;rcases j with j | ⟨n,c,j⟩
      ·cases j
      ·simp only[Option.some.injEq,Value.slice.injEq]at j;obtain⟨j,_⟩:=j;cases j;rfl
    refine⟨⟨g,i*A.size,none⟩,by rw[ck,e],xh p (ai.mono (fun _ _ h=>h) (fun k u hk=>?_) (Y i p))⟩;have:=C M _ _ hk;rw[ck,Nat.zero_add]at this;rw[ck];exact this
   ·cases hc
  ·rename_i A xs hi;split at hc
   ·rename_i e;cases hc;obtain⟨u,z,q⟩:=m.ob id _ hi;simp only[OR,V,ai]at q;obtain⟨_,B,len,cap,rfl,hl,q⟩:=q;obtain⟨b,hb,q3⟩:=q i p;subst hb;rw[z]at j;have N:b=⟨g,0,none⟩:=by
     rcases j with j | ⟨n,c,j⟩
     ·cases j
     ·simp only[Option.some.injEq,Value.slice.injEq]at j;exact j.1
    subst N;refine⟨⟨g,i*A.size,none⟩,by rw[ck,e],xh p (ai.mono (fun _ _ h=>h) (fun k u hk=>?_) q3)⟩;rw[ck,Nat.zero_add]at hk;rw[ck];exact hk.2.2
   ·cases hc
  ·cases hc
 ·split at hc
  ·rename_i D;cases hc;simp only[V]at E;obtain⟨B,rfl,hl⟩:=E;refine⟨B,rfl,VL.mk fun k x hk=>?_⟩;obtain⟨u,z,q⟩:=VL.get hl hk;exact⟨u,World.jH z.2.2 (ra (List.all_eq_true.1 D _ (List.mem_of_getElem? hk)) q),q⟩
  ·cases hc
 ·cases hc
theorem FT(m:Mem Bw w0 ρ φ h w){o:Oper}{a:Act}{t:TypeId}{ti:TI}(ht:aN P t ti){p:Operand}{x:ag}(u:V (Fr (own φ h) Bw w) ρ x (a.eval p))(z:o.op = .load t p)
  {q:List ag} {off:Nat} {c:Prop} (hc:mr h x=some (q,off,c)) (j:c) {y:ag} (B:gq ti q off=some y):Good P o a w (aF Bw w0 ρ φ h w new y []):=by
 obtain⟨E,h1,h2⟩:=qd m u hc j;obtain⟨v,C,D⟩:=iO (P:=P) ht h2 B;refine Good.aG (v:=v) (w':=w) ?_ (aF.pure m D);simp[execOp,z,Instr.loadAt,h1,Instr.sureAddr,C]
theorem po(m:Mem Bw w0 ρ φ h w){o:Oper}{a:Act}{t:TypeId}{ti:TI}(ht:aN P t ti){B:Operand}{x:ag}(z:V (Fr (own φ h) Bw w) ρ x (a.eval B)){f:Nat}(O:o.op = .fieldAddr t B f)
  {L:List (Nat×TypeId)} (hk:ti.k = .st L) {off:Nat} {M:TypeId} (hf:L[f]? = some (off,M)) {y:ag}
  (X:(∃id i sz k,x = .adr id i sz k∧y = .adr id i sz (k+off))∨(∃β C k,x = .fad β C k∧y = .fad β C (k+off))):Good P o a w (aF Bw w0 ρ φ h w new y []):=by
 obtain⟨d,h1,h2⟩:=ht.hu;rw[hk]at h2;obtain⟨D,rfl,Y,Z⟩:=h2;subst Y;rw[List.getElem?_map]at hf;obtain⟨j,p,E⟩:∃j,D.toList[f]? = some j∧(j.offset,j.type)=(off,M):=by
  cases N:D.toList[f]? with
  | none=>rw[N]at hf;cases hf
  | some j=>rw[N]at hf;exact⟨j,rfl,by simpa using hf⟩
 cases E;have I:D[f]? = some j:=by simpa using p
 obtain⟨i,hi,J⟩:=Z j (List.mem_of_getElem? p);have key:∀q:Addr,a.eval B = .pointer (some q)→(execOp a.eval o).run P w = .ok (.value (.pointer (some (q.add j.offset)))) w:=fun q u=>by simp[execOp,O,Instr.fieldAt,run_underlying h1,I,u,Instr.sureAddr,fieldPlace,sizeOf,typeInfo,hi,J]
 rcases X with⟨id,i,sz,k,rfl,rfl⟩ | ⟨β,C,k,rfl,rfl⟩
 ·simp only[V]at z;obtain⟨g,hg,u⟩:=z;refine Good.aG (key _ u) (aF.pure m ?_);simp only[V];exact⟨g,hg,by rw[ck,Nat.add_assoc]⟩
 ·simp only[V]at z;obtain⟨q,u,hl⟩:=z;refine Good.aG (key _ u) (aF.pure m ?_);simp only[V];exact⟨q,by rw[add_add],hl⟩
def vJ(T':Ty):(T:Ty)→T.den→Nat→Option T'.den
 | T,x,off=>if h:T=T'∧off=0 then some (h.1 ▸ x)else match T,x with
  | .prod a b,x=>if off<a.size then vJ T' a x.1 off else vJ T' b x.2 (off - a.size)
  | _,_=>none
theorem Cn{F:Addr→Value→Prop}{T':Ty}:∀ {T:Ty} {x:T.den} {off:Nat} {y:T'.den},vJ T' T x off=some y→∀ {g:Nat→Value→Prop},ai F T x g→ai F T' y (fun k u=>g (off+k) u):=fun {T}=>by
 induction T with
 | prod a b p q =>
  intro x off y h g j;unfold vJ at h;split at h
  ·rename_i hc;obtain⟨rfl,rfl⟩:=hc;cases h;exact ai.mono (fun _ _ h=>h) (fun k u hk=>by rwa [Nat.zero_add]) j
  ·simp only at h;split at h
   ·exact p h j.1
   ·rename_i z;refine ai.mono (fun _ _ h=>h) (fun k u hk=>?_) (q h j.2);rwa [←Nat.add_assoc,Nat.add_sub_cancel' (Nat.le_of_not_lt z)]at hk
 | _ =>
  intro x off y h g j;unfold vJ at h;split at h
  ·rename_i hc;obtain⟨rfl,rfl⟩:=hc;cases h;exact ai.mono (fun _ _ h=>h) (fun k u hk=>by rwa [Nat.zero_add]) j
  ·simp only at h;cases h
theorem xR(m:Mem Bw w0 ρ φ h w){o:Oper}{a:Act}{t:TypeId}{ti:TI}(ht:aN P t ti){xo:Operand}{β:Bool}{T:Ty}{x:T.den}(C:V (Fr (own φ h) Bw w) ρ (.loc β T x) (a.eval xo)){f:Nat}(J:o.op = .fieldAddr t xo f)
  {D:List (Nat×TypeId)} (hk:ti.k = .st D) {off:Nat} {E:TypeId} (hf:D[f]? = some (off,E)) {T':Ty} {y:T'.den} (L:vJ T' T x off=some y):Good P o a w (aF Bw w0 ρ φ h w new (.loc β T' y) []):=by
 obtain⟨d,h1,h2⟩:=ht.hu;rw[hk]at h2;obtain⟨q,rfl,M,N⟩:=h2;subst M;rw[List.getElem?_map]at hf;obtain⟨j,p,z⟩:∃j,q.toList[f]? = some j∧(j.offset,j.type)=(off,E):=by
  cases I:q.toList[f]? with
  | none=>rw[I]at hf;cases hf
  | some j=>rw[I]at hf;exact⟨j,rfl,by simpa using hf⟩
 cases z;have A:q[f]? = some j:=by simpa using p
 obtain⟨i,hi,B⟩:=N j (List.mem_of_getElem? p);simp only[V]at C;obtain⟨O,X,Y⟩:=C;refine Good.aG (v:= .pointer (some (O.add j.offset))) (w':=w) (by simp[execOp,J,Instr.fieldAt,run_underlying h1,A,X,Instr.sureAddr,fieldPlace,sizeOf,typeInfo,hi,B]) (aF.pure m ?_);simp only[V];exact⟨_,rfl,ai.mono (fun _ _ h=>h) (fun k u hk=>by rwa [add_add]) (Cn L Y)⟩
theorem zc(m:Mem Bw w0 ρ φ h w){o:Oper}{a:Act}{t:TypeId}{ti:TI}(ht:aN P t ti){xo:Operand}{β:Bool}{T:Ty}{x:T.den}(I:V (Fr (own φ h) Bw w) ρ (.loc β T x) (a.eval xo))(L:o.op = .load t xo)
  (hT:ti.T=some T) (C:T.scalar=true):Good P o a w (aF Bw w0 ρ φ h w new (.p β T x) []):=by
 simp only[V]at I;obtain⟨ad,M,N⟩:=I;have q:=jL (ρ:=ρ) β T x _ N;have z:flat β T x=[.p (if T.isRef then β else false) T x]∨flat β T x=[.p β T x]:=by cases T <;> simp[Ty.scalar]at C <;> simp[flat,Ty.isRef]
 obtain⟨O,A,_⟩:=ht.hT T hT;have B:ti.k.agg=false:=by rw[C]at A;simpa using A.symm
 have X:∀y:ag,flat β T x=[y]→V (Fr (own φ h) Bw w) ρ y=V (Fr (own φ h) Bw w) ρ y:=fun _ _=>rfl
 obtain⟨u,hu,Y⟩:∃u,w.cell? (ad.add 0)=some u∧V (Fr (own φ h) Bw w) ρ (.p β T x) u:=by
  have Z:T.size=1:=Ty.fG C;rcases z with e | e
  ·rw[e]at q;obtain⟨u,D,j⟩:=VL.get q (k:=0) rfl;refine⟨u,World.jH D.2.2 (ra rfl j),?_⟩;by_cases E:T.isRef=true
   ·simpa [E]using j
   ·simp only[E]at j;simp only[V]at j ⊢;exact⟨j.1,rR j.1 (by simpa using E) j.2⟩
  ·rw[e]at q;obtain⟨u,D,j⟩:=VL.get q (k:=0) rfl;exact⟨u,World.jH D.2.2 (ra rfl j),j⟩
 obtain⟨v,J,h4⟩:=iO (P:=P) (F:=Fr (own φ h) Bw w) (ρ:=ρ) (cs:=[.p β T x]) (off:=0) (x:= .p β T x) ht (w:=w) (ad:=ad) (by
  simp only[VL];exact⟨⟨u,hu,Y⟩,trivial⟩) (by unfold gq;rw[B];rfl)
 have h0:ad.add 0=ad:=by simp[Addr.add]
 rw[h0]at J;refine Good.aG (v:=v) (w':=w) ?_ (aF.pure m h4);simp[execOp,L,Instr.loadAt,M,Instr.sureAddr,J]
theorem xQ(m:Mem Bw w0 ρ φ h w){o:Oper}{a:Act}{t e:TypeId}{ti x:TI}{n:Nat}(ht:aN P t ti)(hk:ti.k = .ar n e)(z:aN P e x)(A:x.size=1){xo io:Operand}{β:Bool}{k:IntKind}{q:fh n}
  (E:V (Fr (own φ h) Bw w) ρ (.loc β (.arr k n) q) (a.eval xo)) {B:Bool} {I:IntKind} {i:Int} (hi:V (Fr (own φ h) Bw w) ρ (.p B (.int I) i) (a.eval io)) (J:o.op = .indexAddr t xo io) (L:0≤i) (h1:i<(n:Int)) :
  Good P o a w (aF Bw w0 ρ φ h w new (.loc β (.int k) (fF q i.toNat)) []):=by
 obtain⟨d,C,j⟩:=ht.hu;rw[hk]at j;simp only[UK]at j;subst j;simp only[V]at E;obtain⟨M,N,O⟩:=E;have D:=bQ hi;refine Good.aG (v:= .pointer (some (M.add (i.toNat*x.size)))) (w':=w) (by simp[execOp,J,Instr.indexAt,asIntOf,D,N,run_underlying C,Instr.sureAddr,run_sizeOf z,L,h1]) (aF.pure m ?_);simp only[V];refine⟨_,rfl,?_⟩;have u:i.toNat<q.1.length:=by rw[q.2];omega
 have X:=O i.toNat u;simp only[ai];rw[add_add,A,Nat.mul_one,Nat.add_zero];have e:fF q i.toNat=q.1[i.toNat]:=by simp[fF,u]
 rw[e];exact X
theorem tv(m:Mem Bw w0 ρ φ h w){o:Oper}{a:Act}{t e:TypeId}{ti z:TI}(ht:aN P t ti)(hk:ti.k = .sl e)(B:aN P e z){xo io:Operand}{β:Bool}{A:Ty}{j:List A.den}(x:V (Fr (own φ h) Bw w) ρ (.p β (.slice A) j) (a.eval xo))
  {C:Bool} {k:IntKind} {i:Int} (hi:V (Fr (own φ h) Bw w) ρ (.p C (.int k) i) (a.eval io)) (E:o.op = .indexAddr t xo io) (D:A.size=z.size) (I:0≤i) (h1:i<j.length) :
  Good P o a w (aF Bw w0 ρ φ h w new (.loc β A (j.getD i.toNat A.zero)) []):=by
 have hu:=aY ht hk;have J:=bQ hi;simp only[V,ai]at x;obtain⟨_,N,len,cap,L,⟨hl,_⟩,x⟩:=x;have q:i.toNat<j.length:=by omega
 obtain⟨b,hb,M⟩:=x i.toNat q;subst hb;refine Good.aG (v:= .pointer (some (b.add (i.toNat*z.size)))) (w':=w) (by simp[execOp,E,Instr.indexAt,asIntOf,J,←L,run_underlying hu,run_sizeOf B,I,hl,h1]) (aF.pure m ?_);simp only[V];refine⟨_,rfl,?_⟩;have e:j.getD i.toNat A.zero=j[i.toNat]:=by simp[q]
 rw[e];exact ai.mono (fun _ _ h=>h) (fun k u hk=>by rw[add_add,←D];exact hk) M
theorem Cz(m:Mem Bw w0 ρ φ h w){o:Oper}{a:Act}{xo:Operand}{β:Bool}{A:Ty}{q:Option A.den}(j:V (Fr (own φ h) Bw w) ρ (.p β (.ptr A) q) (a.eval xo))(u:o.op = .nilCheck xo)(x:q.isSome=true):
  Good P o a w (aF Bw w0 ρ φ h w new (.loc β A (q.getD A.zero)) []):=by
 cases q with
 | none=>cases x
 | some y =>
  obtain⟨_,b,e,z⟩:_∧∃b:Addr,Value.pointer (some b)=a.eval xo∧ai (Fr (own φ h) Bw w β) A y (fun k v=>Fr (own φ h) Bw w β (b.add k) v):=by simpa only [V,ai]using j
  refine Good.aG (v:=a.eval xo) (w':=w) (by simp only[execOp,u,←e];rfl) (aF.pure m ?_);simp only[V,Option.getD_some];exact⟨b,e.symm,z⟩
theorem zH(m:Mem Bw w0 ρ φ h w){o:Oper}{a:Act}{xo:Operand}{β:Bool}{A:Ty}{x:A.den}(j:V (Fr (own φ h) Bw w) ρ (.loc β A x) (a.eval xo))(q:o.op = .nilCheck xo):
  Good P o a w (aF Bw w0 ρ φ h w new (.loc β A x) []):=by
 obtain⟨p,h1,h2⟩:∃p:Addr,a.eval xo = .pointer (some p)∧_:=by simpa only [V]using j
 exact Good.aG (v:=a.eval xo) (w':=w) (by simp only[execOp,q,h1];rfl) (aF.pure m j)
def yN(h:Nat→Qz)(x:ag)(i:Int):Option (ag×Nat×Prop) :=
 match x with
 | .p β (.slice A) j=>some (.fad β (flat β A (j.getD i.toNat A.zero)) 0,A.size,0≤i∧i<j.length)
 | .sl id=>match h id with
  | some (.arr _ A j)=>some (.adr id i.toNat A.size 0,A.size,0≤i∧i<j.length)
  | some (.fz A j)=>some (.fad false (flat false A (j.getD i.toNat A.zero)) 0,A.size,0≤i∧i<j.length)
  | some (.mat _ _ _ q _)=>some (.adr id i.toNat 1 0,1,0≤i∧i<q.length)
  | some (.bytes _ j)=>some (.adr id i.toNat 1 0,1,0≤i∧i<j.length)
  | _=>none
 | _=>none
theorem wQ(m:Mem Bw w0 ρ φ h w){o:Oper}{a:Act}{t e:TypeId}{ti J:TI}(ht:aN P t ti)(hk:ti.k = .sl e)(X:aN P e J){O io:Operand}{x:ag}(I:V (Fr (own φ h) Bw w) ρ x (a.eval O))
  {β:Bool} {k:IntKind} {i:Int} (hi:V (Fr (own φ h) Bw w) ρ (.p β (.int k) i) (a.eval io)) (ho:o.op = .indexAddr t O io)
  {y:ag} {c:Prop} (B:yN h x i=some (y,J.size,c)) (hc:c):Good P o a w (aF Bw w0 ρ φ h w new y []):=by
 have hu:=aY ht hk;have he:=bQ hi;have key:∀(b:Addr) (len cap:Nat),a.eval O = .slice (some b) len cap→0≤i→i<len→(execOp a.eval o).run P w = .ok (.value (.pointer (some (b.add (i.toNat*J.size))))) w:=fun b len cap hb h0 h1=>by simp[execOp,ho,Instr.indexAt,asIntOf,he,hb,run_underlying hu,run_sizeOf X,h0,h1]
 have data:∀(E:Bool) (A:Ty) (xs:List A.den),V (Fr (own φ h) Bw w) ρ (.p E (.slice A) xs) (a.eval O)→A.size=J.size→(0≤i∧i<xs.length) →
   Good P o a w (aF Bw w0 ρ φ h w new (.fad E (flat E A (xs.getD i.toNat A.zero)) 0) []):=fun E A xs I j hc=>by
  simp only[V,ai]at I;obtain⟨_,ad,len,cap,hs,⟨hl,_⟩,I⟩:=I;have L:i.toNat<xs.length:=by omega
  obtain⟨b,hb,hv⟩:=I i.toNat L;subst hb;refine Good.aG (key b len cap hs.symm hc.1 (by omega)) (aF.pure m ?_);simp only[V];refine⟨b.add (i.toNat*J.size),by simp[Addr.add],?_⟩;have e:xs.getD i.toNat A.zero=xs[i.toNat]:=by simp[L]
  rw[e];exact jL E A _ _ (ai.mono (fun _ _ h=>h) (fun k u hk=>by rw[add_add,←j];exact hk) hv)
 unfold yN at B;split at B
 ·simp only[Option.some.injEq,Prod.mk.injEq]at B;obtain⟨rfl,j,rfl⟩:=B;exact data _ _ _ I j hc
 ·rename_i id;simp only[V]at I;obtain⟨C,_,_,_,_⟩:=I;split at B
  ·rename_i M A xs D;simp only[Option.some.injEq,Prod.mk.injEq]at B;obtain⟨rfl,j,rfl⟩:=B;obtain⟨u,q,Y,_,cells,Z,r2⟩:=m.ob id _ D;rw[C]at q;simp only[Option.some.injEq]at q;rcases Z.2 with⟨_,hn⟩ | ⟨g,cap,N,z,_⟩
   ·omega
   ·refine Good.aG (key ⟨g,0,none⟩ _ cap (q.trans z) hc.1 hc.2) (aF.pure m ?_);simp only[V];exact⟨g,.inr ⟨_,_,by rw[C,q,z]⟩,by rw[ck,j];simp⟩
  ·rename_i A xs D;simp only[Option.some.injEq,Prod.mk.injEq]at B;obtain⟨rfl,j,rfl⟩:=B;obtain⟨u,q,q2⟩:=m.ob id _ D;rw[C]at q;simp only[Option.some.injEq]at q;subst q;exact data _ _ _ q2 j hc
  ·rename_i M e2 A a1 a2 D;simp only[Option.some.injEq,Prod.mk.injEq]at B;obtain⟨rfl,j,rfl⟩:=B;obtain⟨u,q,Y,_,_,cells,Z,r2⟩:=m.ob id _ D;rw[C]at q;simp only[Option.some.injEq]at q;rcases Z.2 with⟨_,hn⟩ | ⟨g,cap,N,z,_⟩
   ·omega
   ·refine Good.aG (key ⟨g,0,none⟩ _ cap (q.trans z) hc.1 hc.2) (aF.pure m ?_);simp only[V];exact⟨g,.inr ⟨_,_,by rw[C,q,z]⟩,by rw[ck,←j];simp⟩
  ·rename_i M xs D;simp only[Option.some.injEq,Prod.mk.injEq]at B;obtain⟨rfl,j,rfl⟩:=B;obtain⟨u,q,q2⟩:=m.ob id _ D;rw[C]at q;simp only[Option.some.injEq]at q;rcases q2 with⟨_,hn⟩ | ⟨g,cap,N,mk,z,_⟩
   ·subst hn;simp at hc;omega
   ·refine Good.aG (key ⟨g,0,none⟩ _ cap (q.trans z) hc.1 hc.2) (aF.pure m ?_);simp only[V];exact⟨g,.inr ⟨_,_,by rw[C,q,z]⟩,by rw[ck,←j];simp⟩
  ·cases B
 ·cases B
end
end Go.Tv
