import Derived.Test.YtobbjfkfmdiklaaGreatDoorTvDm
namespace Go.Tv
open Go Go.RowKit
section
variable{P:Program}{Bw:Nat→Prop}{w0:cr P}{ρ:Nat→QW}{φ:Nat→Nat→Prop}{h:Nat→Qz}{w:World}{new:Nat}
theorem OR.J8{F:Bool→Addr→Value→Prop}{S:Nat→Prop}{o:Obj}{u:Value}(h:OR F ρ S w o u)(hl:o.live=true){k:Nat}(hk:dp u=some k):k<w.heap.size:=by
 have key:∀g (x:Go.Obj),w.heap[g]? = some x→g<w.heap.size:=fun g x q=>by
  rcases Nat.lt_or_ge g w.heap.size with h' | h'
  ·exact h'
  ·rw[Array.getElem?_eq_none h']at q;cases q
 cases o with
 | arr e A xs =>
  obtain⟨_,_,cells,⟨_,h2⟩,_⟩:=h;rcases h2 with⟨rfl,_⟩ | ⟨g,cap,j,rfl,_,p,_⟩
  ·simp[dp]at hk
  ·simp only[dp,Option.some.injEq]at hk;subst hk;exact key _ _ p
 | fz A xs=>simp[Obj.live]at hl
 | cutz A xs=>simp[Obj.live]at hl
 | lmp k n xs z =>
  obtain⟨g,t,cells,rfl,_,h1,_⟩:=h;simp only[dp,Option.some.injEq]at hk;subst hk;exact key _ _ h1
 | vrow n sz z =>
  obtain⟨g,t,cells,rfl,_,h1,_⟩:=h;simp only[dp,Option.some.injEq]at hk;subst hk;exact key _ _ h1
 | nds e D I ho =>
  obtain⟨_,_,cells,⟨_,h2⟩,_⟩:=h;rcases h2 with⟨rfl,_⟩ | ⟨g,cap,j,rfl,_,p,_⟩
  ·simp[dp]at hk
  ·simp only[dp,Option.some.injEq]at hk;subst hk;exact key _ _ p
 | mpq b B =>
  obtain⟨_,_,h2⟩:=h;cases b with
  | false=>obtain⟨rfl,_⟩:=h2;simp[dp]at hk
  | true =>
   obtain⟨r,C,clock,rfl,p,_⟩:=h2;simp only[dp,Option.some.injEq]at hk;subst hk;exact key _ _ p
 | box z =>
  obtain⟨g,t,cells,rfl,_,h1,_⟩:=h;simp only[dp,Option.some.injEq]at hk;subst hk;exact key _ _ h1
 | mpo K A B =>
  obtain⟨r,C,clock,rfl,_,h1,_⟩:=h;simp only[dp,Option.some.injEq]at hk;subst hk;exact key _ _ h1
 | mpl K B =>
  obtain⟨r,C,clock,rfl,_,h1,_⟩:=h;simp only[dp,Option.some.injEq]at hk;subst hk;exact key _ _ h1
 | mat e D A E ho =>
  obtain⟨_,_,_,cells,⟨_,h2⟩,_⟩:=h;rcases h2 with⟨rfl,_⟩ | ⟨g,cap,j,rfl,_,p,_⟩
  ·simp[dp]at hk
  ·simp only[dp,Option.some.injEq]at hk;subst hk;exact key _ _ p
 | bytes e xs =>
  rcases h with⟨rfl,_⟩ | ⟨g,cap,j,mk,rfl,_,h1,_⟩
  ·simp[dp]at hk
  ·simp only[dp,Option.some.injEq]at hk;subst hk;exact key _ _ h1
theorem dR(m:Mem Bw w0 ρ φ h w){w':World}(z:QJ)(q:Nat)(o1:Obj)(u1:Value)(A:Nat→Prop)(row:QJ)
  (J:w.grownBy w' row)
  (L:∀k,row=some k→∃i o,z=some i∧h i=some o∧o.live=true∧φ i k)
  (f:ρ q=none∨(z=some q∧ρ q=some u1))
  (C:o1.live=true→∀k,A k→k<w'.heap.size)
  (hb:o1.live=true→∀k,A k→w.heap.size≤k∨∃i o,z=some i∧h i=some o∧o.live=true∧φ i k)
  (ho:∀F' j,(∀β a v,Fr (own φ h) Bw w β a v→F' β a v)→(∀i u,ρ i=some u→j i=some u)→OR F' j A w' o1 u1)
  {x:af} {v:Value} {u:gZ} (hu:apply u h=bG (fun i=>if z=some i then none else h i) q (some o1))
  (B:ρ q=none→q=new)
  (M:∀F' j,(∀β a v,Fr (own φ h) Bw w β a v→F' β a v)→(∀i u,ρ i=some u→j i=some u)→j q=some u1→V F' j x v) :
  aF Bw w0 ρ φ h w new x u v w':=by
 obtain⟨N,E,I⟩:=m.put z q o1 u1 A row J L f C hb ho;refine⟨bG ρ q (some u1),bG φ q A,by rw[hu];exact N,by rw[hu];exact E,I,fun i u hi=>?_,M _ _ (by rw[hu];exact E) I (aB _ _ _)⟩;by_cases e:i=q
 ·subst e;rcases f with D | ⟨_,D⟩
  ·exact .inr ⟨0,by omega,B D⟩
  ·rw[aB]at hi;exact .inl (by rw[D,hi])
 ·rw[aR _ _ e]at hi;exact .inl hi
theorem cO(m:Mem Bw w0 ρ φ h w){w':World}(C:QJ)(z:Nat)(o1:Obj)(u1:Value)(row:QJ)
  (E:w.grownBy w' row)
  (D:∀k,row=some k→∃i o,C=some i∧h i=some o∧o.live=true∧φ i k)
  (j:ρ z=none∨(C=some z∧ρ z=some u1))
  (hb:o1.live=true→∀k,dp u1=some k→w.heap.size≤k∨row=some k)
  (ho:∀F' f,(∀β a v,Fr (own φ h) Bw w β a v→F' β a v)→(∀i u,ρ i=some u→f i=some u)→OR F' f (fun k=>dp u1=some k) w' o1 u1)
  {x:af} {v:Value} {u:gZ} (hu:apply u h=bG (fun i=>if C=some i then none else h i) z (some o1))
  (B:ρ z=none→z=new)
  (I:∀F' f,(∀β a v,Fr (own φ h) Bw w β a v→F' β a v)→(∀i u,ρ i=some u→f i=some u)→f z=some u1→V F' f x v) :
  aF Bw w0 ρ φ h w new x u v w' :=
 dR m C z o1 u1 (fun k=>dp u1=some k) row E D j
  (fun hl k hk=>OR.J8 (ho (fun _ _ _=>True) (fun i=>(ρ i)) (fun _ _ _ _=>trivial) (fun _ _ h=>h)) hl hk)
  (fun hl k hk=>(hb hl k hk).imp id (fun e=>D k e)) ho hu B I
theorem aF.after{u1 u2:gZ}{h1:Nat→Qz}(e:apply u1 h=h1)(E:∀β a v,Fr (own φ h) Bw w β a v→Fr (own φ h1) Bw w β a v){x:af}{v:Value}{w':World}
  (hp:aF Bw w0 ρ φ h1 w new x u2 v w'):aF Bw w0 ρ φ h w new x (u1++u2) v w':=by
 subst e;obtain⟨j,z,B,C,I,J,D⟩:=hp;rw[←eU]at B C D;exact⟨j,z,B,fun β a v L=>C _ _ _ (E _ _ _ L),I,J,D⟩
theorem Cz(m:Mem Bw w0 ρ φ h w)(hn:ρ new=none){p:List af}{arr:QU}{x:TypeId}(A:arr.size=p.length)
  (hl:VL (Fr (own φ h) Bw w) ρ p (fun k u=>arr[k]? = some u)) (sz:Nat) :
  aF Bw w0 ρ φ h w new (.adr new 0 sz 0) [(new,some (.box p))] (.pointer (some ⟨w.heap.size,0,none⟩)) (w.alloc (.cells arr x)):=by
 refine cO m none new (.box p) (.pointer (some ⟨w.heap.size,0,none⟩)) none (World.grownBy_alloc w _ none) (fun k e=>by cases e) (.inl hn) (fun _ k hk=>?_) (fun F' q z f=>?_)
  (by rw[bn];rfl) (fun _=>rfl) (fun F' q z f j=>?_)
 ·simp only[dp,Option.some.injEq]at hk;exact .inl (by omega)
 ·exact⟨_,x,arr,rfl,rfl,heap_alloc_new w _,A,VL.mono z f (fun _ _ h=>h) hl⟩
 ·simp only[V];exact⟨_,.inl j,by simp⟩
theorem DH(m:Mem Bw w0 ρ φ h w)(hn:ρ new=none){o:Oper}{a:Act}{t:TypeId}{ti:TI}(ht:aO P t ti)(ho:o.op = .alloc t):
  Good P o a w (aF Bw w0 ρ φ h w new (.adr new 0 ti.size 0) [(new,some (.box ti.z))]):=by
 obtain⟨z,h1,h2,f,j⟩:=dP ht w;refine Good.aG (v:= .pointer (some ⟨w.heap.size,0,none⟩)) (w':=w.alloc (.cells z.cells t)) ?_ (Cz m hn (by rw[←h2];simp) ?_ _)
 ·simp[execOp,ho,Instr.alloc,h1,newVar,newRow]
 ·rw[←h2];have:=gu (F:=Fr (own φ h) Bw w) (ρ:=ρ) z.cells.toList;simpa using this
theorem Hh(m:Mem Bw w0 ρ φ h w)(hn:ρ new=none){o:Oper}{a:Act}{t:TypeId}{f:Operand}{x:af}(j:V (Fr (own φ h) Bw w) ρ x (a.eval f))(hc:(cellsOf x).all af.cell=true)
  (ho:o.op = .box t f) (sz:Nat):Good P o a w (aF Bw w0 ρ φ h w new (.adr new 0 sz 0) [(new,some (.box (cellsOf x)))]):=by
 obtain⟨h1,h2,p⟩:=fV hc j;refine Good.aG (v:= .pointer (some ⟨w.heap.size,0,none⟩)) (w':=w.alloc (.cells (a.eval f).cells t)) ?_ (Cz m hn (by simpa using h2) (VL.mono (fun _ _ _ h=>h) (fun _ _ h=>h) (fun k u hk=>by simpa using hk) h1) _);simp[execOp,ho,Instr.box,newVar,newRow]
def me(h:Nat→Qz):af→Option (List af×Nat×Prop)
 | .adr id i sz off=>match h id with
  | some (.box cs)=>some (cs,i*sz+off,True)
  | some (.arr _ A f)=>if sz=A.size then some (flat false A (f.getD i A.zero),off,i<f.length)else none
  | some (.fz A f)=>if sz=A.size then some (flat false A (f.getD i A.zero),off,i<f.length)else none
  | _=>none
 | .fad _ cs off=>if cs.all af.cell then some (cs,off,True)else none
 | _=>none
theorem vS{F:Bool→Addr→Value→Prop}{A:Ty}{f:List A.den}{i:Nat}{g:Nat→Value→Prop}(hi:i<f.length)(j:ah (F false) A f[i] g):VL F ρ (flat false A (f.getD i A.zero)) g:=by
 have e:f.getD i A.zero=f[i]:=by simp[hi]
 rw[e];exact jN false A _ _ j
theorem qh(m:Mem Bw w0 ρ φ h w){x:af}{v:Value}(D:V (Fr (own φ h) Bw w) ρ x v){cs:List af}{off:Nat}{c:Prop}(hc:me h x=some (cs,off,c))(j:c):
  ∃z:Addr,v = .pointer (some (z.add off))∧VL (Fr (own φ h) Bw w) ρ cs (fun k u=>w.cell? (z.add k)=some u):=by
 unfold me at hc;split at hc
 ·rename_i id i sz N;simp only[V]at D;obtain⟨g,f,rfl⟩:=D;split at hc
  ·rename_i Y hi;cases hc;obtain⟨u,q,E,O,cells,rfl,Z,I,X,r3⟩:=m.ob id _ hi;rw[q]at f;have J:E=g:=by
    rcases f with f | ⟨n,c,f⟩
    ·simpa using f
    ·cases f
   subst J;refine⟨⟨E,0,none⟩,by rw[cj,Nat.zero_add],VL.mono (fun _ _ _ h=>h) (fun _ _ h=>h) (fun k u hk=>?_) r3⟩;rw[cj,Nat.zero_add,cell_of_row w E k cells O (0,0) I];exact hk
  ·rename_i O A xs hi;split at hc
   ·rename_i e;cases hc;obtain⟨u,q,p⟩:=m.ob id _ hi;obtain⟨_,_,cells,I,X⟩:=p;have B:=I.cells (g:=g);have L:u.ownBlock=some g:=by
     rcases I.2 with⟨rfl,hn⟩ | ⟨E,cap,a1,rfl,_⟩
     ·omega
     ·rw[q]at f;rcases f with f | ⟨n,c,f⟩
      ·cases f
      ·simp only[Option.some.injEq,Value.slice.injEq]at f;obtain⟨f,_⟩:=f;cases f;rfl
    refine⟨⟨g,i*A.size,none⟩,by rw[cj,e],vS j (ah.mono (fun _ _ h=>h) (fun k u hk=>?_) (X i j))⟩;have:=B L _ _ hk;rw[cj,Nat.zero_add]at this;rw[cj];exact this
   ·cases hc
  ·rename_i A xs hi;split at hc
   ·rename_i e;cases hc;obtain⟨u,q,p⟩:=m.ob id _ hi;simp only[OR,V,ah]at p;obtain⟨_,z,len,cap,rfl,hl,p⟩:=p;obtain⟨b,hb,q3⟩:=p i j;subst hb;rw[q]at f;have M:b=⟨g,0,none⟩:=by
     rcases f with f | ⟨n,c,f⟩
     ·cases f
     ·simp only[Option.some.injEq,Value.slice.injEq]at f;exact f.1
    subst M;refine⟨⟨g,i*A.size,none⟩,by rw[cj,e],vS j (ah.mono (fun _ _ h=>h) (fun k u hk=>?_) q3)⟩;rw[cj,Nat.zero_add]at hk;rw[cj];exact hk.2.2
   ·cases hc
  ·cases hc
 ·split at hc
  ·rename_i C;cases hc;simp only[V]at D;obtain⟨z,rfl,hl⟩:=D;refine⟨z,rfl,VL.mk fun k x hk=>?_⟩;obtain⟨u,q,p⟩:=VL.get hl hk;exact⟨u,World.jF q.2.2 (sJ (List.all_eq_true.1 C _ (List.mem_of_getElem? hk)) p),p⟩
  ·cases hc
 ·cases hc
theorem Fy(m:Mem Bw w0 ρ φ h w){o:Oper}{a:Act}{t:TypeId}{ti:TI}(ht:aO P t ti){j:Operand}{x:af}(q:V (Fr (own φ h) Bw w) ρ x (a.eval j))(ho:o.op = .load t j)
  {p:List af} {off:Nat} {c:Prop} (hc:me h x=some (p,off,c)) (f:c) {y:af} (u:gn ti p off=some y):Good P o a w (aF Bw w0 ρ φ h w new y []):=by
 obtain⟨C,h1,h2⟩:=qh m q hc f;obtain⟨v,z,B⟩:=iO (P:=P) ht h2 u;refine Good.aG (v:=v) (w':=w) ?_ (aF.pure m B);simp[execOp,ho,Instr.loadAt,h1,Instr.sureAddr,z]
theorem o5(m:Mem Bw w0 ρ φ h w){o:Oper}{a:Act}{t:TypeId}{ti:TI}(ht:aO P t ti){C:Operand}{x:af}(B:V (Fr (own φ h) Bw w) ρ x (a.eval C)){f:Nat}(ho:o.op = .fieldAddr t C f)
  {M:List (Nat×TypeId)} (hk:ti.k = .st M) {off:Nat} {N:TypeId} (p:M[f]? = some (off,N)) {y:af}
  (X:(∃id i sz k,x = .adr id i sz k∧y = .adr id i sz (k+off))∨(∃β D k,x = .fad β D k∧y = .fad β D (k+off))):Good P o a w (aF Bw w0 ρ φ h w new y []):=by
 obtain⟨d,h1,h2⟩:=ht.hu;rw[hk]at h2;obtain⟨E,rfl,Y,Z⟩:=h2;subst Y;rw[List.getElem?_map]at p;obtain⟨j,q,I⟩:∃j,E.toList[f]? = some j∧(j.offset,j.type)=(off,N):=by
  cases O:E.toList[f]? with
  | none=>rw[O]at p;cases p
  | some j=>rw[O]at p;exact⟨j,rfl,by simpa using p⟩
 cases I;have J:E[f]? = some j:=by simpa using q
 obtain⟨i,hi,L⟩:=Z j (List.mem_of_getElem? q);have key:∀u:Addr,a.eval C = .pointer (some u)→(execOp a.eval o).run P w = .ok (.value (.pointer (some (u.add j.offset)))) w:=fun u z=>by simp[execOp,ho,Instr.fieldAt,run_underlying h1,J,z,Instr.sureAddr,fieldPlace,sizeOf,typeInfo,hi,L]
 rcases X with⟨id,i,sz,k,rfl,rfl⟩ | ⟨β,D,k,rfl,rfl⟩
 ·simp only[V]at B;obtain⟨g,hg,z⟩:=B;refine Good.aG (key _ z) (aF.pure m ?_);simp only[V];exact⟨g,hg,by rw[cj,Nat.add_assoc]⟩
 ·simp only[V]at B;obtain⟨u,z,hl⟩:=B;refine Good.aG (key _ z) (aF.pure m ?_);simp only[V];exact⟨u,by rw[add_add],hl⟩
def vH(T':Ty):(T:Ty)→T.den→Nat→Option T'.den
 | T,x,off=>if h:T=T'∧off=0 then some (h.1 ▸ x)else match T,x with
  | .prod a b,x=>if off<a.size then vH T' a x.1 off else vH T' b x.2 (off - a.size)
  | _,_=>none
theorem BT{F:Addr→Value→Prop}{T':Ty}:∀ {T:Ty} {x:T.den} {off:Nat} {y:T'.den},vH T' T x off=some y→∀ {g:Nat→Value→Prop},ah F T x g→ah F T' y (fun k u=>g (off+k) u):=fun {T}=>by
 induction T with
 | prod a b j p =>
  intro x off y h g f;unfold vH at h;split at h
  ·rename_i hc;obtain⟨rfl,rfl⟩:=hc;cases h;exact ah.mono (fun _ _ h=>h) (fun k u hk=>by rwa [Nat.zero_add]) f
  ·simp only at h;split at h
   ·exact j h f.1
   ·rename_i q;refine ah.mono (fun _ _ h=>h) (fun k u hk=>?_) (p h f.2);rwa [←Nat.add_assoc,Nat.add_sub_cancel' (Nat.le_of_not_lt q)]at hk
 | _ =>
  intro x off y h g f;unfold vH at h;split at h
  ·rename_i hc;obtain⟨rfl,rfl⟩:=hc;cases h;exact ah.mono (fun _ _ h=>h) (fun k u hk=>by rwa [Nat.zero_add]) f
  ·simp only at h;cases h
theorem xn(m:Mem Bw w0 ρ φ h w){o:Oper}{a:Act}{t:TypeId}{ti:TI}(ht:aO P t ti){xo:Operand}{β:Bool}{T:Ty}{x:T.den}(D:V (Fr (own φ h) Bw w) ρ (.loc β T x) (a.eval xo)){f:Nat}(ho:o.op = .fieldAddr t xo f)
  {E:List (Nat×TypeId)} (hk:ti.k = .st E) {off:Nat} {I:TypeId} (p:E[f]? = some (off,I)) {T':Ty} {y:T'.den} (L:vH T' T x off=some y):Good P o a w (aF Bw w0 ρ φ h w new (.loc β T' y) []):=by
 obtain⟨d,h1,h2⟩:=ht.hu;rw[hk]at h2;obtain⟨z,rfl,M,N⟩:=h2;subst M;rw[List.getElem?_map]at p;obtain⟨j,q,A⟩:∃j,z.toList[f]? = some j∧(j.offset,j.type)=(off,I):=by
  cases J:z.toList[f]? with
  | none=>rw[J]at p;cases p
  | some j=>rw[J]at p;exact⟨j,rfl,by simpa using p⟩
 cases A;have B:z[f]? = some j:=by simpa using q
 obtain⟨i,hi,C⟩:=N j (List.mem_of_getElem? q);simp only[V]at D;obtain⟨O,X,Y⟩:=D;refine Good.aG (v:= .pointer (some (O.add j.offset))) (w':=w) (by simp[execOp,ho,Instr.fieldAt,run_underlying h1,B,X,Instr.sureAddr,fieldPlace,sizeOf,typeInfo,hi,C]) (aF.pure m ?_);simp only[V];exact⟨_,rfl,ah.mono (fun _ _ h=>h) (fun k u hk=>by rwa [add_add]) (BT L Y)⟩
theorem zW(m:Mem Bw w0 ρ φ h w){o:Oper}{a:Act}{t:TypeId}{ti:TI}(ht:aO P t ti){xo:Operand}{β:Bool}{T:Ty}{x:T.den}(E:V (Fr (own φ h) Bw w) ρ (.loc β T x) (a.eval xo))(ho:o.op = .load t xo)
  (hT:ti.T=some T) (B:T.scalar=true):Good P o a w (aF Bw w0 ρ φ h w new (.p β T x) []):=by
 simp only[V]at E;obtain⟨ad,J,L⟩:=E;have j:=jN (ρ:=ρ) β T x _ L;have q:flat β T x=[.p (if T.isRef then β else false) T x]∨flat β T x=[.p β T x]:=by cases T <;> simp[Ty.scalar]at B <;> simp[flat,Ty.isRef]
 obtain⟨M,z,_⟩:=ht.hT T hT;have A:ti.k.agg=false:=by rw[B]at z;simpa using z.symm
 have N:∀y:af,flat β T x=[y]→V (Fr (own φ h) Bw w) ρ y=V (Fr (own φ h) Bw w) ρ y:=fun _ _=>rfl
 obtain⟨u,hu,O⟩:∃u,w.cell? (ad.add 0)=some u∧V (Fr (own φ h) Bw w) ρ (.p β T x) u:=by
  have X:T.size=1:=Ty.fF B;rcases q with e | e
  ·rw[e]at j;obtain⟨u,C,f⟩:=VL.get j (k:=0) rfl;refine⟨u,World.jF C.2.2 (sJ rfl f),?_⟩;by_cases D:T.isRef=true
   ·simpa [D]using f
   ·simp only[D]at f;simp only[V]at f ⊢;exact⟨f.1,sb f.1 (by simpa using D) f.2⟩
  ·rw[e]at j;obtain⟨u,C,f⟩:=VL.get j (k:=0) rfl;exact⟨u,World.jF C.2.2 (sJ rfl f),f⟩
 obtain⟨v,I,Y⟩:=iO (P:=P) (F:=Fr (own φ h) Bw w) (ρ:=ρ) (cs:=[.p β T x]) (off:=0) (x:= .p β T x) ht (w:=w) (ad:=ad) (by
  simp only[VL];exact⟨⟨u,hu,O⟩,trivial⟩) (by unfold gn;rw[A];rfl)
 have Z:ad.add 0=ad:=by simp[Addr.add]
 rw[Z]at I;refine Good.aG (v:=v) (w':=w) ?_ (aF.pure m Y);simp[execOp,ho,Instr.loadAt,J,Instr.sureAddr,I]
theorem xU(m:Mem Bw w0 ρ φ h w){o:Oper}{a:Act}{t e:TypeId}{ti u:TI}{n:Nat}(ht:aO P t ti)(hk:ti.k = .ar n e)(x:aO P e u)(z:u.size=1){xo io:Operand}{β:Bool}{k:IntKind}{j:ff n}
  (D:V (Fr (own φ h) Bw w) ρ (.loc β (.arr k n) j) (a.eval xo)) {A:Bool} {E:IntKind} {i:Int} (hi:V (Fr (own φ h) Bw w) ρ (.p A (.int E) i) (a.eval io)) (ho:o.op = .indexAddr t xo io) (I:0≤i) (h1:i<(n:Int)) :
  Good P o a w (aF Bw w0 ρ φ h w new (.loc β (.int k) (fE j i.toNat)) []):=by
 obtain⟨d,B,f⟩:=ht.hu;rw[hk]at f;simp only[UK]at f;subst f;simp only[V]at D;obtain⟨J,L,M⟩:=D;have C:=bV hi;refine Good.aG (v:= .pointer (some (J.add (i.toNat*u.size)))) (w':=w) (by simp[execOp,ho,Instr.indexAt,asIntOf,C,L,run_underlying B,Instr.sureAddr,run_sizeOf x,I,h1]) (aF.pure m ?_);simp only[V];refine⟨_,rfl,?_⟩;have q:i.toNat<j.1.length:=by rw[j.2];omega
 have N:=M i.toNat q;simp only[ah];rw[add_add,z,Nat.mul_one,Nat.add_zero];have e:fE j i.toNat=j.1[i.toNat]:=by simp[fE,q]
 rw[e];exact N
theorem sW(m:Mem Bw w0 ρ φ h w){o:Oper}{a:Act}{t e:TypeId}{ti x:TI}(ht:aO P t ti)(hk:ti.k = .sl e)(z:aO P e x){xo io:Operand}{β:Bool}{A:Ty}{f:List A.den}(q:V (Fr (own φ h) Bw w) ρ (.p β (.slice A) f) (a.eval xo))
  {B:Bool} {k:IntKind} {i:Int} (hi:V (Fr (own φ h) Bw w) ρ (.p B (.int k) i) (a.eval io)) (ho:o.op = .indexAddr t xo io) (C:A.size=x.size) (D:0≤i) (h1:i<f.length) :
  Good P o a w (aF Bw w0 ρ φ h w new (.loc β A (f.getD i.toNat A.zero)) []):=by
 have hu:=aW ht hk;have E:=bV hi;simp only[V,ah]at q;obtain⟨_,L,len,cap,I,⟨hl,_⟩,q⟩:=q;have j:i.toNat<f.length:=by omega
 obtain⟨b,hb,J⟩:=q i.toNat j;subst hb;refine Good.aG (v:= .pointer (some (b.add (i.toNat*x.size)))) (w':=w) (by simp[execOp,ho,Instr.indexAt,asIntOf,E,←I,run_underlying hu,run_sizeOf z,D,hl,h1]) (aF.pure m ?_);simp only[V];refine⟨_,rfl,?_⟩;have e:f.getD i.toNat A.zero=f[i.toNat]:=by simp[j]
 rw[e];exact ah.mono (fun _ _ h=>h) (fun k u hk=>by rw[add_add,←C];exact hk) J
theorem BY(m:Mem Bw w0 ρ φ h w){o:Oper}{a:Act}{xo:Operand}{β:Bool}{A:Ty}{q:Option A.den}(f:V (Fr (own φ h) Bw w) ρ (.p β (.ptr A) q) (a.eval xo))(ho:o.op = .nilCheck xo)(j:q.isSome=true):
  Good P o a w (aF Bw w0 ρ φ h w new (.loc β A (q.getD A.zero)) []):=by
 cases q with
 | none=>cases j
 | some y =>
  obtain⟨_,b,e,u⟩:_∧∃b:Addr,Value.pointer (some b)=a.eval xo∧ah (Fr (own φ h) Bw w β) A y (fun k v=>Fr (own φ h) Bw w β (b.add k) v):=by simpa only [V,ah]using f
  refine Good.aG (v:=a.eval xo) (w':=w) (by simp only[execOp,ho,←e];rfl) (aF.pure m ?_);simp only[V,Option.getD_some];exact⟨b,e.symm,u⟩
theorem zy(m:Mem Bw w0 ρ φ h w){o:Oper}{a:Act}{xo:Operand}{β:Bool}{A:Ty}{x:A.den}(f:V (Fr (own φ h) Bw w) ρ (.loc β A x) (a.eval xo))(ho:o.op = .nilCheck xo):
  Good P o a w (aF Bw w0 ρ φ h w new (.loc β A x) []):=by
 obtain⟨j,h1,h2⟩:∃j:Addr,a.eval xo = .pointer (some j)∧_:=by simpa only [V]using f
 exact Good.aG (v:=a.eval xo) (w':=w) (by simp only[execOp,ho,h1];rfl) (aF.pure m f)
def yh(h:Nat→Qz)(x:af)(i:Int):Option (af×Nat×Prop) :=
 match x with
 | .p β (.slice A) f=>some (.fad β (flat β A (f.getD i.toNat A.zero)) 0,A.size,0≤i∧i<f.length)
 | .sl id=>match h id with
  | some (.arr _ A f)=>some (.adr id i.toNat A.size 0,A.size,0≤i∧i<f.length)
  | some (.fz A f)=>some (.fad false (flat false A (f.getD i.toNat A.zero)) 0,A.size,0≤i∧i<f.length)
  | some (.mat _ _ _ j _)=>some (.adr id i.toNat 1 0,1,0≤i∧i<j.length)
  | some (.bytes _ f)=>some (.adr id i.toNat 1 0,1,0≤i∧i<f.length)
  | _=>none
 | _=>none
theorem vh(m:Mem Bw w0 ρ φ h w){o:Oper}{a:Act}{t e:TypeId}{ti I:TI}(ht:aO P t ti)(hk:ti.k = .sl e)(O:aO P e I){N io:Operand}{x:af}(E:V (Fr (own φ h) Bw w) ρ x (a.eval N))
  {β:Bool} {k:IntKind} {i:Int} (hi:V (Fr (own φ h) Bw w) ρ (.p β (.int k) i) (a.eval io)) (ho:o.op = .indexAddr t N io)
  {y:af} {c:Prop} (z:yh h x i=some (y,I.size,c)) (hc:c):Good P o a w (aF Bw w0 ρ φ h w new y []):=by
 have hu:=aW ht hk;have he:=bV hi;have key:∀(b:Addr) (len cap:Nat),a.eval N = .slice (some b) len cap→0≤i→i<len→(execOp a.eval o).run P w = .ok (.value (.pointer (some (b.add (i.toNat*I.size))))) w:=fun b len cap hb h0 h1=>by simp[execOp,ho,Instr.indexAt,asIntOf,he,hb,run_underlying hu,run_sizeOf O,h0,h1]
 have data:∀(D:Bool) (A:Ty) (xs:List A.den),V (Fr (own φ h) Bw w) ρ (.p D (.slice A) xs) (a.eval N)→A.size=I.size→(0≤i∧i<xs.length) →
   Good P o a w (aF Bw w0 ρ φ h w new (.fad D (flat D A (xs.getD i.toNat A.zero)) 0) []):=fun D A xs E f hc=>by
  simp only[V,ah]at E;obtain⟨_,ad,len,cap,hs,⟨hl,_⟩,E⟩:=E;have J:i.toNat<xs.length:=by omega
  obtain⟨b,hb,hv⟩:=E i.toNat J;subst hb;refine Good.aG (key b len cap hs.symm hc.1 (by omega)) (aF.pure m ?_);simp only[V];refine⟨b.add (i.toNat*I.size),by simp[Addr.add],?_⟩;have e:xs.getD i.toNat A.zero=xs[i.toNat]:=by simp[J]
  rw[e];exact jN D A _ _ (ah.mono (fun _ _ h=>h) (fun k u hk=>by rw[add_add,←f];exact hk) hv)
 unfold yh at z;split at z
 ·simp only[Option.some.injEq,Prod.mk.injEq]at z;obtain⟨rfl,f,rfl⟩:=z;exact data _ _ _ E f hc
 ·rename_i id;simp only[V]at E;obtain⟨B,_,_,_,_⟩:=E;split at z
  ·rename_i L A xs C;simp only[Option.some.injEq,Prod.mk.injEq]at z;obtain⟨rfl,f,rfl⟩:=z;obtain⟨u,j,X,_,cells,Y,r2⟩:=m.ob id _ C;rw[B]at j;simp only[Option.some.injEq]at j;rcases Y.2 with⟨_,hn⟩ | ⟨g,cap,M,q,_⟩
   ·omega
   ·refine Good.aG (key ⟨g,0,none⟩ _ cap (j.trans q) hc.1 hc.2) (aF.pure m ?_);simp only[V];exact⟨g,.inr ⟨_,_,by rw[B,j,q]⟩,by rw[cj,f];simp⟩
  ·rename_i A xs C;simp only[Option.some.injEq,Prod.mk.injEq]at z;obtain⟨rfl,f,rfl⟩:=z;obtain⟨u,j,Z⟩:=m.ob id _ C;rw[B]at j;simp only[Option.some.injEq]at j;subst j;exact data _ _ _ Z f hc
  ·rename_i L e2 A a1 a2 C;simp only[Option.some.injEq,Prod.mk.injEq]at z;obtain⟨rfl,f,rfl⟩:=z;obtain⟨u,j,X,_,_,cells,Y,r2⟩:=m.ob id _ C;rw[B]at j;simp only[Option.some.injEq]at j;rcases Y.2 with⟨_,hn⟩ | ⟨g,cap,M,q,_⟩
   ·omega
   ·refine Good.aG (key ⟨g,0,none⟩ _ cap (j.trans q) hc.1 hc.2) (aF.pure m ?_);simp only[V];exact⟨g,.inr ⟨_,_,by rw[B,j,q]⟩,by rw[cj,←f];simp⟩
  ·rename_i L xs C;simp only[Option.some.injEq,Prod.mk.injEq]at z;obtain⟨rfl,f,rfl⟩:=z;obtain⟨u,j,Z⟩:=m.ob id _ C;rw[B]at j;simp only[Option.some.injEq]at j;rcases Z with⟨_,hn⟩ | ⟨g,cap,M,mk,q,_⟩
   ·subst hn;simp at hc;omega
   ·refine Good.aG (key ⟨g,0,none⟩ _ cap (j.trans q) hc.1 hc.2) (aF.pure m ?_);simp only[V];exact⟨g,.inr ⟨_,_,by rw[B,j,q]⟩,by rw[cj,←f];simp⟩
  ·cases z
 ·cases z
end
end Go.Tv
