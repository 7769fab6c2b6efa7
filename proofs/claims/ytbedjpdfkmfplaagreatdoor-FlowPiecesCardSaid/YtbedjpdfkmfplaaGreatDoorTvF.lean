import Derived.Test.YtbedjpdfkmfplaaGreatDoorTvDm
namespace Go.Tv
open Go Go.RowKit
section
variable{P:Program}{Bw:Nat→Prop}{w0:cE P}{ρ:Nat→QW}{φ:Nat→Nat→Prop}{h:Nat→Qz}{w:World}{new:Nat}
theorem OR.LI{F:Bool→Addr→Value→Prop}{S:Nat→Prop}{o:Obj}{u:Value}(h:OR F ρ S w o u)(hl:o.live=true){k:Nat}(hk:dH u=some k):k<w.heap.size:=by
 have key:∀g (x:Go.Obj),w.heap[g]? = some x→g<w.heap.size:=fun g x M=>by
  grind
 cases o with
 | arr e A xs =>
  obtain⟨_,_,cells,⟨_,q⟩,_⟩:=h;rcases q with⟨rfl,_⟩ | ⟨g,cap,z,rfl,_,B,_⟩
  ·simp[dH]at hk
  ·simp_all [dH]
 | fz A xs=>simp[Obj.live]at hl
 | cutz A xs=>simp[Obj.live]at hl
 | lmp k n xs C =>
  obtain⟨g,t,cells,rfl,_,j,_⟩:=h;simp only[dH,Option.some.injEq]at hk;subst hk;exact key _ _ j
 | vrow n sz C =>
  obtain⟨g,t,cells,rfl,_,j,_⟩:=h;simp only[dH,Option.some.injEq]at hk;subst hk;exact key _ _ j
 | nds e I N J =>
  obtain⟨_,_,cells,⟨_,q⟩,_⟩:=h;rcases q with⟨rfl,_⟩ | ⟨g,cap,z,rfl,_,B,_⟩
  ·simp[dH]at hk
  ·simp_all [dH]
 | mpq b D =>
  obtain⟨_,_,q⟩:=h;cases b with
  | false=>obtain⟨rfl,_⟩:=q;simp[dH]at hk
  | true =>
   obtain⟨r,E,clock,rfl,B,_⟩:=q;simp only[dH,Option.some.injEq]at hk;subst hk;exact key _ _ B
 | box C =>
  obtain⟨g,t,cells,rfl,_,j,_⟩:=h;simp only[dH,Option.some.injEq]at hk;subst hk;exact key _ _ j
 | mpo K A D =>
  obtain⟨r,E,clock,rfl,_,j,_⟩:=h;simp only[dH,Option.some.injEq]at hk;subst hk;exact key _ _ j
 | mpl K D =>
  obtain⟨r,E,clock,rfl,_,j,_⟩:=h;simp only[dH,Option.some.injEq]at hk;subst hk;exact key _ _ j
 | mat e I A L J =>
  obtain⟨_,_,_,cells,⟨_,q⟩,_⟩:=h;rcases q with⟨rfl,_⟩ | ⟨g,cap,z,rfl,_,B,_⟩
  ·simp[dH]at hk
  ·simp_all [dH]
 | bytes e xs =>
  rcases h with⟨rfl,_⟩ | ⟨g,cap,z,mk,rfl,_,j,_⟩
  ·simp[dH]at hk
  ·simp_all [dH]
theorem eG(m:Mem Bw w0 ρ φ h w){w':World}(z:QJ)(q:Nat)(o1:Obj)(u1:Value)(A:Nat→Prop)(row:QJ)
  (J:w.grownBy w' row)
  (L:∀k,row=some k→∃i o,z=some i∧h i=some o∧o.live=true∧φ i k)
  (f:ρ q=none∨(z=some q∧ρ q=some u1))
  (C:o1.live=true→∀k,A k→k<w'.heap.size)
  (hb:o1.live=true→∀k,A k→w.heap.size≤k∨∃i o,z=some i∧h i=some o∧o.live=true∧φ i k)
  (M:∀F' j,(∀β a v,Fr (own φ h) Bw w β a v→F' β a v)→(∀i u,ρ i=some u→j i=some u)→OR F' j A w' o1 u1)
  {x:ag} {v:Value} {u:iu} (hu:apply u h=bu (fun i=>if z=some i then none else h i) q (some o1))
  (B:ρ q=none→q=new)
  (N:∀F' j,(∀β a v,Fr (own φ h) Bw w β a v→F' β a v)→(∀i u,ρ i=some u→j i=some u)→j q=some u1→V F' j x v) :
  aG Bw w0 ρ φ h w new x u v w':=by
 obtain⟨O,E,I⟩:=m.put z q o1 u1 A row J L f C hb M;refine⟨bu ρ q (some u1),bu φ q A,by rw[hu];exact O,by rw[hu];exact E,I,fun i u hi=>?_,N _ _ (by rw[hu];exact E) I (av _ _ _)⟩;by_cases e:i=q
 ·subst e;rcases f with D | ⟨_,D⟩
  ·exact .inr ⟨0,by omega,B D⟩
  ·rw[av]at hi;exact .inl (by rw[D,hi])
 ·rw[aD _ _ e]at hi;exact .inl hi
theorem cV(m:Mem Bw w0 ρ φ h w){w':World}(C:QJ)(z:Nat)(o1:Obj)(u1:Value)(row:QJ)
  (I:w.grownBy w' row)
  (D:∀k,row=some k→∃i o,C=some i∧h i=some o∧o.live=true∧φ i k)
  (j:ρ z=none∨(C=some z∧ρ z=some u1))
  (hb:o1.live=true→∀k,dH u1=some k→w.heap.size≤k∨row=some k)
  (E:∀F' f,(∀β a v,Fr (own φ h) Bw w β a v→F' β a v)→(∀i u,ρ i=some u→f i=some u)→OR F' f (fun k=>dH u1=some k) w' o1 u1)
  {x:ag} {v:Value} {u:iu} (hu:apply u h=bu (fun i=>if C=some i then none else h i) z (some o1))
  (B:ρ z=none→z=new)
  (J:∀F' f,(∀β a v,Fr (own φ h) Bw w β a v→F' β a v)→(∀i u,ρ i=some u→f i=some u)→f z=some u1→V F' f x v) :
  aG Bw w0 ρ φ h w new x u v w' :=
 eG m C z o1 u1 (fun k=>dH u1=some k) row I D j
  (fun hl k hk=>OR.LI (E (fun _ _ _=>True) (fun i=>(ρ i)) (fun _ _ _ _=>trivial) (fun _ _ h=>h)) hl hk)
  (fun hl k hk=>(hb hl k hk).imp id (fun e=>D k e)) E hu B J
theorem aG.after{u1 u2:iu}{j:Nat→Qz}(e:apply u1 h=j)(I:∀β a v,Fr (own φ h) Bw w β a v→Fr (own φ j) Bw w β a v){x:ag}{v:Value}{w':World}
  (J:aG Bw w0 ρ φ j w new x u2 v w'):aG Bw w0 ρ φ h w new x (u1++u2) v w':=by
 subst e;obtain⟨z,B,C,D,L,M,E⟩:=J;rw[←fm]at C D E;exact⟨z,B,C,fun β a v N=>D _ _ _ (I _ _ _ N),L,M,E⟩
theorem De(m:Mem Bw w0 ρ φ h w)(hn:ρ new=none){q:List ag}{arr:QU}{A:TypeId}(C:arr.size=q.length)
  (hl:VL (Fr (own φ h) Bw w) ρ q (fun k u=>arr[k]? = some u)) (sz:Nat) :
  aG Bw w0 ρ φ h w new (.adr new 0 sz 0) [(new,some (.box q))] (.pointer (some ⟨w.heap.size,0,none⟩)) (w.alloc (.cells arr A)):=by
 refine cV m none new (.box q) (.pointer (some ⟨w.heap.size,0,none⟩)) none (World.grownBy_alloc w _ none) (fun k e=>by cases e) (.inl hn) (fun _ k hk=>?_) (fun F' z B f=>?_)
  (by rw[bp];rfl) (fun _=>rfl) (fun F' z B f j=>?_)
 ·simp_all [dH]
 ·exact⟨_,A,arr,rfl,rfl,heap_alloc_new w _,C,VL.mono B f (fun _ _ h=>h) hl⟩
 ·simp only[V];exact⟨_,.inl j,by simp⟩
theorem Er(m:Mem Bw w0 ρ φ h w)(hn:ρ new=none){o:Oper}{a:Act}{t:TypeId}{ti:TI}(ht:aO P t ti)(e:o.op = .alloc t):
  Good P o a w (aG Bw w0 ρ φ h w new (.adr new 0 ti.size 0) [(new,some (.box ti.z))]):=by
 obtain⟨z,f,j,q,u⟩:=dF ht w;refine Good.aH (v:= .pointer (some ⟨w.heap.size,0,none⟩)) (w':=w.alloc (.cells z.cells t)) ?_ (De m hn (by rw[←j];simp) ?_ _)
 ·simp[execOp,e,Instr.alloc,f,newVar,newRow]
 ·grind (splits:=6) (ematch:=4) [gU,Fr,own]
theorem HI(m:Mem Bw w0 ρ φ h w)(hn:ρ new=none){o:Oper}{a:Act}{t:TypeId}{e:Operand}{x:ag}(f:V (Fr (own φ h) Bw w) ρ x (a.eval e))(j:(cellsOf x).all ag.cell=true)
  (q:o.op = .box t e) (sz:Nat):Good P o a w (aG Bw w0 ρ φ h w new (.adr new 0 sz 0) [(new,some (.box (cellsOf x)))]):=by
 obtain⟨z,B,C⟩:=gv j f;refine Good.aH (v:= .pointer (some ⟨w.heap.size,0,none⟩)) (w':=w.alloc (.cells (a.eval e).cells t)) ?_ (De m hn (by simpa using B) (VL.mono (fun _ _ _ h=>h) (fun _ _ h=>h) (fun k u hk=>by simpa using hk) z) _);simp[execOp,q,Instr.box,newVar,newRow]
def ll(h:Nat→Qz):ag→Option (List ag×Nat×Prop)
 | .adr id i sz off=>match h id with
  | some (.box cs)=>some (cs,i*sz+off,True)
  | some (.arr _ A e)=>if sz=A.size then some (flat false A (e.getD i A.zero),off,i<e.length)else none
  | some (.fz A e)=>if sz=A.size then some (flat false A (e.getD i A.zero),off,i<e.length)else none
  | _=>none
 | .fad _ cs off=>if cs.all ag.cell then some (cs,off,True)else none
 | _=>none
theorem wQ{F:Bool→Addr→Value→Prop}{A:Ty}{e:List A.den}{i:Nat}{g:Nat→Value→Prop}(hi:i<e.length)(f:ai (F false) A e[i] g):VL F ρ (flat false A (e.getD i A.zero)) g:=by
 simp_all [jX]
theorem m7(m:Mem Bw w0 ρ φ h w){x:ag}{v:Value}(I:V (Fr (own φ h) Bw w) ρ x v){cs:List ag}{off:Nat}{c:Prop}(f:ll h x=some (cs,off,c))(q:c):
  ∃C:Addr,v = .pointer (some (C.add off))∧VL (Fr (own φ h) Bw w) ρ cs (fun k u=>w.cell? (C.add k)=some u):=by
 unfold ll at f;split at f
 ·rename_i id i sz X;simp only[V]at I;obtain⟨g,j,rfl⟩:=I;split at f
  ·rename_i a1 hi;cases f;obtain⟨u,B,J,Y,cells,rfl,a2,L,Z,r3⟩:=m.ob id _ hi;rw[B]at j;have M:J=g:=by simp_all
   subst M;refine⟨⟨J,0,none⟩,by rw[cu,Nat.zero_add],VL.mono (fun _ _ _ h=>h) (fun _ _ h=>h) (fun k u hk=>?_) r3⟩;rw[cu,Nat.zero_add,cell_of_row w J k cells Y (0,0) L];exact hk
  ·rename_i Y A xs hi;split at f
   ·rename_i e;cases f;obtain⟨u,B,z⟩:=m.ob id _ hi;obtain⟨_,_,cells,L,Z⟩:=z;have D:=L.cells (g:=g);have N:u.ownBlock=some g:=by
     rcases L.2 with⟨rfl,hn⟩ | ⟨J,cap,a3,rfl,_⟩
     ·omega
     ·rw[B]at j;rcases j with j | ⟨n,c,j⟩
      ·cases j
      ·simp only[Option.some.injEq,Value.slice.injEq]at j;obtain⟨j,_⟩:=j;cases j;rfl
    refine⟨⟨g,i*A.size,none⟩,by rw[cu,e],wQ q (ai.mono (fun _ _ h=>h) (fun k u hk=>?_) (Z i q))⟩;have:=D N _ _ hk;rw[cu,Nat.zero_add]at this;rw[cu];exact this
   ·cases f
  ·rename_i A xs hi;split at f
   ·rename_i e;cases f;obtain⟨u,B,z⟩:=m.ob id _ hi;simp only[OR,V,ai]at z;obtain⟨_,C,len,cap,rfl,hl,z⟩:=z;obtain⟨b,hb,q3⟩:=z i q;subst hb;rw[B]at j;have O:b=⟨g,0,none⟩:=by simp_all
    subst O;refine⟨⟨g,i*A.size,none⟩,by rw[cu,e],wQ q (ai.mono (fun _ _ h=>h) (fun k u hk=>?_) q3)⟩;rw[cu,Nat.zero_add]at hk;rw[cu];exact hk.2.2
   ·cases f
  ·cases f
 ·split at f
  ·rename_i E;cases f;simp only[V]at I;obtain⟨C,rfl,hl⟩:=I;refine⟨C,rfl,VL.mk fun k x hk=>?_⟩;obtain⟨u,B,z⟩:=VL.get hl hk;exact⟨u,World.jK B.2.2 (sT (List.all_eq_true.1 E _ (List.mem_of_getElem? hk)) z),z⟩
  ·cases f
 ·cases f
theorem HA(m:Mem Bw w0 ρ φ h w){o:Oper}{a:Act}{t:TypeId}{ti:TI}(ht:aO P t ti){f:Operand}{x:ag}(q:V (Fr (own φ h) Bw w) ρ x (a.eval f))(u:o.op = .load t f)
  {j:List ag} {off:Nat} {c:Prop} (z:ll h x=some (j,off,c)) (e:c) {y:ag} (B:fk ti j off=some y):Good P o a w (aG Bw w0 ρ φ h w new y []):=by
 obtain⟨J,C,D⟩:=m7 m q z e;obtain⟨v,E,I⟩:=gP (P:=P) ht D B;refine Good.aH (v:=v) (w':=w) ?_ (aG.pure m I);simp[execOp,u,Instr.loadAt,C,Instr.sureAddr,E]
theorem qb(m:Mem Bw w0 ρ φ h w){o:Oper}{a:Act}{t:TypeId}{ti:TI}(ht:aO P t ti){q:Operand}{x:ag}(hx:V (Fr (own φ h) Bw w) ρ x (a.eval q)){f:Nat}(M:o.op = .fieldAddr t q f)
  {E:List (Nat×TypeId)} (hk:ti.k = .st E) {off:Nat} {I:TypeId} (N:E[f]? = some (off,I)) {y:ag}
  (O:(∃id i sz k,x = .adr id i sz k∧y = .adr id i sz (k+off))∨(∃β u k,x = .fad β u k∧y = .fad β u (k+off))):Good P o a w (aG Bw w0 ρ φ h w new y []):=by
 obtain⟨d,X,J⟩:=ht.hu;rw[hk]at J;obtain⟨L,rfl,Y,Z⟩:=J;subst Y;rw[List.getElem?_map]at N;obtain⟨e,j,z⟩:∃e,L.toList[f]? = some e∧(e.offset,e.type)=(off,I):=by simp_all
 cases z;have B:L[f]? = some e:=by simpa using j
 obtain⟨i,hi,C⟩:=Z e (List.mem_of_getElem? j);have key:∀D:Addr,a.eval q = .pointer (some D)→(execOp a.eval o).run P w = .ok (.value (.pointer (some (D.add e.offset)))) w:=fun D he=>by simp[execOp,M,Instr.fieldAt,run_underlying X,B,he,Instr.sureAddr,fieldPlace,sizeOf,typeInfo,hi,C]
 rcases O with⟨id,i,sz,k,rfl,rfl⟩ | ⟨β,u,k,rfl,rfl⟩
 ·grind (splits:=6) (ematch:=4) [V,Good.aH,aG.pure,cu,Nat.add_assoc]
 ·grind (splits:=6) (ematch:=4) [V,Good.aH,aG.pure,add_add]
def xH(T':Ty):(T:Ty)→T.den→Nat→Option T'.den
 | T,x,off=>if h:T=T'∧off=0 then some (h.1 ▸ x)else match T,x with
  | .prod a b,x=>if off<a.size then xH T' a x.1 off else xH T' b x.2 (off - a.size)
  | _,_=>none
theorem Cg{F:Addr→Value→Prop}{T':Ty}:∀ {T:Ty} {x:T.den} {off:Nat} {y:T'.den},xH T' T x off=some y→∀ {g:Nat→Value→Prop},ai F T x g→ai F T' y (fun k u=>g (off+k) u):=fun {T}=>by
 induction T with
 | prod a b f j =>
  intro x off y h g e;unfold xH at h;split at h
  ·rename_i q;obtain⟨rfl,rfl⟩:=q;cases h;exact ai.mono (fun _ _ h=>h) (fun k u hk=>by rwa [Nat.zero_add]) e
  ·simp only at h;split at h
   ·exact f h e.1
   ·rename_i z;refine ai.mono (fun _ _ h=>h) (fun k u hk=>?_) (j h e.2);rwa [←Nat.add_assoc,Nat.add_sub_cancel' (Nat.le_of_not_lt z)]at hk
 | _ =>
  intro x off y h g e;unfold xH at h;split at h
  ·rename_i q;obtain⟨rfl,rfl⟩:=q;cases h;exact ai.mono (fun _ _ h=>h) (fun k u hk=>by rwa [Nat.zero_add]) e
  ·simp only at h;cases h
theorem zo(m:Mem Bw w0 ρ φ h w){o:Oper}{a:Act}{t:TypeId}{ti:TI}(ht:aO P t ti){xo:Operand}{β:Bool}{T:Ty}{x:T.den}(B:V (Fr (own φ h) Bw w) ρ (.loc β T x) (a.eval xo)){f:Nat}(J:o.op = .fieldAddr t xo f)
  {C:List (Nat×TypeId)} (hk:ti.k = .st C) {off:Nat} {D:TypeId} (L:C[f]? = some (off,D)) {T':Ty} {y:T'.den} (M:xH T' T x off=some y):Good P o a w (aG Bw w0 ρ φ h w new (.loc β T' y) []):=by
 obtain⟨d,N,E⟩:=ht.hu;rw[hk]at E;obtain⟨I,rfl,O,X⟩:=E;subst O;rw[List.getElem?_map]at L;obtain⟨e,j,q⟩:∃e,I.toList[f]? = some e∧(e.offset,e.type)=(off,D):=by simp_all
 cases q;have z:I[f]? = some e:=by simpa using j
 obtain⟨i,hi,A⟩:=X e (List.mem_of_getElem? j);simp only[V]at B;obtain⟨Y,Z,hv⟩:=B;refine Good.aH (v:= .pointer (some (Y.add e.offset))) (w':=w) (by simp[execOp,J,Instr.fieldAt,run_underlying N,z,Z,Instr.sureAddr,fieldPlace,sizeOf,typeInfo,hi,A]) (aG.pure m ?_);simp only[V];exact⟨_,rfl,ai.mono (fun _ _ h=>h) (fun k u hk=>by rwa [add_add]) (Cg M hv)⟩
theorem AZ(m:Mem Bw w0 ρ φ h w){o:Oper}{a:Act}{t:TypeId}{ti:TI}(ht:aO P t ti){xo:Operand}{β:Bool}{T:Ty}{x:T.den}(D:V (Fr (own φ h) Bw w) ρ (.loc β T x) (a.eval xo))(I:o.op = .load t xo)
  (hT:ti.T=some T) (B:T.scalar=true):Good P o a w (aG Bw w0 ρ φ h w new (.p β T x) []):=by
 simp only[V]at D;obtain⟨ad,J,L⟩:=D;have f:=jX (ρ:=ρ) β T x _ L;have j:flat β T x=[.p (if T.isRef then β else false) T x]∨flat β T x=[.p β T x]:=by cases T <;> simp[Ty.scalar]at B <;> simp[flat,Ty.isRef]
 obtain⟨M,q,_⟩:=ht.hT T hT;have z:ti.k.agg=false:=by rw[B]at q;simpa using q.symm
 have N:∀y:ag,flat β T x=[y]→V (Fr (own φ h) Bw w) ρ y=V (Fr (own φ h) Bw w) ρ y:=fun _ _=>rfl
 obtain⟨u,hu,O⟩:∃u,w.cell? (ad.add 0)=some u∧V (Fr (own φ h) Bw w) ρ (.p β T x) u:=by
  have X:T.size=1:=Ty.fT B;rcases j with e | e
  ·rw[e]at f;obtain⟨u,C,A⟩:=VL.get f (k:=0) rfl;refine⟨u,World.jK C.2.2 (sT rfl A),?_⟩;by_cases Y:T.isRef=true
   ·simpa [Y]using A
   ·grind (splits:=6) (ematch:=4) [V,tB]
  ·rw[e]at f;obtain⟨u,C,A⟩:=VL.get f (k:=0) rfl;exact⟨u,World.jK C.2.2 (sT rfl A),A⟩
 obtain⟨v,E,Z⟩:=gP (P:=P) (F:=Fr (own φ h) Bw w) (ρ:=ρ) (cs:=[.p β T x]) (off:=0) (x:= .p β T x) ht (w:=w) (ad:=ad) (by
  simp only[VL];exact⟨⟨u,hu,O⟩,trivial⟩) (by unfold fk;rw[z];rfl)
 have h0:ad.add 0=ad:=by simp[Addr.add]
 rw[h0]at E;refine Good.aH (v:=v) (w':=w) ?_ (aG.pure m Z);simp[execOp,I,Instr.loadAt,J,Instr.sureAddr,E]
theorem yF(m:Mem Bw w0 ρ φ h w){o:Oper}{a:Act}{t e:TypeId}{ti u:TI}{n:Nat}(ht:aO P t ti)(hk:ti.k = .ar n e)(z:aO P e u)(A:u.size=1){xo io:Operand}{β:Bool}{k:IntKind}{j:fG n}
  (E:V (Fr (own φ h) Bw w) ρ (.loc β (.arr k n) j) (a.eval xo)) {B:Bool} {I:IntKind} {i:Int} (hi:V (Fr (own φ h) Bw w) ρ (.p B (.int I) i) (a.eval io)) (J:o.op = .indexAddr t xo io) (L:0≤i) (M:i<(n:Int)) :
  Good P o a w (aG Bw w0 ρ φ h w new (.loc β (.int k) (fR j i.toNat)) []):=by
 obtain⟨d,C,f⟩:=ht.hu;rw[hk]at f;simp only[UK]at f;subst f;simp only[V]at E;obtain⟨N,O,X⟩:=E;have D:=bR hi;refine Good.aH (v:= .pointer (some (N.add (i.toNat*u.size)))) (w':=w) (by simp[execOp,J,Instr.indexAt,asIntOf,D,O,run_underlying C,Instr.sureAddr,run_sizeOf z,L,M]) (aG.pure m ?_);simp only[V];refine⟨_,rfl,?_⟩;have q:i.toNat<j.1.length:=by rw[j.2];omega
 have Y:=X i.toNat q;simp only[ai];rw[add_add,A,Nat.mul_one,Nat.add_zero];have e:fR j i.toNat=j.1[i.toNat]:=by simp[fR,q]
 rw[e];exact Y
theorem uq(m:Mem Bw w0 ρ φ h w){o:Oper}{a:Act}{t e:TypeId}{ti z:TI}(ht:aO P t ti)(hk:ti.k = .sl e)(B:aO P e z){xo io:Operand}{β:Bool}{A:Ty}{f:List A.den}(q:V (Fr (own φ h) Bw w) ρ (.p β (.slice A) f) (a.eval xo))
  {C:Bool} {k:IntKind} {i:Int} (hi:V (Fr (own φ h) Bw w) ρ (.p C (.int k) i) (a.eval io)) (E:o.op = .indexAddr t xo io) (D:A.size=z.size) (I:0≤i) (J:i<f.length) :
  Good P o a w (aG Bw w0 ρ φ h w new (.loc β A (f.getD i.toNat A.zero)) []):=by
 have hu:=aX ht hk;have L:=bR hi;simp only[V,ai]at q;obtain⟨_,O,len,cap,M,⟨hl,_⟩,q⟩:=q;have j:i.toNat<f.length:=by omega
 obtain⟨b,hb,N⟩:=q i.toNat j;subst hb;refine Good.aH (v:= .pointer (some (b.add (i.toNat*z.size)))) (w':=w) (by simp[execOp,E,Instr.indexAt,asIntOf,L,←M,run_underlying hu,run_sizeOf B,I,hl,J]) (aG.pure m ?_);simp only[V];refine⟨_,rfl,?_⟩;have e:f.getD i.toNat A.zero=f[i.toNat]:=by simp[j]
 rw[e];exact ai.mono (fun _ _ h=>h) (fun k u hk=>by rw[add_add,←D];exact hk) N
theorem Bu(m:Mem Bw w0 ρ φ h w){o:Oper}{a:Act}{xo:Operand}{β:Bool}{A:Ty}{q:Option A.den}(f:V (Fr (own φ h) Bw w) ρ (.p β (.ptr A) q) (a.eval xo))(j:o.op = .nilCheck xo)(u:q.isSome=true):
  Good P o a w (aG Bw w0 ρ φ h w new (.loc β A (q.getD A.zero)) []):=by
 cases q with
 | none=>cases u
 | some y =>
  obtain⟨_,b,e,z⟩:_∧∃b:Addr,Value.pointer (some b)=a.eval xo∧ai (Fr (own φ h) Bw w β) A y (fun k v=>Fr (own φ h) Bw w β (b.add k) v):=by simpa only [V,ai]using f
  refine Good.aH (v:=a.eval xo) (w':=w) (by simp only[execOp,j,←e];rfl) (aG.pure m ?_);simp only[V,Option.getD_some];exact⟨b,e.symm,z⟩
theorem AY(m:Mem Bw w0 ρ φ h w){o:Oper}{a:Act}{xo:Operand}{β:Bool}{A:Ty}{x:A.den}(e:V (Fr (own φ h) Bw w) ρ (.loc β A x) (a.eval xo))(j:o.op = .nilCheck xo):
  Good P o a w (aG Bw w0 ρ φ h w new (.loc β A x) []):=by
 obtain⟨f,q,u⟩:∃f:Addr,a.eval xo = .pointer (some f)∧_:=by simpa only [V]using e
 exact Good.aH (v:=a.eval xo) (w':=w) (by simp only[execOp,j,q];rfl) (aG.pure m e)
def zw(h:Nat→Qz)(x:ag)(i:Int):Option (ag×Nat×Prop) :=
 match x with
 | .p β (.slice A) e=>some (.fad β (flat β A (e.getD i.toNat A.zero)) 0,A.size,0≤i∧i<e.length)
 | .sl id=>match h id with
  | some (.arr _ A e)=>some (.adr id i.toNat A.size 0,A.size,0≤i∧i<e.length)
  | some (.fz A e)=>some (.fad false (flat false A (e.getD i.toNat A.zero)) 0,A.size,0≤i∧i<e.length)
  | some (.mat _ _ _ f _)=>some (.adr id i.toNat 1 0,1,0≤i∧i<f.length)
  | some (.bytes _ e)=>some (.adr id i.toNat 1 0,1,0≤i∧i<e.length)
  | _=>none
 | _=>none
theorem xF(m:Mem Bw w0 ρ φ h w){o:Oper}{a:Act}{t e:TypeId}{ti E:TI}(ht:aO P t ti)(hk:ti.k = .sl e)(X:aO P e E){N io:Operand}{x:ag}(D:V (Fr (own φ h) Bw w) ρ x (a.eval N))
  {β:Bool} {k:IntKind} {i:Int} (hi:V (Fr (own φ h) Bw w) ρ (.p β (.int k) i) (a.eval io)) (ho:o.op = .indexAddr t N io)
  {y:ag} {c:Prop} (j:zw h x i=some (y,E.size,c)) (O:c):Good P o a w (aG Bw w0 ρ φ h w new y []):=by
 have hu:=aX ht hk;have he:=bR hi;have key:∀(b:Addr) (len cap:Nat),a.eval N = .slice (some b) len cap→0≤i→i<len→(execOp a.eval o).run P w = .ok (.value (.pointer (some (b.add (i.toNat*E.size))))) w:=fun b len cap hb h0 h1=>by simp[execOp,ho,Instr.indexAt,asIntOf,he,hb,run_underlying hu,run_sizeOf X,h0,h1]
 have data:∀(B:Bool) (A:Ty) (xs:List A.den),V (Fr (own φ h) Bw w) ρ (.p B (.slice A) xs) (a.eval N)→A.size=E.size→(0≤i∧i<xs.length) →
   Good P o a w (aG Bw w0 ρ φ h w new (.fad B (flat B A (xs.getD i.toNat A.zero)) 0) []):=fun B A xs D q O=>by
  simp only[V,ai]at D;obtain⟨_,ad,len,cap,hs,⟨hl,_⟩,D⟩:=D;have I:i.toNat<xs.length:=by omega
  obtain⟨b,hb,hv⟩:=D i.toNat I;subst hb;refine Good.aH (key b len cap hs.symm O.1 (by omega)) (aG.pure m ?_);simp only[V];refine⟨b.add (i.toNat*E.size),by simp[Addr.add],?_⟩;have e:xs.getD i.toNat A.zero=xs[i.toNat]:=by simp[I]
  rw[e];exact jX B A _ _ (ai.mono (fun _ _ h=>h) (fun k u hk=>by rw[add_add,←q];exact hk) hv)
 unfold zw at j;split at j
 ·grind
 ·rename_i id;simp only[V]at D;obtain⟨C,_,_,_,_⟩:=D;split at j
  ·rename_i J A xs f;simp only[Option.some.injEq,Prod.mk.injEq]at j;obtain⟨rfl,q,rfl⟩:=j;obtain⟨u,z,Y,_,cells,Z,r2⟩:=m.ob id _ f;rw[C]at z;simp only[Option.some.injEq]at z;rcases Z.2 with⟨_,hn⟩ | ⟨g,cap,L,M,_⟩
   ·omega
   ·grind (splits:=6) (ematch:=4) [Good.aH,aG.pure,V,cu]
  ·rename_i A xs f;simp only[Option.some.injEq,Prod.mk.injEq]at j;obtain⟨rfl,q,rfl⟩:=j;obtain⟨u,z,q2⟩:=m.ob id _ f;rw[C]at z;simp only[Option.some.injEq]at z;subst z;exact data _ _ _ q2 q O
  ·rename_i J e2 A a1 a2 f;simp only[Option.some.injEq,Prod.mk.injEq]at j;obtain⟨rfl,q,rfl⟩:=j;obtain⟨u,z,Y,_,_,cells,Z,r2⟩:=m.ob id _ f;rw[C]at z;simp only[Option.some.injEq]at z;rcases Z.2 with⟨_,hn⟩ | ⟨g,cap,L,M,_⟩
   ·omega
   ·grind (splits:=6) (ematch:=4) [Good.aH,aG.pure,V,cu]
  ·rename_i J xs f;simp only[Option.some.injEq,Prod.mk.injEq]at j;obtain⟨rfl,q,rfl⟩:=j;obtain⟨u,z,q2⟩:=m.ob id _ f;rw[C]at z;simp only[Option.some.injEq]at z;rcases q2 with⟨_,hn⟩ | ⟨g,cap,L,mk,M,_⟩
   ·subst hn;simp at O;omega
   ·grind (splits:=6) (ematch:=4) [Good.aH,aG.pure,V,cu]
  ·cases j
 ·cases j
end
end Go.Tv
