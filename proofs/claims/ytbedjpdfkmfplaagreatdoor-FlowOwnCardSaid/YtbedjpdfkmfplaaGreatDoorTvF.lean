/- Operations on memory: new variables, loads, stores, addresses. -/
import Derived.Test.YtbedjpdfkmfplaaGreatDoorTvDm
namespace Go.Tv
open Go Go.RowKit
section
variable{P:Program}{Bw:Nat→Prop}{w0:Base P}{ρ:Nat→Option Value}{φ:Nat→Nat→Prop}{h:Nat→Option Obj}{w:World}{new:Nat}
theorem OR.blk_lt{F:Bool→Addr→Value→Prop}{S:Nat→Prop}{o:Obj}{u:Value}(h:OR F ρ S w o u)(hl:o.live=true){k:Nat}(hk:jT u=some k):k<w.heap.size:=by
 have key:∀g (x:Go.Obj),w.heap[g]? = some x→g<w.heap.size:=fun g x hx=>by
  rcases Nat.lt_or_ge g w.heap.size with h' | h'
  ·exact h'
  ·rw[Array.getElem?_eq_none h']at hx;cases hx
 cases o with
 | arr e A xs =>
  obtain⟨_,_,cells,⟨_,h2⟩,_⟩:=h
  rcases h2 with⟨rfl,_⟩ | ⟨g,cap,cur,rfl,_,r2,_⟩
  ·simp[jT]at hk
  ·simp only[jT,Option.some.injEq]at hk;subst hk;exact key _ _ r2
 | fz A xs=>simp[Obj.live]at hl
 | cutz A xs=>simp[Obj.live]at hl
 | lmp k n xs cs =>
  obtain⟨g,t,cells,rfl,_,h1,_⟩:=h
  simp only[jT,Option.some.injEq]at hk;subst hk;exact key _ _ h1
 | vrow n sz cs =>
  obtain⟨g,t,cells,rfl,_,h1,_⟩:=h
  simp only[jT,Option.some.injEq]at hk;subst hk;exact key _ _ h1
 | box cs =>
  obtain⟨g,t,cells,rfl,_,h1,_⟩:=h
  simp only[jT,Option.some.injEq]at hk;subst hk;exact key _ _ h1
 | mpo K A kv =>
  obtain⟨r,es,clock,rfl,_,h1,_⟩:=h
  simp only[jT,Option.some.injEq]at hk;subst hk;exact key _ _ h1
 | mpl K kv =>
  obtain⟨r,es,clock,rfl,_,h1,_⟩:=h
  simp only[jT,Option.some.injEq]at hk;subst hk;exact key _ _ h1
 | mat e e2 A xss ho =>
  obtain⟨_,_,_,cells,⟨_,h2⟩,_⟩:=h
  rcases h2 with⟨rfl,_⟩ | ⟨g,cap,cur,rfl,_,r2,_⟩
  ·simp[jT]at hk
  ·simp only[jT,Option.some.injEq]at hk;subst hk;exact key _ _ r2
 | bytes e xs =>
  rcases h with⟨rfl,_⟩ | ⟨g,cap,cur,mk,rfl,_,h1,_⟩
  ·simp[jT]at hk
  ·simp only[jT,Option.some.injEq]at hk;subst hk;exact key _ _ h1
theorem fT(m:Mem Bw w0 ρ φ h w){w':World}(i0:Option Nat)(i1:Nat)(o1:Obj)(u1:Value)(S1:Nat→Prop)(row:Option Nat)
  (hg:w.grownBy w' row)
  (h0:∀k,row=some k→∃i o,i0=some i∧h i=some o∧o.live=true∧φ i k)
  (hfresh:ρ i1=none∨(i0=some i1∧ρ i1=some u1))
  (hlt:o1.live=true→∀k,S1 k→k<w'.heap.size)
  (hb:o1.live=true→∀k,S1 k→w.heap.size≤k∨∃i o,i0=some i∧h i=some o∧o.live=true∧φ i k)
  (ho:∀F' ρ',(∀β a v,Fr (own φ h) Bw w β a v→F' β a v)→(∀i u,ρ i=some u→ρ' i=some u)→OR F' ρ' S1 w' o1 u1)
  {x:AVal} {v:Value} {u:jJ} (hu:apply u h=upd (fun i=>if i0=some i then none else h i) i1 (some o1))
  (hnew:ρ i1=none→i1=new)
  (hx:∀F' ρ',(∀β a v,Fr (own φ h) Bw w β a v→F' β a v)→(∀i u,ρ i=some u→ρ' i=some u)→ρ' i1=some u1→V F' ρ' x v) :
  Post Bw w0 ρ φ h w new x u v w':=by
 obtain⟨m',f1,f2⟩:=m.put i0 i1 o1 u1 S1 row hg h0 hfresh hlt hb ho
 refine⟨upd ρ i1 (some u1),upd φ i1 S1,by rw[hu];exact m',by rw[hu];exact f1,f2,fun i u hi=> ?_,hx _ _ (by rw[hu];exact f1) f2 (aI _ _ _)⟩
 by_cases e:i=i1
 ·subst e
  rcases hfresh with hf | ⟨_,hf⟩
  ·exact .inr ⟨0,by omega,hnew hf⟩
  ·rw[aI]at hi;exact .inl (by rw[hf,hi])
 ·rw[aP _ _ e]at hi;exact .inl hi
theorem dT(m:Mem Bw w0 ρ φ h w){w':World}(i0:Option Nat)(i1:Nat)(o1:Obj)(u1:Value)(row:Option Nat)
  (hg:w.grownBy w' row)
  (h0:∀k,row=some k→∃i o,i0=some i∧h i=some o∧o.live=true∧φ i k)
  (hfresh:ρ i1=none∨(i0=some i1∧ρ i1=some u1))
  (hb:o1.live=true→∀k,jT u1=some k→w.heap.size≤k∨row=some k)
  (ho:∀F' ρ',(∀β a v,Fr (own φ h) Bw w β a v→F' β a v)→(∀i u,ρ i=some u→ρ' i=some u)→OR F' ρ' (fun k=>jT u1=some k) w' o1 u1)
  {x:AVal} {v:Value} {u:jJ} (hu:apply u h=upd (fun i=>if i0=some i then none else h i) i1 (some o1))
  (hnew:ρ i1=none→i1=new)
  (hx:∀F' ρ',(∀β a v,Fr (own φ h) Bw w β a v→F' β a v)→(∀i u,ρ i=some u→ρ' i=some u)→ρ' i1=some u1→V F' ρ' x v) :
  Post Bw w0 ρ φ h w new x u v w' :=
 fT m i0 i1 o1 u1 (fun k=>jT u1=some k) row hg h0 hfresh
  (fun hl k hk=>OR.blk_lt (ho (fun _ _ _=>True) (fun i=>(ρ i)) (fun _ _ _ _=>trivial) (fun _ _ h=>h)) hl hk)
  (fun hl k hk=>(hb hl k hk).imp id (fun e=>h0 k e)) ho hu hnew hx
theorem Post.after{u1 u2:jJ}{h1:Nat→Option Obj}(e:apply u1 h=h1)(hF:∀β a v,Fr (own φ h) Bw w β a v→Fr (own φ h1) Bw w β a v){x:AVal}{v:Value}{w':World}
  (hp:Post Bw w0 ρ φ h1 w new x u2 v w'):Post Bw w0 ρ φ h w new x (u1++u2) v w':=by
 subst e
 obtain⟨ρ',φ',q1,q2,q3,q4,q5⟩:=hp
 rw[←iJ]at q1 q2 q5
 exact⟨ρ',φ',q1,fun β a v hh=>q2 _ _ _ (hF _ _ _ hh),q3,q4,q5⟩
theorem aDL(m:Mem Bw w0 ρ φ h w)(hn:ρ new=none){cs:List AVal}{arr:Array Value}{te:TypeId}(hs:arr.size=cs.length)
  (hl:VL (Fr (own φ h) Bw w) ρ cs (fun k u=>arr[k]? = some u)) (sz:Nat) :
  Post Bw w0 ρ φ h w new (.adr new 0 sz 0) [(new,some (.box cs))] (.pointer (some ⟨w.heap.size,0,none⟩)) (w.alloc (.cells arr te)):=by
 refine dT m none new (.box cs) (.pointer (some ⟨w.heap.size,0,none⟩)) none (World.grownBy_alloc w _ none) (fun k e=>by cases e) (.inl hn) (fun _ k hk=> ?_) (fun F' ρ' hF hρ=> ?_)
  (by rw[bQ];rfl) (fun _=>rfl) (fun F' ρ' hF hρ hnew=> ?_)
 ·simp only[jT,Option.some.injEq]at hk
  exact .inl (by omega)
 ·exact⟨_,te,arr,rfl,rfl,heap_alloc_new w _,hs,VL.mono hF hρ (fun _ _ h=>h) hl⟩
 ·simp only[V]
  exact⟨_,.inl hnew,by simp⟩
theorem aED(m:Mem Bw w0 ρ φ h w)(hn:ρ new=none){o:Oper}{a:Act}{t:TypeId}{ti:TI}(ht:TIok P t ti)(ho:o.op = .alloc t):
  Good P o a w (Post Bw w0 ρ φ h w new (.adr new 0 ti.size 0) [(new,some (.box ti.z))]):=by
 obtain⟨z,h1,h2,h3,h4⟩:=eC ht w
 refine Good.of_run (v:= .pointer (some ⟨w.heap.size,0,none⟩)) (w':=w.alloc (.cells z.cells t)) ?_ (aDL m hn (by rw[←h2];simp) ?_ _)
 ·simp[execOp,ho,Instr.alloc,h1,newVar,newRow]
 ·rw[←h2]
  have:=jU (F:=Fr (own φ h) Bw w) (ρ:=ρ) z.cells.toList
  simpa using this
theorem aHS(m:Mem Bw w0 ρ φ h w)(hn:ρ new=none){o:Oper}{a:Act}{t:TypeId}{xo:Operand}{x:AVal}(hx:V (Fr (own φ h) Bw w) ρ x (a.eval xo))(hc:(cellsOf x).all AVal.cell=true)
  (ho:o.op = .box t xo) (sz:Nat):Good P o a w (Post Bw w0 ρ φ h w new (.adr new 0 sz 0) [(new,some (.box (cellsOf x)))]):=by
 obtain⟨h1,h2,h3⟩:=gW hc hx
 refine Good.of_run (v:= .pointer (some ⟨w.heap.size,0,none⟩)) (w':=w.alloc (.cells (a.eval xo).cells t)) ?_ (aDL m hn (by simpa using h2) (VL.mono (fun _ _ _ h=>h) (fun _ _ h=>h) (fun k u hk=>by simpa using hk) h1) _)
 simp[execOp,ho,Instr.box,newVar,newRow]
def mH(h:Nat→Option Obj):AVal→Option (List AVal×Nat×Prop)
 | .adr id i sz off=>match h id with
  | some (.box cs)=>some (cs,i*sz+off,True)
  | some (.arr _ A xs)=>if sz=A.size then some (g5 false A (xs.getD i A.zero),off,i<xs.length)else none
  | some (.fz A xs)=>if sz=A.size then some (g5 false A (xs.getD i A.zero),off,i<xs.length)else none
  | _=>none
 | .fad _ cs off=>if cs.all AVal.cell then some (cs,off,True)else none
 | _=>none
theorem V6{F:Bool→Addr→Value→Prop}{A:Ty}{xs:List A.den}{i:Nat}{g:Nat→Value→Prop}(hi:i<xs.length)(hv:Vcells (F false) A xs[i] g):VL F ρ (g5 false A (xs.getD i A.zero)) g:=by
 have e:xs.getD i A.zero=xs[i]:=by simp[hi]
 rw[e]
 exact lA false A _ _ hv
theorem pF(m:Mem Bw w0 ρ φ h w){x:AVal}{v:Value}(hv:V (Fr (own φ h) Bw w) ρ x v){cs:List AVal}{off:Nat}{c:Prop}(hc:mH h x=some (cs,off,c))(hcc:c):
  ∃ad:Addr,v = .pointer (some (ad.add off))∧VL (Fr (own φ h) Bw w) ρ cs (fun k u=>w.cell? (ad.add k)=some u):=by
 unfold mH at hc
 split at hc
 ·rename_i id i sz off'
  simp only[V]at hv
  obtain⟨g,hg,rfl⟩:=hv
  split at hc
  ·rename_i cs' hi
   cases hc
   obtain⟨u,q1,g',te,cells,rfl,hsg,r1,r2,r3⟩:=m.ob id _ hi
   rw[q1]at hg
   have hgg:g'=g:=by
    rcases hg with hg | ⟨n,c,hg⟩
    ·simpa using hg
    ·cases hg
   subst hgg
   refine⟨⟨g',0,none⟩,by rw[dA,Nat.zero_add],VL.mono (fun _ _ _ h=>h) (fun _ _ h=>h) (fun k u hk=> ?_) r3⟩
   rw[dA,Nat.zero_add,cell_of_row w g' k cells te (0,0) r1]
   exact hk
  ·rename_i te A xs hi
   split at hc
   ·rename_i e
    cases hc
    obtain⟨u,q1,q2⟩:=m.ob id _ hi
    obtain⟨_,_,cells,r1,r2⟩:=q2
    have hrow:=r1.cells (g:=g)
    have hob:u.ownBlock=some g:=by
     rcases r1.2 with⟨rfl,hn⟩ | ⟨g',cap,cur,rfl,_⟩
     ·omega
     ·rw[q1]at hg
      rcases hg with hg | ⟨n,c,hg⟩
      ·cases hg
      ·simp only[Option.some.injEq,Value.slice.injEq]at hg
       obtain⟨hg,_⟩:=hg
       cases hg
       rfl
    refine⟨⟨g,i*A.size,none⟩,by rw[dA,e],V6 hcc (Vcells.mono (fun _ _ h=>h) (fun k u hk=> ?_) (r2 i hcc))⟩
    have:=hrow hob _ _ hk
    rw[dA,Nat.zero_add]at this
    rw[dA]
    exact this
   ·cases hc
  ·rename_i A xs hi
   split at hc
   ·rename_i e
    cases hc
    obtain⟨u,q1,q2⟩:=m.ob id _ hi
    simp only[OR,V,Vcells]at q2
    obtain⟨_,ad,len,cap,rfl,hl,q2⟩:=q2
    obtain⟨b,hb,q3⟩:=q2 i hcc
    subst hb
    rw[q1]at hg
    have hb0:b=⟨g,0,none⟩:=by
     rcases hg with hg | ⟨n,c,hg⟩
     ·cases hg
     ·simp only[Option.some.injEq,Value.slice.injEq]at hg
      exact hg.1
    subst hb0
    refine⟨⟨g,i*A.size,none⟩,by rw[dA,e],V6 hcc (Vcells.mono (fun _ _ h=>h) (fun k u hk=> ?_) q3)⟩
    rw[dA,Nat.zero_add]at hk
    rw[dA]
    exact hk.2.2
   ·cases hc
  ·cases hc
 ·split at hc
  ·rename_i hall
   cases hc
   simp only[V]at hv
   obtain⟨ad,rfl,hl⟩:=hv
   refine⟨ad,rfl,VL.mk fun k x hk=> ?_⟩
   obtain⟨u,q1,q2⟩:=VL.get hl hk
   exact⟨u,World.peek_cell q1.2.2 (yX (List.all_eq_true.1 hall _ (List.mem_of_getElem? hk)) q2),q2⟩
  ·cases hc
 ·cases hc
theorem aGl(m:Mem Bw w0 ρ φ h w){o:Oper}{a:Act}{t:TypeId}{ti:TI}(ht:TIok P t ti){xo:Operand}{x:AVal}(hx:V (Fr (own φ h) Bw w) ρ x (a.eval xo))(ho:o.op = .load t xo)
  {cs:List AVal} {off:Nat} {c:Prop} (hc:mH h x=some (cs,off,c)) (hcc:c) {y:AVal} (hy:fN ti cs off=some y):Good P o a w (Post Bw w0 ρ φ h w new y []):=by
 obtain⟨ad,h1,h2⟩:=pF m hx hc hcc
 obtain⟨v,h3,h4⟩:=hZ (P:=P) ht h2 hy
 refine Good.of_run (v:=v) (w':=w) ?_ (Post.pure m h4)
 simp[execOp,ho,Instr.loadAt,h1,Instr.sureAddr,h3]
theorem tQ(m:Mem Bw w0 ρ φ h w){o:Oper}{a:Act}{t:TypeId}{ti:TI}(ht:TIok P t ti){xo:Operand}{x:AVal}(hx:V (Fr (own φ h) Bw w) ρ x (a.eval xo)){f:Nat}(ho:o.op = .fieldAddr t xo f)
  {fs:List (Nat×TypeId)} (hk:ti.k = .st fs) {off:Nat} {ft:TypeId} (hf:fs[f]? = some (off,ft)) {y:AVal}
  (hy:(∃id i sz k,x = .adr id i sz k∧y = .adr id i sz (k+off))∨(∃β cs k,x = .fad β cs k∧y = .fad β cs (k+off))):Good P o a w (Post Bw w0 ρ φ h w new y []):=by
 obtain⟨d,h1,h2⟩:=ht.hu
 rw[hk]at h2
 obtain⟨fa,rfl,h3,h4⟩:=h2
 subst h3
 rw[List.getElem?_map]at hf
 obtain⟨fd,hfd,hfe⟩:∃fd,fa.toList[f]? = some fd∧(fd.offset,fd.type)=(off,ft):=by
  cases hq:fa.toList[f]? with
  | none=>rw[hq]at hf;cases hf
  | some fd=>rw[hq]at hf;exact⟨fd,rfl,by simpa using hf⟩
 cases hfe
 have hfa:fa[f]? = some fd:=by simpa using hfd
 obtain⟨i,hi,hsz⟩:=h4 fd (List.mem_of_getElem? hfd)
 have key:∀ad:Addr,a.eval xo = .pointer (some ad)→(execOp a.eval o).run P w = .ok (.value (.pointer (some (ad.add fd.offset)))) w:=fun ad he=>by
  simp[execOp,ho,Instr.fieldAt,run_underlying h1,hfa,he,Instr.sureAddr,fieldPlace,sizeOf,typeInfo,hi,hsz]
 rcases hy with⟨id,i,sz,k,rfl,rfl⟩ | ⟨β,cs,k,rfl,rfl⟩
 ·simp only[V]at hx
  obtain⟨g,hg,he⟩:=hx
  refine Good.of_run (key _ he) (Post.pure m ?_)
  simp only[V]
  exact⟨g,hg,by rw[dA,Nat.add_assoc]⟩
 ·simp only[V]at hx
  obtain⟨ad,he,hl⟩:=hx
  refine Good.of_run (key _ he) (Post.pure m ?_)
  simp only[V]
  exact⟨ad,by rw[mS],hl⟩
def N9(T':Ty):(T:Ty)→T.den→Nat→Option T'.den
 | T,x,off=>if h:T=T'∧off=0 then some (h.1 ▸ x)else match T,x with
  | .prod a b,x=>if off<a.size then N9 T' a x.1 off else N9 T' b x.2 (off - a.size)
  | _,_=>none
theorem aCS{F:Addr→Value→Prop}{T':Ty}:∀ {T:Ty} {x:T.den} {off:Nat} {y:T'.den},N9 T' T x off=some y→∀ {g:Nat→Value→Prop},Vcells F T x g→Vcells F T' y (fun k u=>g (off+k) u):=fun {T}=>by
 induction T with
 | prod a b iha ihb =>
  intro x off y h g hv
  unfold N9 at h
  split at h
  ·rename_i hc
   obtain⟨rfl,rfl⟩:=hc
   cases h
   exact Vcells.mono (fun _ _ h=>h) (fun k u hk=>by rwa [Nat.zero_add]) hv
  ·simp only at h
   split at h
   ·exact iha h hv.1
   ·rename_i hlt
    refine Vcells.mono (fun _ _ h=>h) (fun k u hk=> ?_) (ihb h hv.2)
    rwa [←Nat.add_assoc,Nat.add_sub_cancel' (Nat.le_of_not_lt hlt)]at hk
 | _ =>
  intro x off y h g hv
  unfold N9 at h
  split at h
  ·rename_i hc
   obtain⟨rfl,rfl⟩:=hc
   cases h
   exact Vcells.mono (fun _ _ h=>h) (fun k u hk=>by rwa [Nat.zero_add]) hv
  ·simp only at h
   cases h
theorem Z0(m:Mem Bw w0 ρ φ h w){o:Oper}{a:Act}{t:TypeId}{ti:TI}(ht:TIok P t ti){xo:Operand}{β:Bool}{T:Ty}{x:T.den}(hx:V (Fr (own φ h) Bw w) ρ (.loc β T x) (a.eval xo)){f:Nat}(ho:o.op = .fieldAddr t xo f)
  {fs:List (Nat×TypeId)} (hk:ti.k = .st fs) {off:Nat} {ft:TypeId} (hf:fs[f]? = some (off,ft)) {T':Ty} {y:T'.den} (hy:N9 T' T x off=some y):Good P o a w (Post Bw w0 ρ φ h w new (.loc β T' y) []):=by
 obtain⟨d,h1,h2⟩:=ht.hu
 rw[hk]at h2
 obtain⟨fa,rfl,h3,h4⟩:=h2
 subst h3
 rw[List.getElem?_map]at hf
 obtain⟨fd,hfd,hfe⟩:∃fd,fa.toList[f]? = some fd∧(fd.offset,fd.type)=(off,ft):=by
  cases hq:fa.toList[f]? with
  | none=>rw[hq]at hf;cases hf
  | some fd=>rw[hq]at hf;exact⟨fd,rfl,by simpa using hf⟩
 cases hfe
 have hfa:fa[f]? = some fd:=by simpa using hfd
 obtain⟨i,hi,hsz⟩:=h4 fd (List.mem_of_getElem? hfd)
 simp only[V]at hx
 obtain⟨ad,he,hv⟩:=hx
 refine Good.of_run (v:= .pointer (some (ad.add fd.offset))) (w':=w) (by simp[execOp,ho,Instr.fieldAt,run_underlying h1,hfa,he,Instr.sureAddr,fieldPlace,sizeOf,typeInfo,hi,hsz]) (Post.pure m ?_)
 simp only[V]
 exact⟨_,rfl,Vcells.mono (fun _ _ h=>h) (fun k u hk=>by rwa [mS]) (aCS hy hv)⟩
theorem aB5(m:Mem Bw w0 ρ φ h w){o:Oper}{a:Act}{t:TypeId}{ti:TI}(ht:TIok P t ti){xo:Operand}{β:Bool}{T:Ty}{x:T.den}(hx:V (Fr (own φ h) Bw w) ρ (.loc β T x) (a.eval xo))(ho:o.op = .load t xo)
  (hT:ti.T=some T) (hs:T.scalar=true):Good P o a w (Post Bw w0 ρ φ h w new (.p β T x) []):=by
 simp only[V]at hx
 obtain⟨ad,he,hv⟩:=hx
 have hfl:=lA (ρ:=ρ) β T x _ hv
 have hone:g5 β T x=[.p (if T.isRef then β else false) T x]∨g5 β T x=[.p β T x]:=by
  cases T <;> simp[Ty.scalar]at hs <;> simp[g5,Ty.isRef]
 obtain⟨hT1,hT2,_⟩:=ht.hT T hT
 have hagg:ti.k.agg=false:=by rw[hs]at hT2;simpa using hT2.symm
 have hld:∀y:AVal,g5 β T x=[y]→V (Fr (own φ h) Bw w) ρ y=V (Fr (own φ h) Bw w) ρ y:=fun _ _=>rfl
 obtain⟨u,hu,hV⟩:∃u,w.cell? (ad.add 0)=some u∧V (Fr (own φ h) Bw w) ρ (.p β T x) u:=by
  have hsz:T.size=1:=Ty.size_scalar hs
  rcases hone with e | e
  ·rw[e]at hfl
   obtain⟨u,q1,q2⟩:=VL.get hfl (k:=0) rfl
   refine⟨u,World.peek_cell q1.2.2 (yX rfl q2),?_⟩
   by_cases hr:T.isRef=true
   ·simpa [hr]using q2
   ·simp only[hr]at q2
    simp only[V]at q2 ⊢
    exact⟨q2.1,zT q2.1 (by simpa using hr) q2.2⟩
  ·rw[e]at hfl
   obtain⟨u,q1,q2⟩:=VL.get hfl (k:=0) rfl
   exact⟨u,World.peek_cell q1.2.2 (yX rfl q2),q2⟩
 obtain⟨v,h3,h4⟩:=hZ (P:=P) (F:=Fr (own φ h) Bw w) (ρ:=ρ) (cs:=[.p β T x]) (off:=0) (x:= .p β T x) ht (w:=w) (ad:=ad) (by
  simp only[VL]
  exact⟨⟨u,hu,hV⟩,trivial⟩) (by unfold fN;rw[hagg];rfl)
 have h0:ad.add 0=ad:=by simp[Addr.add]
 rw[h0]at h3
 refine Good.of_run (v:=v) (w':=w) ?_ (Post.pure m h4)
 simp[execOp,ho,Instr.loadAt,he,Instr.sureAddr,h3]
theorem aAf(m:Mem Bw w0 ρ φ h w){o:Oper}{a:Act}{t e:TypeId}{ti te:TI}{n:Nat}(ht:TIok P t ti)(hk:ti.k = .ar n e)(hte:TIok P e te)(hsz:te.size=1){xo io:Operand}{β:Bool}{k:IntKind}{xs:Arr n}
  (hx:V (Fr (own φ h) Bw w) ρ (.loc β (.arr k n) xs) (a.eval xo)) {β':Bool} {k':IntKind} {i:Int} (hi:V (Fr (own φ h) Bw w) ρ (.p β' (.int k') i) (a.eval io)) (ho:o.op = .indexAddr t xo io) (h0:0≤i) (h1:i<(n:Int)) :
  Good P o a w (Post Bw w0 ρ φ h w new (.loc β (.int k) (gB xs i.toNat)) []):=by
 obtain⟨d,hd1,hd2⟩:=ht.hu
 rw[hk]at hd2
 simp only[UK]at hd2
 subst hd2
 simp only[V]at hx
 obtain⟨ad,he,hv⟩:=hx
 have hi':=cN hi
 refine Good.of_run (v:= .pointer (some (ad.add (i.toNat*te.size)))) (w':=w) (by simp[execOp,ho,Instr.indexAt,asIntOf,hi',he,run_underlying hd1,Instr.sureAddr,run_sizeOf hte,h0,h1]) (Post.pure m ?_)
 simp only[V]
 refine⟨_,rfl,?_⟩
 have hlt:i.toNat<xs.1.length:=by rw[xs.2];omega
 have hw:=hv i.toNat hlt
 simp only[Vcells]
 rw[mS,hsz,Nat.mul_one,Nat.add_zero]
 have e:gB xs i.toNat=xs.1[i.toNat]:=by simp[gB,hlt]
 rw[e]
 exact hw
theorem G7(m:Mem Bw w0 ρ φ h w){o:Oper}{a:Act}{t e:TypeId}{ti te:TI}(ht:TIok P t ti)(hk:ti.k = .sl e)(hte:TIok P e te){xo io:Operand}{β:Bool}{A:Ty}{xs:List A.den}(hx:V (Fr (own φ h) Bw w) ρ (.p β (.slice A) xs) (a.eval xo))
  {β':Bool} {k:IntKind} {i:Int} (hi:V (Fr (own φ h) Bw w) ρ (.p β' (.int k) i) (a.eval io)) (ho:o.op = .indexAddr t xo io) (hsz:A.size=te.size) (h0:0≤i) (h1:i<xs.length) :
  Good P o a w (Post Bw w0 ρ φ h w new (.loc β A (xs.getD i.toNat A.zero)) []):=by
 have hu:=bK ht hk
 have he:=cN hi
 simp only[V,Vcells]at hx
 obtain⟨_,ad,len,cap,hs,⟨hl,_⟩,hx⟩:=hx
 have hlt:i.toNat<xs.length:=by omega
 obtain⟨b,hb,hv⟩:=hx i.toNat hlt
 subst hb
 refine Good.of_run (v:= .pointer (some (b.add (i.toNat*te.size)))) (w':=w) (by simp[execOp,ho,Instr.indexAt,asIntOf,he,←hs,run_underlying hu,run_sizeOf hte,h0,hl,h1]) (Post.pure m ?_)
 simp only[V]
 refine⟨_,rfl,?_⟩
 have e:xs.getD i.toNat A.zero=xs[i.toNat]:=by simp[hlt]
 rw[e]
 exact Vcells.mono (fun _ _ h=>h) (fun k u hk=>by rw[mS,←hsz];exact hk) hv
theorem aCH(m:Mem Bw w0 ρ φ h w){o:Oper}{a:Act}{xo:Operand}{β:Bool}{A:Ty}{q:Option A.den}(hx:V (Fr (own φ h) Bw w) ρ (.p β (.ptr A) q) (a.eval xo))(ho:o.op = .nilCheck xo)(hq:q.isSome=true):
  Good P o a w (Post Bw w0 ρ φ h w new (.loc β A (q.getD A.zero)) []):=by
 cases q with
 | none=>cases hq
 | some y =>
  obtain⟨_,b,e,hv⟩:_∧∃b:Addr,Value.pointer (some b)=a.eval xo∧Vcells (Fr (own φ h) Bw w β) A y (fun k v=>Fr (own φ h) Bw w β (b.add k) v):=by simpa only [V,Vcells]using hx
  refine Good.of_run (v:=a.eval xo) (w':=w) (by simp only[execOp,ho,←e];rfl) (Post.pure m ?_)
  simp only[V,Option.getD_some]
  exact⟨b,e.symm,hv⟩
theorem aB9(m:Mem Bw w0 ρ φ h w){o:Oper}{a:Act}{xo:Operand}{β:Bool}{A:Ty}{x:A.den}(hx:V (Fr (own φ h) Bw w) ρ (.loc β A x) (a.eval xo))(ho:o.op = .nilCheck xo):
  Good P o a w (Post Bw w0 ρ φ h w new (.loc β A x) []):=by
 obtain⟨ad,h1,h2⟩:∃ad:Addr,a.eval xo = .pointer (some ad)∧_:=by simpa only [V]using hx
 exact Good.of_run (v:=a.eval xo) (w':=w) (by simp only[execOp,ho,h1];rfl) (Post.pure m hx)
def aAT(h:Nat→Option Obj)(x:AVal)(i:Int):Option (AVal×Nat×Prop) :=
 match x with
 | .p β (.slice A) xs=>some (.fad β (g5 β A (xs.getD i.toNat A.zero)) 0,A.size,0≤i∧i<xs.length)
 | .sl id=>match h id with
  | some (.arr _ A xs)=>some (.adr id i.toNat A.size 0,A.size,0≤i∧i<xs.length)
  | some (.fz A xs)=>some (.fad false (g5 false A (xs.getD i.toNat A.zero)) 0,A.size,0≤i∧i<xs.length)
  | some (.mat _ _ _ xss _)=>some (.adr id i.toNat 1 0,1,0≤i∧i<xss.length)
  | some (.bytes _ xs)=>some (.adr id i.toNat 1 0,1,0≤i∧i<xs.length)
  | _=>none
 | _=>none
theorem O1(m:Mem Bw w0 ρ φ h w){o:Oper}{a:Act}{t e:TypeId}{ti te:TI}(ht:TIok P t ti)(hk:ti.k = .sl e)(hte:TIok P e te){xo io:Operand}{x:AVal}(hx:V (Fr (own φ h) Bw w) ρ x (a.eval xo))
  {β:Bool} {k:IntKind} {i:Int} (hi:V (Fr (own φ h) Bw w) ρ (.p β (.int k) i) (a.eval io)) (ho:o.op = .indexAddr t xo io)
  {y:AVal} {c:Prop} (hy:aAT h x i=some (y,te.size,c)) (hc:c):Good P o a w (Post Bw w0 ρ φ h w new y []):=by
 have hu:=bK ht hk
 have he:=cN hi
 have key:∀(b:Addr) (len cap:Nat),a.eval xo = .slice (some b) len cap→0≤i→i<len→(execOp a.eval o).run P w = .ok (.value (.pointer (some (b.add (i.toNat*te.size))))) w:=fun b len cap hb h0 h1=>by
  simp[execOp,ho,Instr.indexAt,asIntOf,he,hb,run_underlying hu,run_sizeOf hte,h0,h1]
 have data:∀(β':Bool) (A:Ty) (xs:List A.den),V (Fr (own φ h) Bw w) ρ (.p β' (.slice A) xs) (a.eval xo)→A.size=te.size→(0≤i∧i<xs.length) →
   Good P o a w (Post Bw w0 ρ φ h w new (.fad β' (g5 β' A (xs.getD i.toNat A.zero)) 0) []):=fun β' A xs hx hsz hc=>by
  simp only[V,Vcells]at hx
  obtain⟨_,ad,len,cap,hs,⟨hl,_⟩,hx⟩:=hx
  have hlt:i.toNat<xs.length:=by omega
  obtain⟨b,hb,hv⟩:=hx i.toNat hlt
  subst hb
  refine Good.of_run (key b len cap hs.symm hc.1 (by omega)) (Post.pure m ?_)
  simp only[V]
  refine⟨b.add (i.toNat*te.size),by simp[Addr.add],?_⟩
  have e:xs.getD i.toNat A.zero=xs[i.toNat]:=by simp[hlt]
  rw[e]
  exact lA β' A _ _ (Vcells.mono (fun _ _ h=>h) (fun k u hk=>by rw[mS,←hsz];exact hk) hv)
 unfold aAT at hy
 split at hy
 ·simp only[Option.some.injEq,Prod.mk.injEq]at hy
  obtain⟨rfl,hsz,rfl⟩:=hy
  exact data _ _ _ hx hsz hc
 ·rename_i id
  simp only[V]at hx
  obtain⟨hρ,_,_,_,_⟩:=hx
  split at hy
  ·rename_i te' A xs hi'
   simp only[Option.some.injEq,Prod.mk.injEq]at hy
   obtain⟨rfl,hsz,rfl⟩:=hy
   obtain⟨u,q1,hsa,_,cells,r1,r2⟩:=m.ob id _ hi'
   rw[hρ]at q1
   simp only[Option.some.injEq]at q1
   rcases r1.2 with⟨_,hn⟩ | ⟨g,cap,cur,hu',_⟩
   ·omega
   ·refine Good.of_run (key ⟨g,0,none⟩ _ cap (q1.trans hu') hc.1 hc.2) (Post.pure m ?_)
    simp only[V]
    exact⟨g,.inr ⟨_,_,by rw[hρ,q1,hu']⟩,by rw[dA,hsz];simp⟩
  ·rename_i A xs hi'
   simp only[Option.some.injEq,Prod.mk.injEq]at hy
   obtain⟨rfl,hsz,rfl⟩:=hy
   obtain⟨u,q1,q2⟩:=m.ob id _ hi'
   rw[hρ]at q1
   simp only[Option.some.injEq]at q1
   subst q1
   exact data _ _ _ q2 hsz hc
  ·rename_i te' e2 A xss ho' hi'
   simp only[Option.some.injEq,Prod.mk.injEq]at hy
   obtain⟨rfl,hsz,rfl⟩:=hy
   obtain⟨u,q1,hsa,_,_,cells,r1,r2⟩:=m.ob id _ hi'
   rw[hρ]at q1
   simp only[Option.some.injEq]at q1
   rcases r1.2 with⟨_,hn⟩ | ⟨g,cap,cur,hu',_⟩
   ·omega
   ·refine Good.of_run (key ⟨g,0,none⟩ _ cap (q1.trans hu') hc.1 hc.2) (Post.pure m ?_)
    simp only[V]
    exact⟨g,.inr ⟨_,_,by rw[hρ,q1,hu']⟩,by rw[dA,←hsz];simp⟩
  ·rename_i te' xs hi'
   simp only[Option.some.injEq,Prod.mk.injEq]at hy
   obtain⟨rfl,hsz,rfl⟩:=hy
   obtain⟨u,q1,q2⟩:=m.ob id _ hi'
   rw[hρ]at q1
   simp only[Option.some.injEq]at q1
   rcases q2 with⟨_,hn⟩ | ⟨g,cap,cur,mk,hu',_⟩
   ·subst hn;simp at hc;omega
   ·refine Good.of_run (key ⟨g,0,none⟩ _ cap (q1.trans hu') hc.1 hc.2) (Post.pure m ?_)
    simp only[V]
    exact⟨g,.inr ⟨_,_,by rw[hρ,q1,hu']⟩,by rw[dA,←hsz];simp⟩
  ·cases hy
 ·cases hy
end
end Go.Tv
