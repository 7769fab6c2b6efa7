/- Operations on memory: new variables, loads, stores, addresses. -/
import Derived.Test.YtacpjjgochokcaaDoorTvDm
import Derived.Laws.OwnMore
namespace Go.Tv
open Go Go.RowKit
section
variable{P:Program}{Bw:Nat→Prop}{w0:Base P}{ρ:Nat→Option Value}{φ:Nat→Nat→Prop}{h:Nat→Option Obj}{w:World}{new:Nat}
theorem OR.blk_lt{F:Bool→Addr→Value→Prop}{S:Nat→Prop}{o:Obj}{u:Value}(h:OR F ρ S w o u)(hl:o.live=true){k:Nat}(hk:kT u=some k):k<w.heap.size:=by
 have key:∀g (x:Go.Obj),w.heap[g]? = some x→g<w.heap.size:=fun g x hx=>by
  rcases Nat.lt_or_ge g w.heap.size with h' | h'
  ·exact h'
  ·rw[Array.getElem?_eq_none h']at hx;cases hx
 cases o with
 | arr e A xs =>
  obtain⟨_,_,cells,⟨_,h2⟩,_⟩:=h
  rcases h2 with⟨rfl,_⟩ | ⟨g,cap,cur,rfl,_,r2,_⟩
  ·simp[kT]at hk
  ·simp only[kT,Option.some.injEq]at hk;subst hk;exact key _ _ r2
 | fz A xs=>simp[Obj.live]at hl
 | box cs =>
  obtain⟨g,t,cells,rfl,_,h1,_⟩:=h
  simp only[kT,Option.some.injEq]at hk;subst hk;exact key _ _ h1
 | mpo K A kv =>
  obtain⟨r,es,clock,rfl,_,h1,_⟩:=h
  simp only[kT,Option.some.injEq]at hk;subst hk;exact key _ _ h1
 | mpl K kv =>
  obtain⟨r,es,clock,rfl,_,h1,_⟩:=h
  simp only[kT,Option.some.injEq]at hk;subst hk;exact key _ _ h1
 | mat e e2 A xss ho =>
  obtain⟨_,_,_,cells,⟨_,h2⟩,_⟩:=h
  rcases h2 with⟨rfl,_⟩ | ⟨g,cap,cur,rfl,_,r2,_⟩
  ·simp[kT]at hk
  ·simp only[kT,Option.some.injEq]at hk;subst hk;exact key _ _ r2
theorem lP(m:Mem Bw w0 ρ φ h w){w':World}(i0:Option Nat)(i1:Nat)(o1:Obj)(u1:Value)(S1:Nat→Prop)(row:Option Nat)
  (hg:w.grownBy w' row)
  (h0:∀k,row=some k→∃i o,i0=some i∧h i=some o∧o.live=true∧φ i k)
  (hfresh:ρ i1=none∨(i0=some i1∧ρ i1=some u1))
  (hlt:o1.live=true→∀k,S1 k→k<w'.heap.size)
  (hb:o1.live=true→∀k,S1 k→w.heap.size≤k∨∃i o,i0=some i∧h i=some o∧o.live=true∧φ i k)
  (ho:∀F' ρ',(∀β a v,Fr (own φ h) Bw w β a v→F' β a v)→(∀i u,ρ i=some u→ρ' i=some u)→OR F' ρ' S1 w' o1 u1)
  {x:AVal} {v:Value} {u:j6} (hu:apply u h=upd (fun i=>if i0=some i then none else h i) i1 (some o1))
  (hnew:ρ i1=none→i1=new)
  (hx:∀F' ρ',(∀β a v,Fr (own φ h) Bw w β a v→F' β a v)→(∀i u,ρ i=some u→ρ' i=some u)→ρ' i1=some u1→V F' ρ' x v) :
  Post Bw w0 ρ φ h w new x u v w':=by
 obtain⟨m',f1,f2⟩:=m.put i0 i1 o1 u1 S1 row hg h0 hfresh hlt hb ho
 refine⟨upd ρ i1 (some u1),upd φ i1 S1,by rw[hu];exact m',by rw[hu];exact f1,f2,fun i u hi=> ?_,hx _ _ (by rw[hu];exact f1) f2 (aM _ _ _)⟩
 by_cases e:i=i1
 ·subst e
  rcases hfresh with hf | ⟨_,hf⟩
  ·exact .inr ⟨0,by omega,hnew hf⟩
  ·rw[aM]at hi;exact .inl (by rw[hf,hi])
 ·rw[bG _ _ e]at hi;exact .inl hi
theorem iA(m:Mem Bw w0 ρ φ h w){w':World}(i0:Option Nat)(i1:Nat)(o1:Obj)(u1:Value)(row:Option Nat)
  (hg:w.grownBy w' row)
  (h0:∀k,row=some k→∃i o,i0=some i∧h i=some o∧o.live=true∧φ i k)
  (hfresh:ρ i1=none∨(i0=some i1∧ρ i1=some u1))
  (hb:o1.live=true→∀k,kT u1=some k→w.heap.size≤k∨row=some k)
  (ho:∀F' ρ',(∀β a v,Fr (own φ h) Bw w β a v→F' β a v)→(∀i u,ρ i=some u→ρ' i=some u)→OR F' ρ' (fun k=>kT u1=some k) w' o1 u1)
  {x:AVal} {v:Value} {u:j6} (hu:apply u h=upd (fun i=>if i0=some i then none else h i) i1 (some o1))
  (hnew:ρ i1=none→i1=new)
  (hx:∀F' ρ',(∀β a v,Fr (own φ h) Bw w β a v→F' β a v)→(∀i u,ρ i=some u→ρ' i=some u)→ρ' i1=some u1→V F' ρ' x v) :
  Post Bw w0 ρ φ h w new x u v w' :=
 lP m i0 i1 o1 u1 (fun k=>kT u1=some k) row hg h0 hfresh
  (fun hl k hk=>OR.blk_lt (ho (fun _ _ _=>True) (fun i=>(ρ i)) (fun _ _ _ _=>trivial) (fun _ _ h=>h)) hl hk)
  (fun hl k hk=>(hb hl k hk).imp id (fun e=>h0 k e)) ho hu hnew hx
theorem Post.after{u1 u2:j6}{h1:Nat→Option Obj}(e:apply u1 h=h1)(hF:∀β a v,Fr (own φ h) Bw w β a v→Fr (own φ h1) Bw w β a v){x:AVal}{v:Value}{w':World}
  (hp:Post Bw w0 ρ φ h1 w new x u2 v w'):Post Bw w0 ρ φ h w new x (u1++u2) v w':=by
 subst e
 obtain⟨ρ',φ',q1,q2,q3,q4,q5⟩:=hp
 rw[←gW]at q1 q2 q5
 exact⟨ρ',φ',q1,fun β a v hh=>q2 _ _ _ (hF _ _ _ hh),q3,q4,q5⟩
theorem R1(m:Mem Bw w0 ρ φ h w)(hn:ρ new=none){cs:List AVal}{arr:Array Value}{te:TypeId}(hs:arr.size=cs.length)
  (hl:VL (Fr (own φ h) Bw w) ρ cs (fun k u=>arr[k]? = some u)) (sz:Nat) :
  Post Bw w0 ρ φ h w new (.adr new 0 sz 0) [(new,some (.box cs))] (.pointer (some ⟨w.heap.size,0,none⟩)) (w.alloc (.cells arr te)):=by
 refine iA m none new (.box cs) (.pointer (some ⟨w.heap.size,0,none⟩)) none (World.grownBy_alloc w _ none) (fun k e=>by cases e) (.inl hn) (fun _ k hk=> ?_) (fun F' ρ' hF hρ=> ?_)
  (by rw[dI];rfl) (fun _=>rfl) (fun F' ρ' hF hρ hnew=> ?_)
 ·simp only[kT,Option.some.injEq]at hk
  exact .inl (by omega)
 ·exact⟨_,te,arr,rfl,rfl,heap_alloc_new w _,hs,VL.mono hF hρ (fun _ _ h=>h) hl⟩
 ·simp only[V]
  exact⟨_,.inl hnew,by simp⟩
theorem Z1(m:Mem Bw w0 ρ φ h w)(hn:ρ new=none){o:Oper}{a:Act}{t:TypeId}{ti:TI}(ht:TIok P t ti)(ho:o.op = .alloc t):
  Good P o a w (Post Bw w0 ρ φ h w new (.adr new 0 ti.size 0) [(new,some (.box ti.z))]):=by
 obtain⟨z,h1,h2,h3,h4⟩:=f9 ht w
 refine Good.of_run (v:= .pointer (some ⟨w.heap.size,0,none⟩)) (w':=w.alloc (.cells z.cells t)) ?_ (R1 m hn (by rw[←h2];simp) ?_ _)
 ·simp[execOp,ho,Instr.alloc,h1,newVar,newRow]
 ·rw[←h2]
  have:=lT (F:=Fr (own φ h) Bw w) (ρ:=ρ) z.cells.toList
  simpa using this
theorem aDL(m:Mem Bw w0 ρ φ h w)(hn:ρ new=none){o:Oper}{a:Act}{t:TypeId}{xo:Operand}{x:AVal}(hx:V (Fr (own φ h) Bw w) ρ x (a.eval xo))(hc:(cellsOf x).all AVal.cell=true)
  (ho:o.op = .box t xo) (sz:Nat):Good P o a w (Post Bw w0 ρ φ h w new (.adr new 0 sz 0) [(new,some (.box (cellsOf x)))]):=by
 obtain⟨h1,h2,h3⟩:=iJ hc hx
 refine Good.of_run (v:= .pointer (some ⟨w.heap.size,0,none⟩)) (w':=w.alloc (.cells (a.eval xo).cells t)) ?_ (R1 m hn (by simpa using h2) (VL.mono (fun _ _ _ h=>h) (fun _ _ h=>h) (fun k u hk=>by simpa using hk) h1) _)
 simp[execOp,ho,Instr.box,newVar,newRow]
def mS(h:Nat→Option Obj):AVal→Option (List AVal×Nat×Prop)
 | .adr id i sz off=>match h id with
  | some (.box cs)=>some (cs,i*sz+off,True)
  | some (.arr _ A xs)=>if sz=A.size then some (i6 false A (xs.getD i A.zero),off,i<xs.length)else none
  | some (.fz A xs)=>if sz=A.size then some (i6 false A (xs.getD i A.zero),off,i<xs.length)else none
  | _=>none
 | .fad _ cs off=>some (cs,off,True)
 | _=>none
theorem zG{F:Bool→Addr→Value→Prop}{A:Ty}{xs:List A.den}{i:Nat}{g:Nat→Value→Prop}(hi:i<xs.length)(hv:Vcells (F false) A xs[i] g):VL F ρ (i6 false A (xs.getD i A.zero)) g:=by
 have e:xs.getD i A.zero=xs[i]:=by simp[hi]
 rw[e]
 exact lH false A _ _ hv
theorem rE(m:Mem Bw w0 ρ φ h w){x:AVal}{v:Value}(hv:V (Fr (own φ h) Bw w) ρ x v){cs:List AVal}{off:Nat}{c:Prop}(hc:mS h x=some (cs,off,c))(hcc:c):
  ∃ad:Addr,v = .pointer (some (ad.add off))∧VL (Fr (own φ h) Bw w) ρ cs (fun k u=>w.cell? (ad.add k)=some u):=by
 unfold mS at hc
 split at hc
 ·rename_i id i sz off'
  simp only[V]at hv
  obtain⟨g,hg,rfl⟩:=hv
  split at hc
  ·rename_i cs' hi
   cases hc
   obtain⟨u,q1,g',te,cells,rfl,hsg,r1,r2,r3⟩:=m.ob id _ hi
   rw[q1]at hg
   have hgg:g'=g:=by
    rcases hg with hg | ⟨n,c,hg⟩
    ·simpa using hg
    ·cases hg
   subst hgg
   refine⟨⟨g',0,none⟩,by rw[fJ,Nat.zero_add],VL.mono (fun _ _ _ h=>h) (fun _ _ h=>h) (fun k u hk=> ?_) r3⟩
   rw[fJ,Nat.zero_add,cell_of_row w g' k cells te (0,0) r1]
   exact hk
  ·rename_i te A xs hi
   split at hc
   ·rename_i e
    cases hc
    obtain⟨u,q1,q2⟩:=m.ob id _ hi
    obtain⟨_,_,cells,r1,r2⟩:=q2
    have hrow:=r1.cells (g:=g)
    have hob:u.ownBlock=some g:=by
     rcases r1.2 with⟨rfl,hn⟩ | ⟨g',cap,cur,rfl,_⟩
     ·omega
     ·rw[q1]at hg
      rcases hg with hg | ⟨n,c,hg⟩
      ·cases hg
      ·simp only[Option.some.injEq,Value.slice.injEq]at hg
       obtain⟨hg,_⟩:=hg
       cases hg
       rfl
    refine⟨⟨g,i*A.size,none⟩,by rw[fJ,e],zG hcc (Vcells.mono (fun _ _ h=>h) (fun k u hk=> ?_) (r2 i hcc))⟩
    have:=hrow hob _ _ hk
    rw[fJ,Nat.zero_add]at this
    rw[fJ]
    exact this
   ·cases hc
  ·rename_i A xs hi
   split at hc
   ·rename_i e
    cases hc
    obtain⟨u,q1,q2⟩:=m.ob id _ hi
    simp only[OR,V,Vcells]at q2
    obtain⟨_,ad,len,cap,rfl,hl,q2⟩:=q2
    obtain⟨b,hb,q3⟩:=q2 i hcc
    subst hb
    rw[q1]at hg
    have hb0:b=⟨g,0,none⟩:=by
     rcases hg with hg | ⟨n,c,hg⟩
     ·cases hg
     ·simp only[Option.some.injEq,Value.slice.injEq]at hg
      exact hg.1
    subst hb0
    refine⟨⟨g,i*A.size,none⟩,by rw[fJ,e],zG hcc (Vcells.mono (fun _ _ h=>h) (fun k u hk=> ?_) q3)⟩
    rw[fJ,Nat.zero_add]at hk
    rw[fJ]
    exact hk.2.2
   ·cases hc
  ·cases hc
 ·cases hc
  simp only[V]at hv
  obtain⟨ad,rfl,hl⟩:=hv
  exact⟨ad,rfl,VL.mono (fun _ _ _ h=>h) (fun _ _ h=>h) (fun k u hk=>hk.2.2) hl⟩
 ·cases hc
theorem aBJ(m:Mem Bw w0 ρ φ h w){o:Oper}{a:Act}{t:TypeId}{ti:TI}(ht:TIok P t ti){xo:Operand}{x:AVal}(hx:V (Fr (own φ h) Bw w) ρ x (a.eval xo))(ho:o.op = .load t xo)
  {cs:List AVal} {off:Nat} {c:Prop} (hc:mS h x=some (cs,off,c)) (hcc:c) {y:AVal} (hy:tT ti cs off=some y):Good P o a w (Post Bw w0 ρ φ h w new y []):=by
 obtain⟨ad,h1,h2⟩:=rE m hx hc hcc
 obtain⟨v,h3,h4⟩:=vY (P:=P) ht h2 hy
 refine Good.of_run (v:=v) (w':=w) ?_ (Post.pure m h4)
 simp[execOp,ho,Instr.loadAt,h1,Instr.sureAddr,h3]
theorem qD(m:Mem Bw w0 ρ φ h w){o:Oper}{a:Act}{t:TypeId}{ti:TI}(ht:TIok P t ti){xo:Operand}{x:AVal}(hx:V (Fr (own φ h) Bw w) ρ x (a.eval xo)){f:Nat}(ho:o.op = .fieldAddr t xo f)
  {fs:List (Nat×TypeId)} (hk:ti.k = .st fs) {off:Nat} {ft:TypeId} (hf:fs[f]? = some (off,ft)) {y:AVal}
  (hy:(∃id i sz k,x = .adr id i sz k∧y = .adr id i sz (k+off))∨(∃β cs k,x = .fad β cs k∧y = .fad β cs (k+off))):Good P o a w (Post Bw w0 ρ φ h w new y []):=by
 obtain⟨d,h1,h2⟩:=ht.hu
 rw[hk]at h2
 obtain⟨fa,rfl,h3,h4⟩:=h2
 subst h3
 rw[List.getElem?_map]at hf
 obtain⟨fd,hfd,hfe⟩:∃fd,fa.toList[f]? = some fd∧(fd.offset,fd.type)=(off,ft):=by
  cases hq:fa.toList[f]? with
  | none=>rw[hq]at hf;cases hf
  | some fd=>rw[hq]at hf;exact⟨fd,rfl,by simpa using hf⟩
 cases hfe
 have hfa:fa[f]? = some fd:=by simpa using hfd
 obtain⟨i,hi,hsz⟩:=h4 fd (List.mem_of_getElem? hfd)
 have key:∀ad:Addr,a.eval xo = .pointer (some ad)→(execOp a.eval o).run P w = .ok (.value (.pointer (some (ad.add fd.offset)))) w:=fun ad he=>by
  simp[execOp,ho,Instr.fieldAt,run_underlying h1,hfa,he,Instr.sureAddr,fieldPlace,sizeOf,typeInfo,hi,hsz]
 rcases hy with⟨id,i,sz,k,rfl,rfl⟩ | ⟨β,cs,k,rfl,rfl⟩
 ·simp only[V]at hx
  obtain⟨g,hg,he⟩:=hx
  refine Good.of_run (key _ he) (Post.pure m ?_)
  simp only[V]
  exact⟨g,hg,by rw[fJ,Nat.add_assoc]⟩
 ·simp only[V]at hx
  obtain⟨ad,he,hl⟩:=hx
  refine Good.of_run (key _ he) (Post.pure m ?_)
  simp only[V]
  exact⟨ad,by rw[qP],hl⟩
def E4(h:Nat→Option Obj)(x:AVal)(i:Int):Option (AVal×Nat×Prop) :=
 match x with
 | .p β (.slice A) xs=>some (.fad β (i6 β A (xs.getD i.toNat A.zero)) 0,A.size,0≤i∧i<xs.length)
 | .sl id=>match h id with
  | some (.arr _ A xs)=>some (.adr id i.toNat A.size 0,A.size,0≤i∧i<xs.length)
  | some (.fz A xs)=>some (.fad false (i6 false A (xs.getD i.toNat A.zero)) 0,A.size,0≤i∧i<xs.length)
  | some (.mat _ _ _ xss _)=>some (.adr id i.toNat 1 0,1,0≤i∧i<xss.length)
  | _=>none
 | _=>none
theorem zF(m:Mem Bw w0 ρ φ h w){o:Oper}{a:Act}{t e:TypeId}{ti te:TI}(ht:TIok P t ti)(hk:ti.k = .sl e)(hte:TIok P e te){xo io:Operand}{x:AVal}(hx:V (Fr (own φ h) Bw w) ρ x (a.eval xo))
  {β:Bool} {k:IntKind} {i:Int} (hi:V (Fr (own φ h) Bw w) ρ (.p β (.int k) i) (a.eval io)) (ho:o.op = .indexAddr t xo io)
  {y:AVal} {c:Prop} (hy:E4 h x i=some (y,te.size,c)) (hc:c):Good P o a w (Post Bw w0 ρ φ h w new y []):=by
 have hu:=dG ht hk
 have he:=dF hi
 have key:∀(b:Addr) (len cap:Nat),a.eval xo = .slice (some b) len cap→0≤i→i<len→(execOp a.eval o).run P w = .ok (.value (.pointer (some (b.add (i.toNat*te.size))))) w:=fun b len cap hb h0 h1=>by
  simp[execOp,ho,Instr.indexAt,asIntOf,he,hb,run_underlying hu,run_sizeOf hte,h0,h1]
 have data:∀(β':Bool) (A:Ty) (xs:List A.den),V (Fr (own φ h) Bw w) ρ (.p β' (.slice A) xs) (a.eval xo)→A.size=te.size→(0≤i∧i<xs.length) →
   Good P o a w (Post Bw w0 ρ φ h w new (.fad β' (i6 β' A (xs.getD i.toNat A.zero)) 0) []):=fun β' A xs hx hsz hc=>by
  simp only[V,Vcells]at hx
  obtain⟨_,ad,len,cap,hs,⟨hl,_⟩,hx⟩:=hx
  have hlt:i.toNat<xs.length:=by omega
  obtain⟨b,hb,hv⟩:=hx i.toNat hlt
  subst hb
  refine Good.of_run (key b len cap hs.symm hc.1 (by omega)) (Post.pure m ?_)
  simp only[V]
  refine⟨b.add (i.toNat*te.size),by simp[Addr.add],?_⟩
  have e:xs.getD i.toNat A.zero=xs[i.toNat]:=by simp[hlt]
  rw[e]
  exact lH β' A _ _ (Vcells.mono (fun _ _ h=>h) (fun k u hk=>by rw[qP,←hsz];exact hk) hv)
 unfold E4 at hy
 split at hy
 ·simp only[Option.some.injEq,Prod.mk.injEq]at hy
  obtain⟨rfl,hsz,rfl⟩:=hy
  exact data _ _ _ hx hsz hc
 ·rename_i id
  simp only[V]at hx
  obtain⟨hρ,_,_,_,_⟩:=hx
  split at hy
  ·rename_i te' A xs hi'
   simp only[Option.some.injEq,Prod.mk.injEq]at hy
   obtain⟨rfl,hsz,rfl⟩:=hy
   obtain⟨u,q1,hsa,_,cells,r1,r2⟩:=m.ob id _ hi'
   rw[hρ]at q1
   simp only[Option.some.injEq]at q1
   rcases r1.2 with⟨_,hn⟩ | ⟨g,cap,cur,hu',_⟩
   ·omega
   ·refine Good.of_run (key ⟨g,0,none⟩ _ cap (q1.trans hu') hc.1 hc.2) (Post.pure m ?_)
    simp only[V]
    exact⟨g,.inr ⟨_,_,by rw[hρ,q1,hu']⟩,by rw[fJ,hsz];simp⟩
  ·rename_i A xs hi'
   simp only[Option.some.injEq,Prod.mk.injEq]at hy
   obtain⟨rfl,hsz,rfl⟩:=hy
   obtain⟨u,q1,q2⟩:=m.ob id _ hi'
   rw[hρ]at q1
   simp only[Option.some.injEq]at q1
   subst q1
   exact data _ _ _ q2 hsz hc
  ·rename_i te' e2 A xss ho' hi'
   simp only[Option.some.injEq,Prod.mk.injEq]at hy
   obtain⟨rfl,hsz,rfl⟩:=hy
   obtain⟨u,q1,hsa,_,_,cells,r1,r2⟩:=m.ob id _ hi'
   rw[hρ]at q1
   simp only[Option.some.injEq]at q1
   rcases r1.2 with⟨_,hn⟩ | ⟨g,cap,cur,hu',_⟩
   ·omega
   ·refine Good.of_run (key ⟨g,0,none⟩ _ cap (q1.trans hu') hc.1 hc.2) (Post.pure m ?_)
    simp only[V]
    exact⟨g,.inr ⟨_,_,by rw[hρ,q1,hu']⟩,by rw[fJ,←hsz];simp⟩
  ·cases hy
 ·cases hy
end
end Go.Tv
namespace Go.Tv
open Go Go.RowKit
def wr(cs:List AVal)(p:Nat)(new:List AVal):List AVal:=cs.take p++new++cs.drop (p+new.length)
theorem aBP{cs new:List AVal}{p:Nat}(h:p+new.length≤cs.length):(wr cs p new).length=cs.length:=by
 simp only[wr,List.length_append,List.length_take,List.length_drop];omega
theorem aDx{F:Bool→Addr→Value→Prop}{ρ:Nat→Option Value}{cs new:List AVal}{us vs:List Value}{p:Nat}(hp:p+new.length≤cs.length)(hus:us.length=cs.length)(hvs:vs.length=new.length)
  (h1:VL F ρ cs (fun k u=>us[k]? = some u)) (h2:VL F ρ new (fun k u=>vs[k]? = some u)) :
  VL F ρ (wr cs p new) (fun k u=>(us.take p++vs++us.drop (p+new.length))[k]? = some u):=by
 refine VL.mk fun k x hk=> ?_
 unfold wr at hk
 have e1:(cs.take p++new).length=p+new.length:=by simp only[List.length_append,List.length_take];omega
 have e2:(us.take p++vs).length=p+new.length:=by simp only[List.length_append,List.length_take];omega
 have e3:(cs.take p).length=p:=by simp only[List.length_take];omega
 have e4:(us.take p).length=p:=by simp only[List.length_take];omega
 rcases Nat.lt_or_ge k (p+new.length)with hlt | hge
 ·rw[List.getElem?_append_left (by omega)]at hk
  rw[List.getElem?_append_left (by omega)]
  rcases Nat.lt_or_ge k p with hlt' | hge'
  ·rw[List.getElem?_append_left (by omega),List.getElem?_take,if_pos hlt']at hk
   rw[List.getElem?_append_left (by omega),List.getElem?_take,if_pos hlt']
   exact VL.get h1 hk
  ·rw[List.getElem?_append_right (by omega),e3]at hk
   rw[List.getElem?_append_right (by omega),e4]
   exact VL.get h2 hk
 ·rw[List.getElem?_append_right (by omega),e1,List.getElem?_drop]at hk
  rw[List.getElem?_append_right (by omega),e2,List.getElem?_drop]
  exact VL.get h1 hk
theorem aAm{P:Program}{Bw:Nat→Prop}{w0:Base P}{w:World}{ρ:Nat→Option Value}{φ:Nat→Nat→Prop}{h:Nat→Option Obj}(m:Mem Bw w0 ρ φ h w){T:Ty}{x:AVal}{y:T.den}{u:j6}(hd:aB3 T h x=some (y,u)):
  Mem Bw w0 ρ φ (apply u h) w∧(∀β a v,Fr (own φ h) Bw w β a v→Fr (own φ (apply u h)) Bw w β a v) ∧
  ∀g:Nat→Value→Prop,VL (Fr (own φ h) Bw w) ρ (cellsOf x) g→Vcells (Fr (own φ (apply u h)) Bw w false) T y g∧T.size=(cellsOf x).length:=by
 unfold aB3 at hd
 split at hd
 ·rename_i cs u' h1
  split at hd
  ·rename_i y' h2
   cases hd
   obtain⟨q1,q2,q3,q4⟩:=pJ m h1
   refine⟨q1,q2,fun g hg=> ?_⟩
   obtain⟨r1,r2,r3⟩:=d7 h2 (q4 g hg)
   refine⟨r1,?_⟩
   have:(cs.drop T.size).length=0:=by rw[←r2];rfl
   simp only[List.length_drop]at this
   omega
  ·cases hd
 ·cases hd
theorem nM{P:Program}{Bw:Nat→Prop}{w0:Base P}{w:World}{ρ:Nat→Option Value}{φ:Nat→Nat→Prop}{h:Nat→Option Obj}(m:Mem Bw w0 ρ φ h w){T:Ty}{x:AVal}{y:T.den}{u:j6}(hd:toT T h x=some (y,u)):
  Mem Bw w0 ρ φ (apply u h) w∧(∀β a v,Fr (own φ h) Bw w β a v→Fr (own φ (apply u h)) Bw w β a v) ∧
  ∀g:Nat→Value→Prop,VL (Fr (own φ h) Bw w) ρ (cellsOf x) g→Vcells (Fr (own φ (apply u h)) Bw w false) T y g∧T.size=(cellsOf x).length:=by
 unfold toT at hd
 split at hd
 ·rename_i A id i sz off
  split at hd
  ·rename_i hz
   split at hd
   ·rename_i cs hi
    split at hd
    ·rename_i y' h2
     cases hd
     obtain⟨m',hF⟩:=m.less (h':=upd h id none) (fun j o hj=>by
      by_cases e:j=id
      ·subst e;rw[aM]at hj;cases hj
      ·rwa [bG _ _ e]at hj)
     refine⟨m',hF,fun g hg=>⟨?_,rfl⟩⟩
     simp only[cellsOf,VL,V]at hg
     obtain⟨⟨u,g0,b,hb,rfl⟩,_⟩:=hg
     obtain⟨u0,q1,gb,te,cells,rfl,hsg,r1,r2,r3⟩:=m.ob id _ hi
     have hgb:gb=b:=by
      rw[q1]at hb
      rcases hb with hb | ⟨n,c,hb⟩
      ·simpa using hb
      ·cases hb
     subst hgb
     rw[hz]at g0
     obtain⟨r4,_,_⟩:=d7 h2 r3
     refine⟨⟨gb,0,none⟩,g0,Vcells.mono (hF false) (fun k v hk=> ?_) r4⟩
     have hk:cells[k]? = some v:=hk
     rw[fJ]
     refine⟨fun⟨id',o',p1,p2,p3⟩=> ?_,fun _ hbw=>m.ow gb ⟨id,_,hi,rfl,hsg⟩ (m.bw _ hbw),?_⟩
     ·have p1:upd h id none id'=some o':=p1
      have hne:id'≠id:=fun e=>by subst e;rw[aM]at p1;cases p1
      rw[bG _ _ hne]at p1
      exact hne (m.dj id' id o' _ gb p1 p2 hi rfl p3 hsg)
     ·rw[Nat.zero_add,cell_of_row w gb k cells te (0,0) r1]
      exact hk
    ·cases hd
   ·cases hd
  ·cases hd
 ·exact aAm m hd
section
variable{P:Program}{Bw:Nat→Prop}{w0:Base P}{ρ:Nat→Option Value}{φ:Nat→Nat→Prop}{h:Nat→Option Obj}{w:World}{new:Nat}
theorem xO(m:Mem Bw w0 ρ φ h w){o:Oper}{a:Act}{t:TypeId}{ti:TI}(ht:TIok P t ti){xo yo:Operand}{id i sz off:Nat}(hx:V (Fr (own φ h) Bw w) ρ (.adr id i sz off) (a.eval xo))
  {y:AVal} (hy:V (Fr (own φ h) Bw w) ρ y (a.eval yo)) (hc:(cellsOf y).all AVal.cell=true) (ho:o.op = .store t xo yo) {cs:List AVal} (hi:h id=some (.box cs))
  (hlen:(cellsOf y).length=ti.size) (hfit:i*sz+off+ti.size≤cs.length) :
  Good P o a w (Post Bw w0 ρ φ h w new .unk [(id,some (.box (wr cs (i*sz+off) (cellsOf y))))]):=by
 obtain⟨u,q1,g,te,cells,rfl,hsg,r1,r2,r3⟩:=m.ob id _ hi
 simp only[V]at hx
 obtain⟨g',hg,he⟩:=hx
 rw[q1]at hg
 have hgg:g=g':=by
  rcases hg with hg | ⟨n,c,hg⟩
  ·simpa using hg
  ·cases hg
 subst hgg
 obtain⟨h1,h2,h3⟩:=iJ hc hy
 have hrun:=lI (P:=P) ht r1 (v:=a.eval yo) (p:=i*sz+off) (by rw[h2,hlen]) (by rw[r2];exact hfit) h3
 refine Good.of_skip (w':=_) (by simp[execOp,ho,Instr.storeAt,he,Instr.sureAddr,hrun];rfl) ?_
 refine lP m (some id) id (.box (wr cs (i*sz+off) (cellsOf y))) (.pointer (some ⟨g,0,none⟩)) (φ id) (some g) (cM w g _) (fun k e=>⟨id,_,rfl,hi,rfl,by cases e;assumption⟩) (.inr ⟨rfl,q1⟩)
  (fun _ k hk=>Nat.lt_of_lt_of_le (m.lt id _ k hi rfl hk) (cM w g _).size) (fun _ k hk=> .inr ⟨id,_,rfl,hi,rfl,hk⟩) (fun F' ρ' hF hρ=> ?_) (by rw[dE];rfl) (fun e=>by rw[q1]at e;cases e) (fun F' ρ' hF hρ hnew=>by simp only[V])
 refine⟨g,te,_,rfl,hsg,setRow_heap w g cells _ te _ r1,?_,?_⟩
 ·simp only[List.size_toArray,List.length_append,List.length_take,List.length_drop,Array.length_toList,h2,hlen,wr]
  omega
 ·have h4:VL F' ρ' cs (fun k u=>cells.toList[k]? = some u):=VL.mono hF hρ (fun k u hk=>by simpa using hk) r3
  have:=aDx (p:=i*sz+off) (by rw[hlen];exact hfit) (by simpa using r2) h2 h4 (VL.mono hF hρ (fun _ _ h=>h) h1)
  rw[hlen]at this
  exact VL.mono (fun _ _ _ h=>h) (fun _ _ h=>h) (fun k u hk=>by simpa using hk) this
theorem aEB{F:Bool→Addr→Value→Prop}{ρ:Nat→Option Value}{cells vs:List Value}{cs new:List AVal}{b off:Nat}(hb:b+cs.length≤cells.length)(hoff:off+new.length≤cs.length)(hvs:vs.length=new.length)
  (h1:VL F ρ cs (fun k u=>cells[b+k]? = some u)) (h2:VL F ρ new (fun k u=>vs[k]? = some u)) :
  VL F ρ (wr cs off new) (fun k u=>(cells.take (b+off)++vs++cells.drop (b+off+new.length))[b+k]? = some u):=by
 have h3:VL F ρ cs (fun k u=>((cells.drop b).take cs.length)[k]? = some u):=VL.mk fun k x hk=>by
  obtain⟨u,q1,q2⟩:=VL.get h1 hk
  have hk':k<cs.length:=(List.getElem?_eq_some_iff.1 hk).1
  exact⟨u,by rw[List.getElem?_take,if_pos hk',List.getElem?_drop];exact q1,q2⟩
 have h4:=aDx (p:=off) (us:=(cells.drop b).take cs.length) hoff (by simp only[List.length_take,List.length_drop];omega) hvs h3 h2
 refine VL.mono (fun _ _ _ h=>h) (fun _ _ h=>h) (fun k u hk=> ?_) h4
 have hl1:(((cells.drop b).take cs.length).take off++vs).length=off+new.length:=by simp only[List.length_append,List.length_take,List.length_drop];omega
 have hl2:(cells.take (b+off)++vs).length=b+off+new.length:=by simp only[List.length_append,List.length_take];omega
 have hl3:(((cells.drop b).take cs.length).take off).length=off:=by simp only[List.length_take,List.length_drop];omega
 have hl4:(cells.take (b+off)).length=b+off:=by simp only[List.length_take];omega
 rcases Nat.lt_or_ge k (off+new.length)with hlt | hge
 ·rw[List.getElem?_append_left (by omega)]at hk
  rw[List.getElem?_append_left (by omega)]
  rcases Nat.lt_or_ge k off with hlt' | hge'
  ·rw[List.getElem?_append_left (by omega),List.getElem?_take,if_pos hlt',List.getElem?_take,if_pos (by omega),List.getElem?_drop]at hk
   rw[List.getElem?_append_left (by omega),List.getElem?_take,if_pos (by omega)]
   exact hk
  ·rw[List.getElem?_append_right (by omega),hl3]at hk
   rw[List.getElem?_append_right (by omega),hl4,show b+k - (b+off)=k - off by omega]
   exact hk
 ·rw[List.getElem?_append_right (by omega),hl1,List.getElem?_drop,List.getElem?_take]at hk
  split at hk
  ·rw[List.getElem?_drop]at hk
   rw[List.getElem?_append_right (by omega),hl2,List.getElem?_drop,←hk]
   congr 1
   omega
  ·cases hk
theorem getElem?_splice_ne {cells vs:List Value} {p n k:Nat} (hp:p+n≤cells.length) (hn:vs.length=n) (hk:k<p∨p+n≤k):(cells.take p++vs++cells.drop (p+n))[k]? = cells[k]? :=by
 have hl1:(cells.take p).length=p:=by simp only[List.length_take];omega
 have hl2:(cells.take p++vs).length=p+n:=by simp only[List.length_append,hl1,hn]
 rcases hk with hk | hk
 ·rw[List.getElem?_append_left (by omega),List.getElem?_append_left (by omega),List.getElem?_take,if_pos hk]
 ·rw[List.getElem?_append_right (by omega),hl2,List.getElem?_drop]
  congr 1
  omega
theorem R0{α:Type}{l vs:List α}{p m n:Nat}(h1:vs.length=m)(h2:p+m≤n)(h3:n≤l.length):
  (l.take p++vs++l.drop (p+m)).take n=(l.take n).take p++vs++(l.take n).drop (p+m):=by
 have e1:(l.take p).length=p:=by simp only[List.length_take];omega
 rw[List.append_assoc,List.append_assoc,List.take_append,List.take_append,e1,h1,List.take_of_length_le (by omega:(l.take p).length≤n),List.take_of_length_le (by omega:vs.length≤n - p),
  List.take_take,Nat.min_eq_left (by omega),List.drop_take,Nat.sub_sub]
theorem Vcells.monoLt{F:Addr→Value→Prop}:∀ {T:Ty} {x:T.den} {g g':Nat→Value→Prop},(∀k v,k<T.size→g k v→g' k v)→Vcells F T x g→Vcells F T x g'
 | .int _,_,_,_,hg,h=>hg _ _ (by simp[Ty.size]) h
 | .bool,_,_,_,hg,h=>hg _ _ (by simp[Ty.size]) h
 | .str,_,_,_,hg,h=>hg _ _ (by simp[Ty.size]) h
 | .flt,_,_,_,hg,h=>hg _ _ (by simp[Ty.size]) h
 | .unit,_,_,_,_,_=>trivial
 | .prod a b,x,_,_,hg,h=>⟨Vcells.monoLt (T:=a) (fun k v hk=>hg k v (by simp only[Ty.size];omega)) h.1,Vcells.monoLt (T:=b) (fun k v hk=>hg _ v (by simp only[Ty.size];omega)) h.2⟩
 | .slice a,xs,_,_,hg,⟨ad,len,cap,h0,hl,h⟩=>⟨ad,len,cap,hg _ _ (by simp[Ty.size]) h0,hl,h⟩
 | .ptr a,none,_,_,hg,h=>hg _ _ (by simp[Ty.size]) h
 | .ptr a,some y,_,_,hg,⟨b,h0,hv⟩=>⟨b,hg _ _ (by simp[Ty.size]) h0,hv⟩
 | .tree k1 k2,t,_,_,hg,h=>Vtree.mono (fun _ _ h=>h) (fun k v hk=>hg k v (by simpa [Ty.size]using hk)) h
def U7(A:Ty)(h:Nat→Option Obj)(xs:List A.den)(i off:Nat)(y:AVal):Option (A.den×j6) :=
 toT A h (.agg (wr (i6 false A (xs.getD i A.zero)) off (cellsOf y)))
theorem yG(m:Mem Bw w0 ρ φ h w){o:Oper}{a:Act}{t:TypeId}{ti:TI}(ht:TIok P t ti){xo yo:Operand}{id i off:Nat}{te:TypeId}{A:Ty}(hx:V (Fr (own φ h) Bw w) ρ (.adr id i A.size off) (a.eval xo))
  {y:AVal} (hy:V (Fr (own φ h) Bw w) ρ y (a.eval yo)) (hc:(cellsOf y).all AVal.cell=true) (ho:o.op = .store t xo yo) {xs:List A.den} {z:A.den} {us:j6}
  (hz:U7 A h xs i off y=some (z,us)) (hi0:h id=some (.arr te A xs)) (hi:apply us h id=some (.arr te A xs)) (hlen:(cellsOf y).length=ti.size) (hfit:off+ti.size≤A.size) (hlt:i<xs.length) :
  Good P o a w (Post Bw w0 ρ φ h w new .unk (us++[(id,some (.arr te A (xs.set i z)))])):=by
 obtain⟨m',hF1,htt⟩:=nM m hz
 obtain⟨u,q1,hsa,hA,cells,r1,r2⟩:=m'.ob id _ hi
 have hyy:=iJ hc hy
 simp only[V]at hx
 obtain⟨g,hg,he⟩:=hx
 obtain⟨h1,h2,h3⟩:=hyy
 rcases r1.2 with⟨rfl,hn⟩ | ⟨g',cap,cur,rfl,_,hheap,hncap,hcapm,hcsz,htake⟩
 ·omega
 rw[q1]at hg
 have hgg:g'=g:=by
  rcases hg with hg | ⟨n,c,hg⟩
  ·cases hg
  ·simp only[Option.some.injEq,Value.slice.injEq,Addr.mk.injEq]at hg;exact hg.1.1
 subst hgg
 have hcl:cells.length=xs.length*A.size:=r1.1
 have hib:i*A.size+A.size≤xs.length*A.size:=by
  rw[←Nat.succ_mul];exact Nat.mul_le_mul_right _ hlt
 have hcapb:xs.length*A.size≤cap*A.size:=Nat.mul_le_mul_right _ hncap
 have hrun:=lI (P:=P) ht hheap (v:=a.eval yo) (p:=i*A.size+off) (by rw[h2,hlen]) (by rw[hcsz];omega) h3
 refine Good.of_skip (w':=_) (by simp[execOp,ho,Instr.storeAt,he,Instr.sureAddr,hrun];rfl) ?_
 refine Post.after rfl hF1 ?_
 refine iA m' (some id) id (.arr te A (xs.set i z)) (.slice (some ⟨g',0,none⟩) xs.length cap) (some g') (cM w g' _) (fun k e=>⟨id,_,rfl,hi,rfl,hsa _ (by simpa [kT]using e)⟩) (.inr ⟨rfl,q1⟩)
  (fun _ k hk=> .inr (by simpa [kT]using hk)) (fun F' ρ' hF hρ=> ?_) (by rw[dE];rfl) (fun e=>by rw[q1]at e;cases e) (fun F' ρ' hF hρ hnew=>by simp only[V])
 refine⟨fun _ h=>h,hA,cells.take (i*A.size+off)++(a.eval yo).cells.toList++cells.drop (i*A.size+off+ti.size),⟨?_,.inr ⟨g',cap,_,?_,Nat.zero_le _,setRow_heap w g' cur _ te _ hheap,?_,hcapm,?_,?_⟩⟩,fun j hj=> ?_⟩
 ·simp only[List.length_append,List.length_take,List.length_drop,h2,hlen,hcl,List.length_set];omega
 ·rw[List.length_set]
 ·rw[List.length_set];exact hncap
 ·simp only[List.size_toArray,List.length_append,List.length_take,List.length_drop,Array.length_toList,h2,hlen];omega
 ·rw[List.length_set,←htake]
  have hq:xs.length*A.size≤cur.toList.length:=by simp only[Array.length_toList];omega
  have:=R0 (l:=cur.toList) (vs:=(a.eval yo).cells.toList) (p:=i*A.size+off) (m:=ti.size) (n:=xs.length*A.size) (by rw[h2,hlen]) (by omega) hq
  simpa using this
 ·rw[List.length_set]at hj
  by_cases e:i=j
  ·subst e
   simp only[List.getElem_set_self]
   refine Vcells.mono (hF _) (fun _ _ h=>h) (htt _ ?_).1
   simp only[cellsOf]
   obtain⟨u',p1,_,_,cells',p2,p3⟩:=m.ob id _ hi0
   rw[q1]at p1
   cases p1
   have hcc:cells'=cells:=by
    rcases p2.2 with⟨e,_⟩ | ⟨g2,cap2,cur2,e,_,e2,_,_,_,e3⟩
    ·cases e
    ·simp only[Value.slice.injEq,Option.some.injEq,Addr.mk.injEq,and_true,true_and]at e
     obtain⟨rfl,_⟩:=e
     rw[hheap]at e2
     simp only[Option.some.injEq,Obj.cells.injEq,and_true]at e2
     rw[←e3,←htake,e2]
   subst hcc
   have hfl:VL (Fr (own φ h) Bw w) ρ (i6 false A (xs.getD i A.zero)) (fun k u=>cells'[i*A.size+k]? = some u):=zG hlt (p3 i hlt)
   have:=aEB (b:=i*A.size) (off:=off) (by rw[eU];omega) (by rw[eU,hlen];omega) h2 hfl h1
   rw[hlen]at this
   exact this
  ·rw[List.getElem_set_ne e]
   refine Vcells.mono (hF _) (fun _ _ h=>h) (Vcells.monoLt (fun k v hk hv=> ?_) (r2 j hj))
   have hjb:j*A.size+A.size≤xs.length*A.size:=by
    rw[←Nat.succ_mul];exact Nat.mul_le_mul_right _ hj
   rw[getElem?_splice_ne (by omega) (by rw[h2,hlen])]
   ·exact hv
   ·rcases Nat.lt_or_gt_of_ne e with e' | e'
    ·have:i*A.size+A.size≤j*A.size:=by rw[←Nat.succ_mul];exact Nat.mul_le_mul_right _ e'
     omega
    ·have:j*A.size+A.size≤i*A.size:=by rw[←Nat.succ_mul];exact Nat.mul_le_mul_right _ e'
     omega
end
end Go.Tv
