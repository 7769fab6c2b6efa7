import Derived.Test.YtbedjpdfkmfplaaGreatDoorTvKhm
namespace Go.Tv
open Go Go.RowKit
def MD(k:IntKind):ag→Bool
 | .p _ (.int e) x=>decide (e=k) && (show Int from x) == 0
 | _=>false
theorem zx{F:Bool→Addr→Value→Prop}{ρ:Nat→QW}{k:IntKind}{n:Nat}{f:fG n}{q:List ag}{v:Value}(h:V F ρ (.lag k n f q) v):
  ∃e:QU,v = .agg e∧e.size=n+q.length∧(∀i (h:i<f.1.length),e[i]? = some (.int k f.1[i]))∧VL F ρ q (fun j u=>e[n+j]? = some u):=by
 grind (splits:=6) (ematch:=4) [V,VL.mono]
theorem I7{F:Bool→Addr→Value→Prop}{ρ:Nat→QW}{k:IntKind}{n:Nat}{f:fG n}{q:List ag}{e:QU}(z:e.size=n+q.length)(C:∀i (h:i<f.1.length),e[i]? = some (.int k f.1[i]))(A:VL F ρ q (fun j u=>e[n+j]? = some u)):
  V F ρ (.lag k n f q) (.agg e):=by
 simp only[V];refine⟨e.toList.drop n,?_,by simp[z],VL.mono (fun _ _ _ h=>h) (fun _ _ h=>h) (fun j u B=>by rw[List.getElem?_drop,Array.getElem?_toList];exact B) A⟩;have:e.toList=f.1.map (Value.int k)++e.toList.drop n:=by
  refine List.ext_getElem? fun i=>?_
  rcases Nat.lt_or_ge i n with hi | hi
  ·grind
  ·grind
 rw[←this]
theorem Fy{F:Bool→Addr→Value→Prop}{ρ:Nat→QW}{k:IntKind}{n:Nat}{j:List ag}{v:Value}(hz:(j.take n).all (MD k)=true)(hn:n≤j.length)(h:V F ρ (.agg j) v):V F ρ (.lag k n (dC n) (j.drop n)) v:=by
 simp only[V]at h;obtain⟨D,rfl,A,hl⟩:=h;refine I7 (by simp[A];omega) (fun i hi=>?_) (VL.mono (fun _ _ _ h=>h) (fun _ _ h=>h) (fun _ _ h=>h) (VL.drop (n:=n) hl));have q:i<n:=by simpa [dC]using hi
 have hd:i<j.length:=by omega
 obtain⟨u,B,z⟩:=VL.get hl (List.getElem?_eq_getElem hd);have f:MD k j[i]=true:=List.all_eq_true.1 hz _ (by
  refine List.mem_of_getElem? (i:=i) ?_;rw[List.getElem?_take,if_pos q,List.getElem?_eq_getElem hd])
 rw[B];unfold MD at f;split at f
 ·rename_i β E x e;simp only[Bool.and_eq_true,decide_eq_true_eq,beq_iff_eq]at f;obtain⟨rfl,C⟩:=f;rw[e]at z;rw[bR z];have:(x:Int)=0:=C;simp only[dC,List.getElem_replicate];rw[this]
 ·cases f
section
variable{P:Program}{Bw:Nat→Prop}{w0:cE P}{ρ:Nat→QW}{φ:Nat→Nat→Prop}{h:Nat→Qz}{w:World}{new:Nat}
theorem BE(m:Mem Bw w0 ρ φ h w)(hn:ρ new=none){k:IntKind}{n:Nat}{z:fG n}{A:List ag}{arr:QU}{C:TypeId}(E:arr.size=n+A.length)(I:∀i (h:i<z.1.length),arr[i]? = some (.int k z.1[i]))
  (hl:VL (Fr (own φ h) Bw w) ρ A (fun j u=>arr[n+j]? = some u)) (sz:Nat) :
  aG Bw w0 ρ φ h w new (.adr new 0 sz 0) [(new,some (.lmp k n z A))] (.pointer (some ⟨w.heap.size,0,none⟩)) (w.alloc (.cells arr C)):=by
 refine cV m none new (.lmp k n z A) (.pointer (some ⟨w.heap.size,0,none⟩)) none (World.grownBy_alloc w _ none) (fun k e=>by cases e) (.inl hn) (fun _ k hk=>?_) (fun F' B D f=>?_)
  (by rw[bp];rfl) (fun _=>rfl) (fun F' B D f q=>?_)
 ·simp_all [dH]
 ·exact⟨_,C,arr,rfl,rfl,heap_alloc_new w _,E,I,VL.mono D f (fun _ _ h=>h) hl⟩
 ·simp only[V];exact⟨_,.inl q,by simp⟩
theorem Cf(m:Mem Bw w0 ρ φ h w)(hn:ρ new=none){o:Oper}{a:Act}{t:TypeId}{ti:TI}(ht:aO P t ti)(j:o.op = .alloc t){k:IntKind}{n:Nat}(hz:(ti.z.take n).all (MD k)=true)(f:n≤ti.z.length):
  Good P o a w (aG Bw w0 ρ φ h w new (.adr new 0 ti.size 0) [(new,some (.lmp k n (dC n) (ti.z.drop n)))]):=by
 obtain⟨z,q,D,E,I⟩:=dF ht w;have u:V (Fr (own φ h) Bw w) ρ (.agg ti.z) (.agg z.cells):=by
  grind (splits:=6) (ematch:=4) [V,gU,Fr,own]
 obtain⟨J,e,A,B,C⟩:=zx (Fy hz f u);cases e;exact Good.aH (v:= .pointer (some ⟨w.heap.size,0,none⟩)) (w':=w.alloc (.cells z.cells t)) (by simp[execOp,j,Instr.alloc,q,newVar,newRow]) (BE m hn A B C _)
theorem HC(m:Mem Bw w0 ρ φ h w)(hn:ρ new=none){o:Oper}{a:Act}{t:TypeId}{xo:Operand}{k:IntKind}{n:Nat}{f:fG n}{j:List ag}(q:V (Fr (own φ h) Bw w) ρ (.lag k n f j) (a.eval xo))
  (u:o.op = .box t xo) (sz:Nat):Good P o a w (aG Bw w0 ρ φ h w new (.adr new 0 sz 0) [(new,some (.lmp k n f j))]):=by
 obtain⟨C,e,z,A,B⟩:=zx q;refine Good.aH (v:= .pointer (some ⟨w.heap.size,0,none⟩)) (w':=w.alloc (.cells (a.eval xo).cells t)) (by simp[execOp,u,Instr.box,newVar,newRow]) ?_;rw[e];exact BE m hn z A B _
theorem CW(m:Mem Bw w0 ρ φ h w){o:Oper}{a:Act}{t e:TypeId}{ti f:TI}(ht:aO P t ti){n:Nat}(hk:ti.k = .ar n e)(q:aO P e f)(J:f.size=1){xo io:Operand}{id i sz off:Nat}(C:V (Fr (own φ h) Bw w) ρ (.adr id i sz off) (a.eval xo))
  {L:IntKind} {D:Nat} {M:fG D} {N:List ag} (hb:h id=some (.lmp L D M N)) {β:Bool} {k:IntKind} {j:Int} (O:V (Fr (own φ h) Bw w) ρ (.p β (.int k) j) (a.eval io)) (X:o.op = .indexAddr t xo io) (E:0≤j∧j<(n:Int)) :
  Good P o a w (aG Bw w0 ρ φ h w new (.ada id (i*sz+off) n j.toNat) []):=by
 obtain⟨d,Y,z⟩:=ht.hu;rw[hk]at z;simp only[UK]at z;subst z;obtain⟨u,Z,I,a1,cells,rfl,_⟩:=m.ob id _ hb;simp only[V]at C;obtain⟨g,hg,he⟩:=C;rw[Z]at hg;have A:I=g:=by simp_all
 subst A;have B:=bR O;refine Good.aH (v:= .pointer (some ((⟨I,i*sz+off,none⟩:Addr).add (j.toNat*f.size)))) (w':=w) ?_ (aG.pure m ?_)
 ·simp[execOp,X,Instr.indexAt,asIntOf,B,he,run_underlying Y,Instr.sureAddr,run_sizeOf q,E.1,E.2]
 ·simp_all [V,cu,Nat.mul_one]
theorem Ei(m:Mem Bw w0 ρ φ h w){o:Oper}{a:Act}{t:TypeId}{ti:TI}(ht:aO P t ti){k:IntKind}(hk:ti.k = .int k){xo:Operand}{id n i:Nat}(z:V (Fr (own φ h) Bw w) ρ (.ada id 0 n i) (a.eval xo))
  (B:o.op = .load t xo) {e:fG n} {C:List ag} (hb:h id=some (.lmp k n e C)):Good P o a w (aG Bw w0 ρ φ h w new (.p false (.int k) (fR e i)) []):=by
 obtain⟨u,D,j,q,cells,rfl,_,E,M,I,N⟩:=m.ob id _ hb;simp only[V]at z;obtain⟨g,A,J,hi⟩:=z;rw[D]at A;obtain rfl:j=g:=by simpa using A
 have f:i<e.1.length:=by rw[e.2];exact hi
 have L:w.cell? (⟨j,0+i,none⟩:Addr)=some (.int k (fR e i)):=by rw[cell_of_row w j (0+i) cells q (0,0) E,Nat.zero_add,I i f];simp[fR,f]
 refine Good.aH (v:= .int k (fR e i)) (w':=w) ?_ (aG.pure m (dM _ _ _));simp only[execOp,B,Instr.loadAt,J,Instr.sureAddr,Sem.run_bind,Sem.run_pure,Result.andThen_ok];unfold loadVar;rw[Sem.run_bind,lv ht,hk];simp only[Result.andThen_ok,TK.agg];rw[if_neg (by simp),run_load,L];rfl
theorem Dy(m:Mem Bw w0 ρ φ h w){o:Oper}{a:Act}{t:TypeId}{ti:TI}(ht:aO P t ti)(A:ti.size=1){k:IntKind}{xo yo:Operand}{id n i:Nat}(L:V (Fr (own φ h) Bw w) ρ (.ada id 0 n i) (a.eval xo))
  {β:Bool} {v:Int} (Z:V (Fr (own φ h) Bw w) ρ (.p β (.int k) v) (a.eval yo)) (ho:o.op = .store t xo yo) {B:fG n} {C:List ag} (hb:h id=some (.lmp k n B C)) :
  Good P o a w (aG Bw w0 ρ φ h w new .unk [(id,some (.lmp k n (uh B i v) C))]):=by
 obtain⟨u,D,g,M,cells,rfl,E,N,r2,r3,r4⟩:=m.ob id _ hb;simp only[V]at L;obtain⟨g',O,he,hi⟩:=L;rw[D]at O;obtain rfl:g=g':=by simpa using O
 have f:=bR Z;have q:=qW (P:=P) ht A N (v:=a.eval yo) (p:=i) (by omega) (.inl rfl) (by rw[f];rfl) (by rw[f];rfl);have I:a.eval xo = .pointer (some ⟨g,i,none⟩):=by rw[he];simp
 refine Good.j5 (w':=_) (by simp[execOp,ho,Instr.storeAt,I,Instr.sureAddr,q];rfl) ?_;refine eG m (some id) id (.lmp k n (uh B i v) C) (.pointer (some ⟨g,0,none⟩)) (φ id) (some g) (bc w g _) (fun k e=>⟨id,_,rfl,hb,rfl,by cases e;assumption⟩) (.inr ⟨rfl,D⟩)
  (fun _ k hk=>Nat.lt_of_lt_of_le (m.lt id _ k hb rfl hk) (bc w g _).size) (fun _ k hk=> .inr ⟨id,_,rfl,hb,rfl,hk⟩) (fun F' J X z=>?_) (by rw[bf];rfl) (fun e=>by rw[D]at e;cases e) (fun F' J X z Y=>by simp only[V])
 refine⟨g,M,_,rfl,E,setRow_heap w g cells _ M _ N,by simpa using r2,fun j hj=>?_,VL.mono X z (fun j u hj=>?_) r4⟩
 ·grind (splits:=6) (ematch:=4) [uh,List.getElem_set_ne]
 ·grind
theorem zB(m:Mem Bw w0 ρ φ h w){k:IntKind}{n:Nat}{z:fG n}{A:List ag}{id i sz off:Nat}(hb:h id=some (.lmp k n z A)){v:Value}(E:V (Fr (own φ h) Bw w) ρ (.adr id i sz off) v):
  ∃g,v = .pointer (some ⟨g,i*sz+off,none⟩)∧VL (Fr (own φ h) Bw w) ρ A (fun j u=>w.cell? ((⟨g,n,none⟩:Addr).add j)=some u)∧VL (Fr (own φ h) Bw w) ρ (z.1.map (fun i=>ag.p false (.int k) i)++A) (fun j u=>w.cell? ((⟨g,0,none⟩:Addr).add j)=some u):=by
 obtain⟨u,J,f,e,cells,rfl,_,B,O,L,I⟩:=m.ob id _ hb;simp only[V]at E;obtain⟨g,M,N⟩:=E;rw[J]at M;have C:f=g:=by simp_all
 subst C;refine⟨f,N,VL.mono (fun _ _ _ h=>h) (fun _ _ h=>h) (fun j u D=>?_) I,VL.append (VL.mk fun j y q=>?_) (VL.mono (fun _ _ _ h=>h) (fun _ _ h=>h) (fun j u D=>?_) I)⟩
 ·rw[cu,cell_of_row w f (n+j) cells e (0,0) B];exact D
 ·rw[List.getElem?_map]at q;rcases Nat.lt_or_ge j z.1.length with hl | hl
  ·rw[List.getElem?_eq_getElem hl]at q;cases q;exact⟨_,by rw[cu,cell_of_row w f (0+j) cells e (0,0) B,Nat.zero_add];exact L j hl,dM _ _ _⟩
  ·rw[List.getElem?_eq_none hl]at q;cases q
 ·rw[cu,cell_of_row w f _ cells e (0,0) B,List.length_map,Nat.zero_add,z.2];exact D
theorem BY(m:Mem Bw w0 ρ φ h w){o:Oper}{a:Act}{t:TypeId}{ti:TI}(ht:aO P t ti){xo:Operand}{id i sz off:Nat}(u:V (Fr (own φ h) Bw w) ρ (.adr id i sz off) (a.eval xo))(z:o.op = .load t xo)
  {k:IntKind} {n:Nat} {A:fG n} {f:List ag} (hb:h id=some (.lmp k n A f)) {q:Nat} (B:i*sz+off=n+q) {y:ag} (C:fk ti f q=some y):Good P o a w (aG Bw w0 ρ φ h w new y []):=by
 obtain⟨g,e,D,_⟩:=zB m hb u;obtain⟨v,j,E⟩:=gP (P:=P) ht D C;rw[cu]at j;refine Good.aH (v:=v) (w':=w) ?_ (aG.pure m E);simp[execOp,z,Instr.loadAt,e,Instr.sureAddr,B,j]
theorem DA(m:Mem Bw w0 ρ φ h w){o:Oper}{a:Act}{t:TypeId}{ti:TI}(ht:aO P t ti)(A:ti.k.agg=true){xo:Operand}{id i sz off:Nat}(L:V (Fr (own φ h) Bw w) ρ (.adr id i sz off) (a.eval xo))(M:o.op = .load t xo)
  {k:IntKind} {n:Nat} {q:fG n} {z:List ag} (hb:h id=some (.lmp k n q z)) (N:i*sz+off=0) (C:ti.size=n+z.length):Good P o a w (aG Bw w0 ρ φ h w new (.lag k n q z) []):=by
 obtain⟨g,e,_,O⟩:=zB m hb L;have f:(q.1.map (fun i=>ag.p false (.int k) i)++z).length=ti.size:=by simp[q.2,C]
 obtain⟨v,D,E⟩:=gP (P:=P) ht O (off:=0) (x:= .agg (q.1.map (fun i=>ag.p false (.int k) i)++z)) (by
  unfold fk;rw[A,if_pos rfl,if_pos (by rw[f];omega),List.drop_zero,List.take_of_length_le (by rw[f];exact Nat.le_refl _)])
 have X:V (Fr (own φ h) Bw w) ρ (.lag k n q z) v:=by
  simp only[V]at E;obtain⟨vs,rfl,Y,I⟩:=E;refine I7 (by rw[Y,f,C]) (fun j B=>?_) (VL.mono (fun _ _ _ h=>h) (fun _ _ h=>h) (fun j u B=>?_) (VL.drop (n:=n) I |> fun Z=>by rwa [List.drop_append_of_le_length (by simp[q.2]),List.drop_of_length_le (by simp[q.2]),List.nil_append]at Z))
  ·obtain⟨u,J,t2⟩:=VL.get I (k:=j) (x:= .p false (.int k) q.1[j]) (by rw[List.getElem?_append_left (by simpa using B),List.getElem?_map,List.getElem?_eq_getElem B];rfl);rw[bR t2]at J;exact J
  ·exact B
 have e0:(⟨g,0,none⟩:Addr).add 0=⟨g,0,none⟩:=by simp[Addr.add]
 rw[e0]at D;refine Good.aH (v:=v) (w':=w) ?_ (aG.pure m X);simp[execOp,M,Instr.loadAt,e,Instr.sureAddr,N,D]
theorem AM(m:Mem Bw w0 ρ φ h w){o:Oper}{a:Act}{t:TypeId}{ti:TI}(ht:aO P t ti){xo yo:Operand}{id i sz off:Nat}(O:V (Fr (own φ h) Bw w) ρ (.adr id i sz off) (a.eval xo))
  {y:ag} (hy:V (Fr (own φ h) Bw w) ρ y (a.eval yo)) (hc:(cellsOf y).all ag.cell=true) (ho:o.op = .store t xo yo) {k:IntKind} {n:Nat} {I:fG n} {A:List ag} (hi:h id=some (.lmp k n I A))
  (f:(cellsOf y).length=ti.size) {q:Nat} (hq:i*sz+off=n+q) (B:q+ti.size≤A.length) :
  Good P o a w (aG Bw w0 ρ φ h w new .unk [(id,some (.lmp k n I (wr A q (cellsOf y))))]):=by
 obtain⟨u,J,g,X,cells,rfl,L,Y,Z,r3,r4⟩:=m.ob id _ hi;simp only[V]at O;obtain⟨g',hg,he⟩:=O;rw[J]at hg;have M:g=g':=by simp_all
 subst M;obtain⟨h1,h2,h3⟩:=gv hc hy;have C:=ib (P:=P) ht Y (v:=a.eval yo) (p:=n+q) (by rw[h2,f]) (by rw[Z];omega) h3;rw[hq]at he;refine Good.j5 (w':=_) (by simp[execOp,ho,Instr.storeAt,he,Instr.sureAddr,C];rfl) ?_;refine eG m (some id) id (.lmp k n I (wr A q (cellsOf y))) (.pointer (some ⟨g,0,none⟩)) (φ id) (some g) (bc w g _) (fun k e=>⟨id,_,rfl,hi,rfl,by cases e;assumption⟩) (.inr ⟨rfl,J⟩)
  (fun _ k hk=>Nat.lt_of_lt_of_le (m.lt id _ k hi rfl hk) (bc w g _).size) (fun _ k hk=> .inr ⟨id,_,rfl,hi,rfl,hk⟩) (fun F' D N z=>?_) (by rw[bf];rfl) (fun e=>by rw[J]at e;cases e) (fun F' D N z a1=>by simp only[V])
 refine⟨g,X,_,rfl,L,setRow_heap w g cells _ X _ Y,?_,fun j hj=>?_,?_⟩
 ·simp_all [List.size_toArray,List.length_append,List.length_take,List.length_drop,Array.length_toList,wr] <;> omega
 ·grind
 ·have h4:VL F' D A (fun k u=>(cells.toList.drop n)[k]? = some u):=VL.mono N z (fun k u hk=>by rw[List.getElem?_drop,Array.getElem?_toList];exact hk) r4;have:=F2 (p:=q) (by rw[f];exact B) (by simp[Z]) h2 h4 (VL.mono N z (fun _ _ h=>h) h1);rw[f]at this;refine VL.mono (fun _ _ _ h=>h) (fun _ _ h=>h) (fun k u hk=>?_) this;rw[←hk];simp only[List.getElem?_toArray];have e:cells.toList.take (n+q)++((a.eval yo).cells.toList++cells.toList.drop (n+q+ti.size))=cells.toList.take n++((cells.toList.drop n).take q++(a.eval yo).cells.toList++(cells.toList.drop n).drop (q+ti.size)):=by simp_all [List.take_add,List.drop_drop,Nat.add_assoc,List.append_assoc]
  rw[e,List.getElem?_append_right (by simp;omega)];congr 1;simp
  omega
/-! ### E -/
theorem Jp(m:Mem Bw w0 ρ φ h w){o:Oper}{a:Act}{op:BinOp}(j:op = .add∨op = .sub∨op = .mul∨op = .quo){t z:TypeId}{xo yo:Operand}(A:o.op = .binOp op t xo yo z){β u:Bool}{x y:QJ}
  (B:V (Fr (own φ h) Bw w) ρ (.p β .flt x) (a.eval xo)) (C:V (Fr (own φ h) Bw w) ρ (.p u .flt y) (a.eval yo)):Good P o a w (aG Bw w0 ρ φ h w new (.p false .flt (bX op x y)) []):=by
 obtain⟨p,D,rfl⟩:=zq B;obtain⟨q,E,rfl⟩:=zq C;obtain⟨n,w',I,J,L⟩:=EU (P:=P) (w:=w) j p q;have f:(execOp a.eval o).run P w = .ok (.value (.float .f64 n)) w':=by
  simp only[execOp,A,D,E];rw[Sem.run_bind,Sem.run_bind,bJ (by intro O e;cases e) (by intro e;cases e)];have hb:(binOp op t (.float .f64 p) (.float .f64 q)).run P w = .ok (.float .f64 n) w':=by rcases j with rfl | rfl | rfl | rfl <;> (simp only[binOp,ne_eq,not_true_eq_false,if_false];exact I)
  simp only[Result.andThen_ok,hb];rfl
 rw[←L];rcases J with rfl | rfl
 ·exact Good.aH f (aG.pure m (Bq _ _))
 ·obtain⟨M,N⟩:=m.drew;exact Good.aH f (aG.after (u1:=[]) rfl N (aG.pure M (Bq _ _)))
theorem CR(m:Mem Bw w0 ρ φ h w){o:Oper}{a:Act}{st q:TypeId}{A u:TI}(B:aO P st A)(hd:aO P q u){k:IntKind}(hk:u.k = .int k){xo:Operand}(C:o.op = .convert st q xo){β:Bool}{x:QJ}
  (D:V (Fr (own φ h) Bw w) ρ (.p β .flt x) (a.eval xo)) (e:(pf x).isSome=true∧k.min≤(pf x).getD 0∧(pf x).getD 0≤k.max):Good P o a w (aG Bw w0 ρ φ h w new (.p false (.int k) ((pf x).getD 0)) []):=by
 obtain⟨p,E,rfl⟩:=zq D;obtain⟨I,J,N⟩:=B.hu;obtain⟨O,L,f⟩:=hd.hu;rw[hk]at f;simp only[UK]at f;subst f;cases j:dO p with
 | none=>rw[j]at e;exact absurd e.1 (by simp[pf])
 | some z =>
  obtain rfl:=ky j;rw[j]at e;cases hi:(FloatKind.f64.decode z).toInt .zero with
  | none=>exact absurd e.1 (by simp[pf,hi])
  | some n =>
   have M:pf (some z)=some n:=by simp[pf,hi]
   rw[M]at e ⊢;simp only[Option.getD_some]at e ⊢;refine Good.aH (v:= .int k n) (w':=w) ?_ (aG.pure m (dM _ _ _));simp only[execOp,C,E,convert,Sem.run_bind,run_underlying J,run_underlying L,Result.andThen_ok];cases I <;> simp[Conv.floatToInt,hi,e.2]
end
theorem sQ{P:Program}{w:World}{t t2 ty e:TypeId}{i:TypeInfo}(ht:P.underlying t=some (.slice e))(hi:P.info? e=some i){g off n cap:Nat}{f:QU}{B:TypeId}
  (E:w.heap[g]? = some (.cells f B (0,0))) {ad:Option Addr} {len c:Nat} {cs:QY} (A:cs.length=min len n*i.size) (u:ad=none→cs=[])
  (z:∀b,ad=some b→∀j v,cs[j]? = some v→w.cell? (b.add j)=some v) (C:off+cs.length≤f.size) (I:∀v∈cs,v.oneCell'=true) :
  (Builtin.copy_ #[t,t2] ty #[.slice (some ⟨g,off,none⟩) n cap,.slice ad len c]).run P w =
   .ok (goInt (min len n:Nat)) (w.setRow g (f.toList.take off++cs++f.toList.drop (off+cs.length)).toArray):=by
 have q:=run_storeCells_at P g off B cs 0 f w E (by omega) I;simp only[Nat.add_zero]at q;have D:Nat.min len n=min len n:=rfl;cases ad with
 | none =>
  have:=u rfl;subst this;simp[Builtin.copy_,run_underlying ht,Builtin.lenOf,Builtin.firstCells,sizeOf,typeInfo,hi,q,D]
 | some b =>
  have hl:=run_loadCells_list (P:=P) w b cs (z b rfl);rw[A]at hl;simp[Builtin.copy_,run_underlying ht,Builtin.lenOf,Builtin.firstCells,sizeOf,typeInfo,hi,hl,q,D]
section
variable{P:Program}{Bw:Nat→Prop}{w0:cE P}{ρ:Nat→QW}{φ:Nat→Nat→Prop}{h:Nat→Qz}{w:World}{new:Nat}
theorem Jn(m:Mem Bw w0 ρ φ h w){id:Nat}{D:TypeId}{A:Ty}{f:List A.den}(j:h id=some (.arr D A f)){v:Value}(B:V (Fr (own φ h) Bw w) ρ (.sl id) v):∃ad cap,v = .slice ad f.length cap∧f.length≤cap:=by
 obtain⟨u,C,E,hA,cells,I,L⟩:=m.ob id _ j;simp only[V]at B;rw[B.1]at C;cases C;rcases I.2 with⟨e,q⟩ | ⟨g,cap,J,e,hb,M,z,_⟩
 ·exact⟨none,0,by rw[e,q],by omega⟩
 ·exact⟨_,cap,e,z⟩
theorem CE(m:Mem Bw w0 ρ φ h w){o:Oper}{a:Act}{t e:TypeId}{ti B:TI}(ht:aO P t ti)(hk:ti.k = .sl e)(q:aO P e B){A:Ty}{xo lo:Operand}(E:o.op = .slice t xo (some lo) none none)
  {id:Nat} {I:TypeId} {j:List A.den} (u:h id=some (.arr I A j)) (z:V (Fr (own φ h) Bw w) ρ (.sl id) (a.eval xo)) {β:Bool} {k:IntKind} {l:Int} (hl:V (Fr (own φ h) Bw w) ρ (.p β (.int k) l) (a.eval lo))
  (J:0≤l) (L:l≤j.length):Good P o a w (aG Bw w0 ρ φ h w new (.suf id l.toNat B.size) []):=by
 obtain⟨ad,cap,C,D⟩:=Jn m u z;simp only[V]at z;have f:=mC (P:=P) (w:=w) (F:=Fr (own φ h) Bw w) (ρ:=ρ) (a:=a) ht hk q (ad:=ad) (len:=j.length) (cap:=cap) (lo:=some lo) (hi:=none) (l:=some l) (r:=none) ⟨β,k,hl⟩ trivial (by simpa using J) (by simpa using L) (by simp) D;simp only[Option.map_none,Option.map_some,Option.getD_none,Option.getD_some]at f;refine Good.aH (v:=_) (w':=w) (by simp only[execOp,E,C,Option.map_none,Option.map_some,Sem.run_bind]at f ⊢;rw[f];rfl) (aG.pure m ?_);simp only[V];exact⟨ad,j.length,cap,by rw[z.1,C],by omega,D,by simp⟩
theorem AB(m:Mem Bw w0 ρ φ h w){o:Oper}{a:Act}{t t2 e:TypeId}{ti te:TI}(ht:aO P t ti)(hk:ti.k = .sl e)(aa:aO P e te){A:Ty}(hT:te.T=some A)
  {xo yo:Operand} {id f:Nat} {y:ag} (hx:V (Fr (own φ h) Bw w) ρ (.suf id f te.size) (a.eval xo)) (hy:V (Fr (own φ h) Bw w) ρ y (a.eval yo)) (ho:o.op = .call { callee:= .builtin .copy,args:= #[xo,yo],argTypes:= #[t,t2] })
  {e':TypeId} {q B:List A.den} (a4:h id=some (.arr e' A q)) (be:fp h A y=some B) :
  Good P o a w (aG Bw w0 ρ φ h w new (.p false (.int .i64) ((min B.length (q.length - f):Nat):Int)) [(id,some (.arr e' A (q.take f++(B.take (q.length - f)++q.drop (f+B.length)))))]):=by
 obtain⟨i,z,hi,hz,a5,b9,d2,d3,d4⟩:=aa.hi;obtain⟨bi,d5,d6⟩:=aa.hT A hT;have hu:=aX ht hk;have ac:i.size=A.size:=by rw[a5,bi]
 obtain⟨ad,len,c,b1,b2,b3,ch⟩:=iF m be hy;obtain⟨u,q1,bs,hA,cells,r1,r2⟩:=m.ob id _ a4;simp only[V]at hx;obtain⟨ax,nx,cx,b4,d7,d8,bv⟩:=hx;rw[q1]at b4;cases b4;subst b2;have bx:nx=q.length:=by
  rcases r1.2 with⟨M,hn⟩ | ⟨g,cap,a6,M,_⟩
  ·simp only[Value.slice.injEq]at M;omega
  ·simp_all
 subst bx;by_cases J:min B.length (q.length - f)=0
 ·-- nothing to copy
  have a7:q.take f++(B.take (q.length - f)++q.drop (f+B.length))=q:=by
   rcases Nat.eq_zero_or_pos B.length with e0 | e0
   ·simp_all
   ·grind (splits:=6) (ematch:=4) [List.take_of_length_le,List.drop_of_length_le]
  have N:(Builtin.copy_ #[t,t2] o.type #[a.eval xo,a.eval yo]).run P w = .ok (goInt (min B.length (q.length - f):Nat)) w:=by
   rw[bv,b1];have key:∀(d:Option Addr),(Builtin.copy_ #[t,t2] o.type #[.slice d (q.length - f) (cx - f),.slice ad B.length c]).run P w = .ok (goInt (min B.length (q.length - f):Nat)) w:=fun d=>by
    have hm:Nat.min B.length (q.length - f)=0:=J;have c1:∀b:Addr,(loadCells b 0).run P w = .ok #[] w:=fun b=>by have:=run_loadCells_list (P:=P) w b [] (fun j v L=>by simp at L);simpa using this
    cases d <;> cases ad <;> simp[Builtin.copy_,run_underlying hu,Builtin.lenOf,Builtin.firstCells,sizeOf,typeInfo,hi,hm,J,c1,storeCells]
   exact key _
  refine Good.aH (v:=goInt (min B.length (q.length - f):Nat)) (w':=w) (by simp only[execOp,ho,resolve,invoke,builtin,Sem.run_bind,Sem.run_pure,Result.andThen_ok,List.map_toArray,List.map_cons,List.map_nil,N]) ?_;have I:apply [(id,some (Obj.arr e' A (q.take f++(B.take (q.length - f)++q.drop (f+B.length)))))] h=h:=by
   rw[a7];funext k;simp only[apply,bu];split
   ·rename_i e2;rw[e2,a4]
   ·rfl
  have Y:V (Fr (own φ h) Bw w) ρ (.p false (.int .i64) ((min B.length (q.length - f):Nat):Int)) (goInt (min B.length (q.length - f):Nat)):=by simp only[V,ai];exact⟨rfl,rfl⟩
  refine⟨ρ,φ,by rw[I];exact m,by rw[I];exact fun _ _ _ h=>h,fun _ _ h=>h,fun _ _ h=> .inl h,?_⟩;rw[I];exact Y
 ·rcases r1.2 with⟨M,hn⟩ | ⟨g,cap,a6,M,_,O,X,a8,b5,a9⟩
  ·omega
  simp only[Value.slice.injEq]at M;obtain⟨rfl,_,rfl⟩:=M;have c2:0<B.length:=by omega
  obtain⟨b,Z,_⟩:=b3 0 c2;subst Z;obtain⟨b6,n1,n2,n3⟩:=lF (g:=fun k v=>w.cell? (b.add k)=some v) (fun i c3=>by
   obtain⟨b',E,e2⟩:=b3 i c3;cases E;exact e2)
  have b7:=oC n1 n3;have b8:cells.length=q.length*A.size:=r1.1;have c4:q.length*A.size≤cx*A.size:=Nat.mul_le_mul_right _ X;generalize a3:min B.length (q.length - f)=D at *;have c5:D≤B.length:=by omega
  have c6:f+D≤q.length:=by omega
  have d9:D*A.size≤B.length*A.size:=Nat.mul_le_mul_right _ c5;have dd:f*A.size+D*A.size≤q.length*A.size:=by rw[←Nat.add_mul];exact Nat.mul_le_mul_right _ c6
  let cs:=b6.take (D*A.size)
  have a1:cs.length=D*A.size:=by simp only[cs,List.length_take,n1];omega
  have c7:a.eval xo = .slice (some ⟨g,f*A.size,none⟩) (q.length - f) (cx - f):=by simp_all [Option.map_some,cu,Nat.zero_add] <;> omega
  have N:=sQ (P:=P) (w:=w) (t2:=t2) (ty:=o.type) hu hi O (off:=f*A.size) (n:=q.length - f) (cap:=cx - f) (ad:=some b) (len:=B.length) (c:=c) (cs:=cs) (by rw[a1,ac,a3])
   (fun E=>by cases E)
   (fun b' E j v L=>by
    cases E;refine n2 j v ?_;simp only[cs,List.getElem?_take]at L;split at L
    ·exact L
    ·cases L) (by rw[a1,b5];omega) (fun v Y=>b7 v (List.mem_of_mem_take Y))
  refine Good.aH (v:=_) (w':=_) (by simp only[execOp,ho,resolve,invoke,builtin,Sem.run_bind,Sem.run_pure,Result.andThen_ok,List.map_toArray,List.map_cons,List.map_nil,c7,b1,N];rfl) ?_;have C:(q.take f++(B.take (q.length - f)++q.drop (f+B.length))).length=q.length:=by simp only[List.length_append,List.length_take,List.length_drop];omega
  rw[a3];refine cV m (some id) id (.arr e' A (q.take f++(B.take (q.length - f)++q.drop (f+B.length)))) (.slice (some ⟨g,0,none⟩) q.length cx) (some g) (bc w g _) (fun k E=>⟨id,_,rfl,a4,rfl,bs _ (by simpa [dH]using E)⟩) (.inr ⟨rfl,q1⟩)
   (fun _ k a2=> .inr (by simpa [dH]using a2)) (fun F' c8 hF c9=>?_) (by rw[bf];rfl) (fun E=>by rw[q1]at E;cases E) (fun F' c8 hF c9 cp=>by simp only[V,ai];exact⟨rfl,rfl⟩)
  refine⟨fun _ h=>h,hA,cells.take (f*A.size)++cs++cells.drop (f*A.size+cs.length),⟨?_,.inr ⟨g,cx,_,?_,Nat.zero_le _,setRow_heap w g a6 _ e' _ O,?_,a8,?_,?_⟩⟩,fun j L=>?_⟩
  ·grind
  ·rw[C]
  ·rw[C];exact X
  ·grind
  ·rw[C,←a9];have:=vd (l:=a6.toList) (vs:=cs) (p:=f*A.size) (m:=cs.length) (n:=q.length*A.size) rfl (by omega) (by simp only[Array.length_toList];omega);simpa using this
  ·rw[C]at L;have de:j*A.size+A.size≤q.length*A.size:=by rw[←Nat.succ_mul];exact Nat.mul_le_mul_right _ L
   by_cases cc:j<f
   ·have d1:j*A.size+A.size≤f*A.size:=by rw[←Nat.succ_mul];exact Nat.mul_le_mul_right _ cc
    have E:(q.take f++(B.take (q.length - f)++q.drop (f+B.length)))[j]'(by rw[C];exact L)=q[j]:=by simp_all
    rw[E];refine ai.mono (hF _) (fun _ _ h=>h) (ai.gV (fun k v a2 Y=>?_) (r2 j L));rw[iS (n:=cs.length) (by omega) rfl (.inl (by omega))];exact Y
   ·by_cases di:j<f+D
    ·have E:(q.take f++(B.take (q.length - f)++q.drop (f+B.length)))[j]'(by rw[C];exact L)=B[j - f]'(by omega):=by
      grind
     rw[E];refine ai.mono (hF _) (fun _ _ h=>h) (ai.gV (fun k v a2 Y=>?_) (n3 (j - f) (by omega)));have Z:f*A.size≤j*A.size:=Nat.mul_le_mul_right _ (by omega);have dk:(j - f)*A.size=j*A.size - f*A.size:=Nat.sub_mul _ _ _;have dm:(j - f)*A.size+A.size≤D*A.size:=by rw[←Nat.succ_mul];exact Nat.mul_le_mul_right _ (by omega)
     rw[List.append_assoc,List.getElem?_append_right (by simp only[List.length_take];omega),List.getElem?_append_left (by simp only[List.length_take,a1,b8];omega)];simp only[cs,List.getElem?_take,List.length_take,b8];rw[if_pos (by omega),←Y];congr 1;omega
    ·have ds:D=B.length:=by omega
     have E:(q.take f++(B.take (q.length - f)++q.drop (f+B.length)))[j]'(by rw[C];exact L)=q[j]:=by rw[List.getElem_append_right (by simp only[List.length_take];omega),List.getElem_append_right (by simp only[List.length_take];omega)];simp only[List.length_take,List.getElem_drop];congr 1;omega
     rw[E];refine ai.mono (hF _) (fun _ _ h=>h) (ai.gV (fun k v a2 Y=>?_) (r2 j L));have Z:(f+D)*A.size≤j*A.size:=Nat.mul_le_mul_right _ (by omega);rw[Nat.add_mul]at Z;rw[iS (n:=cs.length) (by omega) rfl (.inr (by rw[a1];omega))];exact Y
theorem zn(m:Mem Bw w0 ρ φ h w){o:Oper}{a:Act}{f:FuncId}{z:Array Operand}(C:o.op = .makeFunc (.func f) z #[]){e:List ag}(D:jf (Fr (own φ h) Bw w) ρ e (z.toList.map a.eval)):
  Good P o a w (aG Bw w0 ρ φ h w new (.bfn f e) []):=by
 refine Good.aH (v:= .func (.func f) (z.map a.eval) #[]) (w':=w) (by simp[execOp,C,Instr.makeFunc]) (aG.pure m ?_);simp only[V];have key:∀(e:List ag) (j:QY),jf (Fr (own φ h) Bw w) ρ e j→j.length=e.length∧VL (Fr (own φ h) Bw w) ρ e (fun k u=>j[k]? = some u):=fun e=>by
  induction e with
  | nil=>intro j q;cases j with | nil=>exact⟨rfl,by simp only[VL]⟩ | cons _ _=>exact q.elim
  | cons x e E =>
   intro j q;cases j with
   | nil=>exact q.elim
   | cons v j =>obtain⟨A,B⟩:=E j q.2;simp only[VL];exact⟨by simp[A],⟨v,rfl,q.1⟩,VL.mono (fun _ _ _ h=>h) (fun _ _ h=>h) (fun k u hk=>by simpa using hk) B⟩
 obtain⟨A,B⟩:=key _ _ D;exact⟨_,rfl,by simpa using A,VL.mono (fun _ _ _ h=>h) (fun _ _ h=>h) (fun k u hk=>by simpa using hk) B⟩
theorem Fa(m:Mem Bw w0 ρ φ h w){o:Oper}{a:Act}{fo:Operand}{j:Array Operand}{O:Array TypeId}(ho:o.op = .call { callee:= .value fo,args:=j,argTypes:=O })
  {f:FuncId} {X:List ag} (hf:V (Fr (own φ h) Bw w) ρ (.bfn f X) (a.eval fo)) {Y:List ag} (hx:jf (Fr (own φ h) Bw w) ρ Y (j.toList.map a.eval)) {args:List ag} (hl:o5 h (X++Y)=some args)
  {r:ag} (hp:Pure P f args r):Good P o a w (aG Bw w0 ρ φ h w new r []):=by
 simp only[V]at hf;obtain⟨Z,a1,a2,a3⟩:=hf;obtain⟨fn,a4,A,q⟩:=hp.fn;have B:∀(E:List ag) (z:QY) (J:List ag) (L:QY),z.length=E.length→VL (Fr (own φ h) Bw w) ρ E (fun k u=>z[k]? = some u)→jf (Fr (own φ h) Bw w) ρ J L→jf (Fr (own φ h) Bw w) ρ (E++J) (z++L):=fun E=>by
  induction E with
  | nil=>intro z J L hl _ I;cases z with | nil=>exact I | cons _ _=>simp at hl
  | cons c E ih =>
   intro z J L hl I hy;cases z with
   | nil=>simp at hl
   | cons u z =>simp only[VL]at I;obtain⟨⟨u',N,q2⟩,q3⟩:=I;simp at N;subst N;exact⟨q2,ih z J L (by simpa using hl) (VL.mono (fun _ _ _ h=>h) (fun _ _ h=>h) (fun k u hk=>by simpa using hk) q3) hy⟩
 have C:=pt m nD.all hl (B X Z.toList Y _ (by simpa using a2) (VL.mono (fun _ _ _ h=>h) (fun _ _ h=>h) (fun k u hk=>by simpa using hk) a3) hx);have a5:∀k,qK φ h Bw k→k<w.heap.size:=fun k hk=>by
  rcases hk with hk | hk
  ·exact m.rO hk
  ·exact Nat.lt_of_lt_of_le (w0.lt k (m.bw k hk)) m.kp.size
 have D:=hp.calls (qK φ h Bw) w (Z++j.map a.eval) m.kp.laid a5 (by simpa using C);refine Good.th (f:=f) (args:=Z++j.map a.eval) (w':=w) ?_ (D.mono fun e w' ⟨v,he,hb,I⟩=>⟨v,he,ρ,φ,?_,?_,fun _ _ h=>h,fun _ _ h=> .inl h,?_⟩)
 ·have n1:¬fn.name = "runtime.NumGoroutine" :=by simpa using A
  have n2:¬fn.body=none:=fun e=>by rw[e]at q;cases q
  simp[execOp,ho,resolve,a1,Deferred.ofValue,invoke,callFunc,a4,n1,n2]
 ·have hF:∀β a v,Fr (own φ h) Bw w β a v→Fr (own φ h) Bw w' β a v:=fun β a v=>Fr.LP (fun k hk _=>hb.block k hk) (fun k hk=> .inl hk) β a v
  refine⟨fun id ob M=>?_,fun id o k h1 h2 h3=>Nat.lt_of_lt_of_le (m.lt id o k h1 h2 h3) hb.size,m.dj,m.bw,m.ow,m.kp.Gi hb,m.pk⟩;obtain⟨u,N,q2⟩:=m.ob id ob M;exact⟨u,N,OR.mono hF (fun _ _ h=>h) (fun _ h=>h) (fun hl k hk=>hb.block k (m.lt id ob k M hl hk)) q2⟩
 ·exact fun β a v=>Fr.LP (fun k hk _=>hb.block k hk) (fun k hk=> .inl hk) β a v
 ·refine V.mono (fun β a u hu=>?_) (fun _ _ h=>by cases h) I;exact⟨fun e=>hu.2.1 rfl (.inl e),fun _ e=>hu.2.1 rfl (.inr e),hu.2.2⟩
theorem Gs{t e:TypeId}{ti B:TI}{n:Nat}{k:IntKind}(ht:aO P t ti)(hk:ti.k = .ar n e)(f:aO P e B)(u:B.k = .int k)(a b:fG n):
  (Op.equal t (.agg (a.1.map (Value.int k)).toArray) (.agg (b.1.map (Value.int k)).toArray)).run P w = .ok (JN a b) w:=by
 obtain⟨d,C,j⟩:=ht.hu;rw[hk]at j;simp only[UK]at j;subst j;obtain⟨V,D,q⟩:=f.hu;rw[u]at q;simp only[UK]at q;subst q;obtain⟨i,z,hi,_,E,_⟩:=f.hi;have I:B.size=1:=f.ha (by rw[u];rfl);have L:P.cellsOf e=1:=by simp[Program.cellsOf,hi,E,I]
 obtain⟨r,M,N⟩:=oq (P:=P) D 9998 w (l1:=a.1) (l2:=b.1) (List.range n) (fun i hi=>by simp at hi;rw[a.2,b.2];omega);have O:r=JN a b:=by
  rw[Bool.eq_iff_iff,N];unfold JN;rw[beq_iff_eq];constructor
  ·intro J;refine List.ext_getElem? fun i=>?_
   rcases Nat.lt_or_ge i n with A | A
   ·exact J i (by simpa using A)
   ·rw[List.getElem?_eq_none (by rw[a.2];exact A),List.getElem?_eq_none (by rw[b.2];exact A)]
  ·intro J i _;rw[J]
 unfold Op.equal Op.maxDepth;rw[show(10000:Nat)=9999+1 from rfl,run_equalIn_array w 9999 _ _ C hi,L,←O];exact M
end
end Go.Tv
