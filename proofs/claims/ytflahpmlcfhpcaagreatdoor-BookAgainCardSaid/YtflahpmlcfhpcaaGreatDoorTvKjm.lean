import Derived.Test.YtflahpmlcfhpcaaGreatDoorTvKhm
namespace Go.Tv
open Go Go.RowKit
def Kd(k:IntKind):ag→Bool
 | .p _ (.int e) x=>decide (e=k) && (show Int from x) == 0
 | _=>false
theorem xL{F:Bool→Addr→Value→Prop}{ρ:Nat→QW}{k:IntKind}{n:Nat}{e:fh n}{p:List ag}{v:Value}(h:V F ρ (.lag k n e p) v):
  ∃f:QU,v = .agg f∧f.size=n+p.length∧(∀i (h:i<e.1.length),f[i]? = some (.int k e.1[i]))∧VL F ρ p (fun j u=>f[n+j]? = some u):=by
 simp only[V]at h;obtain⟨f,rfl,q,x⟩:=h;refine⟨_,rfl,by simp[q,e.2],fun i hi=>?_,VL.mono (fun _ _ _ h=>h) (fun _ _ h=>h) (fun j u z=>?_) x⟩
 ·simp only[List.getElem?_toArray];rw[List.getElem?_append_left (by simpa using hi)];simp[hi]
 ·simp only[List.getElem?_toArray];rw[List.getElem?_append_right (by simp[e.2])];simpa [e.2]using z
theorem GH{F:Bool→Addr→Value→Prop}{ρ:Nat→QW}{k:IntKind}{n:Nat}{e:fh n}{q:List ag}{f:QU}(z:f.size=n+q.length)(A:∀i (h:i<e.1.length),f[i]? = some (.int k e.1[i]))(B:VL F ρ q (fun j u=>f[n+j]? = some u)):
  V F ρ (.lag k n e q) (.agg f):=by
 simp only[V];refine⟨f.toList.drop n,?_,by simp[z],VL.mono (fun _ _ _ h=>h) (fun _ _ h=>h) (fun j u C=>by rw[List.getElem?_drop,Array.getElem?_toList];exact C) B⟩;have:f.toList=e.1.map (Value.int k)++f.toList.drop n:=by
  refine List.ext_getElem? fun i=>?_
  rcases Nat.lt_or_ge i n with hi | hi
  ·have p:i<e.1.length:=by rw[e.2];exact hi
   rw[List.getElem?_append_left (by simpa using p),Array.getElem?_toList,A i p];simp[p]
  ·rw[List.getElem?_append_right (by simp[e.2];exact hi),List.getElem?_drop];congr 1;simp[e.2];omega
 rw[←this]
theorem C7{F:Bool→Addr→Value→Prop}{ρ:Nat→QW}{k:IntKind}{n:Nat}{j:List ag}{v:Value}(hz:(j.take n).all (Kd k)=true)(hn:n≤j.length)(h:V F ρ (.agg j) v):V F ρ (.lag k n (dB n) (j.drop n)) v:=by
 simp only[V]at h;obtain⟨C,rfl,z,hl⟩:=h;refine GH (by simp[z];omega) (fun i hi=>?_) (VL.mono (fun _ _ _ h=>h) (fun _ _ h=>h) (fun _ _ h=>h) (VL.drop (n:=n) hl));have p:i<n:=by simpa [dB]using hi
 have hd:i<j.length:=by omega
 obtain⟨u,A,q⟩:=VL.get hl (List.getElem?_eq_getElem hd);have f:Kd k j[i]=true:=List.all_eq_true.1 hz _ (by
  refine List.mem_of_getElem? (i:=i) ?_;rw[List.getElem?_take,if_pos p,List.getElem?_eq_getElem hd])
 rw[A];unfold Kd at f;split at f
 ·rename_i β D x e;simp only[Bool.and_eq_true,decide_eq_true_eq,beq_iff_eq]at f;obtain⟨rfl,B⟩:=f;rw[e]at q;rw[bX q];have:(x:Int)=0:=B;simp only[dB,List.getElem_replicate];rw[this]
 ·cases f
section
variable{P:Program}{Bw:Nat→Prop}{w0:cw P}{ρ:Nat→QW}{φ:Nat→Nat→Prop}{h:Nat→Qz}{w:World}{new:Nat}
theorem Br(m:Mem Bw w0 ρ φ h w)(hn:ρ new=none){k:IntKind}{n:Nat}{q:fh n}{x:List ag}{arr:QU}{A:TypeId}(C:arr.size=n+x.length)(D:∀i (h:i<q.1.length),arr[i]? = some (.int k q.1[i]))
  (hl:VL (Fr (own φ h) Bw w) ρ x (fun j u=>arr[n+j]? = some u)) (sz:Nat) :
  aF Bw w0 ρ φ h w new (.adr new 0 sz 0) [(new,some (.lmp k n q x))] (.pointer (some ⟨w.heap.size,0,none⟩)) (w.alloc (.cells arr A)):=by
 refine cV m none new (.lmp k n q x) (.pointer (some ⟨w.heap.size,0,none⟩)) none (World.grownBy_alloc w _ none) (fun k e=>by cases e) (.inl hn) (fun _ k hk=>?_) (fun F' z B f=>?_)
  (by rw[bp];rfl) (fun _=>rfl) (fun F' z B f p=>?_)
 ·simp only[dx,Option.some.injEq]at hk;exact .inl (by omega)
 ·exact⟨_,A,arr,rfl,rfl,heap_alloc_new w _,C,D,VL.mono B f (fun _ _ h=>h) hl⟩
 ·simp only[V];exact⟨_,.inl p,by simp⟩
theorem AY(m:Mem Bw w0 ρ φ h w)(hn:ρ new=none){o:Oper}{a:Act}{t:TypeId}{ti:TI}(ht:aN P t ti)(p:o.op = .alloc t){k:IntKind}{n:Nat}(hz:(ti.z.take n).all (Kd k)=true)(f:n≤ti.z.length):
  Good P o a w (aF Bw w0 ρ φ h w new (.adr new 0 ti.size 0) [(new,some (.lmp k n (dB n) (ti.z.drop n)))]):=by
 obtain⟨z,q,j,C,D⟩:=dX ht w;have u:V (Fr (own φ h) Bw w) ρ (.agg ti.z) (.agg z.cells):=by simp only[V];refine⟨z.cells,rfl,by rw[←j];simp,?_⟩;rw[←j];have:=gE (F:=Fr (own φ h) Bw w) (ρ:=ρ) z.cells.toList;simpa using this
 obtain⟨E,e,x,A,B⟩:=xL (C7 hz f u);cases e;exact Good.aG (v:= .pointer (some ⟨w.heap.size,0,none⟩)) (w':=w.alloc (.cells z.cells t)) (by simp[execOp,p,Instr.alloc,q,newVar,newRow]) (Br m hn x A B _)
theorem E7(m:Mem Bw w0 ρ φ h w)(hn:ρ new=none){o:Oper}{a:Act}{t:TypeId}{xo:Operand}{k:IntKind}{n:Nat}{f:fh n}{j:List ag}(p:V (Fr (own φ h) Bw w) ρ (.lag k n f j) (a.eval xo))
  (q:o.op = .box t xo) (sz:Nat):Good P o a w (aF Bw w0 ρ φ h w new (.adr new 0 sz 0) [(new,some (.lmp k n f j))]):=by
 obtain⟨A,e,u,x,z⟩:=xL p;refine Good.aG (v:= .pointer (some ⟨w.heap.size,0,none⟩)) (w':=w.alloc (.cells (a.eval xo).cells t)) (by simp[execOp,q,Instr.box,newVar,newRow]) ?_;rw[e];exact Br m hn u x z _
theorem Bb(m:Mem Bw w0 ρ φ h w){o:Oper}{a:Act}{t e:TypeId}{ti q:TI}(ht:aN P t ti){n:Nat}(hk:ti.k = .ar n e)(x:aN P e q)(z:q.size=1){xo io:Operand}{id i sz off:Nat}(E:V (Fr (own φ h) Bw w) ρ (.adr id i sz off) (a.eval xo))
  {L:IntKind} {I:Nat} {M:fh I} {N:List ag} (hb:h id=some (.lmp L I M N)) {β:Bool} {k:IntKind} {j:Int} (O:V (Fr (own φ h) Bw w) ρ (.p β (.int k) j) (a.eval io)) (X:o.op = .indexAddr t xo io) (hc:0≤j∧j<(n:Int)) :
  Good P o a w (aF Bw w0 ρ φ h w new (.ada id (i*sz+off) n j.toNat) []):=by
 obtain⟨d,Y,A⟩:=ht.hu;rw[hk]at A;simp only[UK]at A;subst A;obtain⟨u,J,B,Z,cells,rfl,_⟩:=m.ob id _ hb;simp only[V]at E;obtain⟨g,f,he⟩:=E;rw[J]at f;have C:B=g:=by
  rcases f with f | ⟨n,c,f⟩
  ·simpa using f
  ·cases f
 subst C;have D:=bX O;refine Good.aG (v:= .pointer (some ((⟨B,i*sz+off,none⟩:Addr).add (j.toNat*q.size)))) (w':=w) ?_ (aF.pure m ?_)
 ·simp[execOp,X,Instr.indexAt,asIntOf,D,he,run_underlying Y,Instr.sureAddr,run_sizeOf x,hc.1,hc.2]
 ·simp only[V];exact⟨B,J,by rw[cr,z,Nat.mul_one],by omega⟩
theorem Cg(m:Mem Bw w0 ρ φ h w){o:Oper}{a:Act}{t:TypeId}{ti:TI}(ht:aN P t ti){k:IntKind}(hk:ti.k = .int k){xo:Operand}{id n i:Nat}(x:V (Fr (own φ h) Bw w) ρ (.ada id 0 n i) (a.eval xo))
  (A:o.op = .load t xo) {e:fh n} {B:List ag} (hb:h id=some (.lmp k n e B)):Good P o a w (aF Bw w0 ρ φ h w new (.p false (.int k) (fC e i)) []):=by
 obtain⟨u,C,j,q,cells,rfl,_,D,J,E,L⟩:=m.ob id _ hb;simp only[V]at x;obtain⟨g,z,I,hi⟩:=x;rw[C]at z;obtain rfl:j=g:=by simpa using z
 have f:i<e.1.length:=by rw[e.2];exact hi
 have hc:w.cell? (⟨j,0+i,none⟩:Addr)=some (.int k (fC e i)):=by rw[cell_of_row w j (0+i) cells q (0,0) D,Nat.zero_add,E i f];simp[fC,f]
 refine Good.aG (v:= .int k (fC e i)) (w':=w) ?_ (aF.pure m (dH _ _ _));simp only[execOp,A,Instr.loadAt,I,Instr.sureAddr,Sem.run_bind,Sem.run_pure,Result.andThen_ok];unfold loadVar;rw[Sem.run_bind,kP ht,hk];simp only[Result.andThen_ok,TK.agg];rw[if_neg (by simp),run_load,hc];rfl
theorem AF(m:Mem Bw w0 ρ φ h w){o:Oper}{a:Act}{t:TypeId}{ti:TI}(ht:aN P t ti)(A:ti.size=1){k:IntKind}{xo yo:Operand}{id n i:Nat}(M:V (Fr (own φ h) Bw w) ρ (.ada id 0 n i) (a.eval xo))
  {β:Bool} {v:Int} (hy:V (Fr (own φ h) Bw w) ρ (.p β (.int k) v) (a.eval yo)) (ho:o.op = .store t xo yo) {z:fh n} {B:List ag} (hb:h id=some (.lmp k n z B)) :
  Good P o a w (aF Bw w0 ρ φ h w new .unk [(id,some (.lmp k n (qM z i v) B))]):=by
 obtain⟨u,C,g,N,cells,rfl,D,O,X,r3,r4⟩:=m.ob id _ hb;simp only[V]at M;obtain⟨g',Y,he,hi⟩:=M;rw[C]at Y;obtain rfl:g=g':=by simpa using Y
 have f:=bX hy;have q:=pV (P:=P) ht A O (v:=a.eval yo) (p:=i) (by omega) (.inl rfl) (by rw[f];rfl) (by rw[f];rfl);have E:a.eval xo = .pointer (some ⟨g,i,none⟩):=by rw[he];simp
 refine Good.jD (w':=_) (by simp[execOp,ho,Instr.storeAt,E,Instr.sureAddr,q];rfl) ?_;refine dY m (some id) id (.lmp k n (qM z i v) B) (.pointer (some ⟨g,0,none⟩)) (φ id) (some g) (ba w g _) (fun k e=>⟨id,_,rfl,hb,rfl,by cases e;assumption⟩) (.inr ⟨rfl,C⟩)
  (fun _ k hk=>Nat.lt_of_lt_of_le (m.lt id _ k hb rfl hk) (ba w g _).size) (fun _ k hk=> .inr ⟨id,_,rfl,hb,rfl,hk⟩) (fun F' I Z x=>?_) (by rw[bm];rfl) (fun e=>by rw[C]at e;cases e) (fun F' I Z x a1=>by simp only[V])
 refine⟨g,N,_,rfl,D,setRow_heap w g cells _ N _ O,by simpa using X,fun j J=>?_,VL.mono Z x (fun j u J=>?_) r4⟩
 ·have L:j<z.1.length:=by simpa [qM]using J
  simp only[qM];by_cases e:i=j
  ·subst e;rw[f,Array.getElem?_setIfInBounds_self_of_lt (by rw[X];omega)];simp
  ·rw[Array.getElem?_setIfInBounds_ne e,List.getElem_set_ne e];exact r3 j L
 ·rw[Array.getElem?_setIfInBounds_ne (by omega)];exact J
theorem xY(m:Mem Bw w0 ρ φ h w){k:IntKind}{n:Nat}{A:fh n}{B:List ag}{id i sz off:Nat}(hb:h id=some (.lmp k n A B)){v:Value}(I:V (Fr (own φ h) Bw w) ρ (.adr id i sz off) v):
  ∃g,v = .pointer (some ⟨g,i*sz+off,none⟩)∧VL (Fr (own φ h) Bw w) ρ B (fun j u=>w.cell? ((⟨g,n,none⟩:Addr).add j)=some u)∧VL (Fr (own φ h) Bw w) ρ (A.1.map (fun i=>ag.p false (.int k) i)++B) (fun j u=>w.cell? ((⟨g,0,none⟩:Addr).add j)=some u):=by
 obtain⟨u,L,q,e,cells,rfl,_,C,O,M,J⟩:=m.ob id _ hb;simp only[V]at I;obtain⟨g,f,N⟩:=I;rw[L]at f;have D:q=g:=by
  rcases f with f | ⟨n,c,f⟩
  ·simpa using f
  ·cases f
 subst D;refine⟨q,N,VL.mono (fun _ _ _ h=>h) (fun _ _ h=>h) (fun j u E=>?_) J,VL.append (VL.mk fun j y z=>?_) (VL.mono (fun _ _ _ h=>h) (fun _ _ h=>h) (fun j u E=>?_) J)⟩
 ·rw[cr,cell_of_row w q (n+j) cells e (0,0) C];exact E
 ·rw[List.getElem?_map]at z;rcases Nat.lt_or_ge j A.1.length with hl | hl
  ·rw[List.getElem?_eq_getElem hl]at z;cases z;exact⟨_,by rw[cr,cell_of_row w q (0+j) cells e (0,0) C,Nat.zero_add];exact M j hl,dH _ _ _⟩
  ·rw[List.getElem?_eq_none hl]at z;cases z
 ·rw[cr,cell_of_row w q _ cells e (0,0) C,List.length_map,Nat.zero_add,A.2];exact E
theorem Ax(m:Mem Bw w0 ρ φ h w){o:Oper}{a:Act}{t:TypeId}{ti:TI}(ht:aN P t ti){xo:Operand}{id i sz off:Nat}(p:V (Fr (own φ h) Bw w) ρ (.adr id i sz off) (a.eval xo))(u:o.op = .load t xo)
  {k:IntKind} {n:Nat} {x:fh n} {f:List ag} (hb:h id=some (.lmp k n x f)) {q:Nat} (z:i*sz+off=n+q) {y:ag} (A:gk ti f q=some y):Good P o a w (aF Bw w0 ρ φ h w new y []):=by
 obtain⟨g,e,B,_⟩:=xY m hb p;obtain⟨v,j,C⟩:=iE (P:=P) ht B A;rw[cr]at j;refine Good.aG (v:=v) (w':=w) ?_ (aF.pure m C);simp[execOp,u,Instr.loadAt,e,Instr.sureAddr,z,j]
theorem Aw(m:Mem Bw w0 ρ φ h w){o:Oper}{a:Act}{t:TypeId}{ti:TI}(ht:aN P t ti)(A:ti.k.agg=true){xo:Operand}{id i sz off:Nat}(L:V (Fr (own φ h) Bw w) ρ (.adr id i sz off) (a.eval xo))(M:o.op = .load t xo)
  {k:IntKind} {n:Nat} {q:fh n} {z:List ag} (hb:h id=some (.lmp k n q z)) (N:i*sz+off=0) (C:ti.size=n+z.length):Good P o a w (aF Bw w0 ρ φ h w new (.lag k n q z) []):=by
 obtain⟨g,e,_,O⟩:=xY m hb L;have f:(q.1.map (fun i=>ag.p false (.int k) i)++z).length=ti.size:=by simp[q.2,C]
 obtain⟨v,D,E⟩:=iE (P:=P) ht O (off:=0) (x:= .agg (q.1.map (fun i=>ag.p false (.int k) i)++z)) (by
  unfold gk;rw[A,if_pos rfl,if_pos (by rw[f];omega),List.drop_zero,List.take_of_length_le (by rw[f];exact Nat.le_refl _)])
 have X:V (Fr (own φ h) Bw w) ρ (.lag k n q z) v:=by
  simp only[V]at E;obtain⟨vs,rfl,Y,I⟩:=E;refine GH (by rw[Y,f,C]) (fun j B=>?_) (VL.mono (fun _ _ _ h=>h) (fun _ _ h=>h) (fun j u B=>?_) (VL.drop (n:=n) I |> fun Z=>by rwa [List.drop_append_of_le_length (by simp[q.2]),List.drop_of_length_le (by simp[q.2]),List.nil_append]at Z))
  ·obtain⟨u,J,t2⟩:=VL.get I (k:=j) (x:= .p false (.int k) q.1[j]) (by rw[List.getElem?_append_left (by simpa using B),List.getElem?_map,List.getElem?_eq_getElem B];rfl);rw[bX t2]at J;exact J
  ·exact B
 have e0:(⟨g,0,none⟩:Addr).add 0=⟨g,0,none⟩:=by simp[Addr.add]
 rw[e0]at D;refine Good.aG (v:=v) (w':=w) ?_ (aF.pure m X);simp[execOp,M,Instr.loadAt,e,Instr.sureAddr,N,D]
theorem yx(m:Mem Bw w0 ρ φ h w){o:Oper}{a:Act}{t:TypeId}{ti:TI}(ht:aN P t ti){xo yo:Operand}{id i sz off:Nat}(X:V (Fr (own φ h) Bw w) ρ (.adr id i sz off) (a.eval xo))
  {y:ag} (hy:V (Fr (own φ h) Bw w) ρ y (a.eval yo)) (hc:(cellsOf y).all ag.cell=true) (ho:o.op = .store t xo yo) {k:IntKind} {n:Nat} {E:fh n} {A:List ag} (hi:h id=some (.lmp k n E A))
  (f:(cellsOf y).length=ti.size) {q:Nat} (hq:i*sz+off=n+q) (B:q+ti.size≤A.length) :
  Good P o a w (aF Bw w0 ρ φ h w new .unk [(id,some (.lmp k n E (wr A q (cellsOf y))))]):=by
 obtain⟨u,J,g,Y,cells,rfl,L,Z,r2,r3,r4⟩:=m.ob id _ hi;simp only[V]at X;obtain⟨g',z,he⟩:=X;rw[J]at z;have M:g=g':=by
  rcases z with z | ⟨n,c,z⟩
  ·simpa using z
  ·cases z
 subst M;obtain⟨h1,N,h3⟩:=fW hc hy;have C:=gM (P:=P) ht Z (v:=a.eval yo) (p:=n+q) (by rw[N,f]) (by rw[r2];omega) h3;rw[hq]at he;refine Good.jD (w':=_) (by simp[execOp,ho,Instr.storeAt,he,Instr.sureAddr,C];rfl) ?_;refine dY m (some id) id (.lmp k n E (wr A q (cellsOf y))) (.pointer (some ⟨g,0,none⟩)) (φ id) (some g) (ba w g _) (fun k e=>⟨id,_,rfl,hi,rfl,by cases e;assumption⟩) (.inr ⟨rfl,J⟩)
  (fun _ k hk=>Nat.lt_of_lt_of_le (m.lt id _ k hi rfl hk) (ba w g _).size) (fun _ k hk=> .inr ⟨id,_,rfl,hi,rfl,hk⟩) (fun F' D O x=>?_) (by rw[bm];rfl) (fun e=>by rw[J]at e;cases e) (fun F' D O x a1=>by simp only[V])
 refine⟨g,Y,_,rfl,L,setRow_heap w g cells _ Y _ Z,?_,fun j hj=>?_,?_⟩
 ·simp only[List.size_toArray,List.length_append,List.length_take,List.length_drop,Array.length_toList,N,f,wr];omega
 ·have a2:j<n:=by rw[←E.2];exact hj
  simp only[List.getElem?_toArray];rw[List.getElem?_append_left (by simp;omega),List.getElem?_take,if_pos (by omega),Array.getElem?_toList];exact r3 j hj
 ·have h4:VL F' D A (fun k u=>(cells.toList.drop n)[k]? = some u):=VL.mono O x (fun k u hk=>by rw[List.getElem?_drop,Array.getElem?_toList];exact hk) r4;have:=DE (p:=q) (by rw[f];exact B) (by simp[r2]) N h4 (VL.mono O x (fun _ _ h=>h) h1);rw[f]at this;refine VL.mono (fun _ _ _ h=>h) (fun _ _ h=>h) (fun k u hk=>?_) this;rw[←hk];simp only[List.getElem?_toArray];have e:cells.toList.take (n+q)++((a.eval yo).cells.toList++cells.toList.drop (n+q+ti.size))=cells.toList.take n++((cells.toList.drop n).take q++(a.eval yo).cells.toList++(cells.toList.drop n).drop (q+ti.size)):=by rw[List.take_add,List.drop_drop,Nat.add_assoc];simp only[List.append_assoc]
  rw[e,List.getElem?_append_right (by simp;omega)];congr 1;simp
  omega
/-! ### I -/
theorem rU(m:Mem Bw w0 ρ φ h w){o:Oper}{a:Act}{op:BinOp}(j:op = .add∨op = .sub∨op = .mul∨op = .quo){t z:TypeId}{xo yo:Operand}(A:o.op = .binOp op t xo yo z){β u:Bool}{x y:QJ}
  (B:V (Fr (own φ h) Bw w) ρ (.p β .flt x) (a.eval xo)) (C:V (Fr (own φ h) Bw w) ρ (.p u .flt y) (a.eval yo)):Good P o a w (aF Bw w0 ρ φ h w new (.p false .flt (cb op x y)) []):=by
 obtain⟨p,D,rfl⟩:=yd B;obtain⟨q,E,rfl⟩:=yd C;obtain⟨n,w',I,J,L⟩:=BZ (P:=P) (w:=w) j p q;have f:(execOp a.eval o).run P w = .ok (.value (.float .f64 n)) w':=by
  simp only[execOp,A,D,E];rw[Sem.run_bind,Sem.run_bind,bL (by intro O e;cases e) (by intro e;cases e)];have hb:(binOp op t (.float .f64 p) (.float .f64 q)).run P w = .ok (.float .f64 n) w':=by rcases j with rfl | rfl | rfl | rfl <;> (simp only[binOp,ne_eq,not_true_eq_false,if_false];exact I)
  simp only[Result.andThen_ok,hb];rfl
 rw[←L];rcases J with rfl | rfl
 ·exact Good.aG f (aF.pure m (zm _ _))
 ·obtain⟨M,N⟩:=m.drew;exact Good.aG f (aF.after (u1:=[]) rfl N (aF.pure M (zm _ _)))
theorem As(m:Mem Bw w0 ρ φ h w){o:Oper}{a:Act}{st j:TypeId}{z q:TI}(A:aN P st z)(hd:aN P j q){k:IntKind}(hk:q.k = .int k){xo:Operand}(B:o.op = .convert st j xo){β:Bool}{x:QJ}
  (C:V (Fr (own φ h) Bw w) ρ (.p β .flt x) (a.eval xo)) (hc:(n4 x).isSome=true∧k.min≤(n4 x).getD 0∧(n4 x).getD 0≤k.max):Good P o a w (aF Bw w0 ρ φ h w new (.p false (.int k) ((n4 x).getD 0)) []):=by
 obtain⟨p,D,rfl⟩:=yd C;obtain⟨E,I,M⟩:=A.hu;obtain⟨N,J,e⟩:=hd.hu;rw[hk]at e;simp only[UK]at e;subst e;cases f:eG p with
 | none=>rw[f]at hc;exact absurd hc.1 (by simp[n4])
 | some u =>
  obtain rfl:=jM f;rw[f]at hc;cases hi:(FloatKind.f64.decode u).toInt .zero with
  | none=>exact absurd hc.1 (by simp[n4,hi])
  | some n =>
   have L:n4 (some u)=some n:=by simp[n4,hi]
   rw[L]at hc ⊢;simp only[Option.getD_some]at hc ⊢;refine Good.aG (v:= .int k n) (w':=w) ?_ (aF.pure m (dH _ _ _));simp only[execOp,B,D,convert,Sem.run_bind,run_underlying I,run_underlying J,Result.andThen_ok];cases E <;> simp[Conv.floatToInt,hi,hc.2]
end
theorem qX{P:Program}{w:World}{t t2 ty e:TypeId}{i:TypeInfo}(ht:P.underlying t=some (.slice e))(hi:P.info? e=some i){g off n cap:Nat}{f:QU}{A:TypeId}
  (D:w.heap[g]? = some (.cells f A (0,0))) {ad:Option Addr} {len c:Nat} {cs:QY} (z:cs.length=min len n*i.size) (u:ad=none→cs=[])
  (x:∀b,ad=some b→∀j v,cs[j]? = some v→w.cell? (b.add j)=some v) (B:off+cs.length≤f.size) (E:∀v∈cs,v.oneCell'=true) :
  (Builtin.copy_ #[t,t2] ty #[.slice (some ⟨g,off,none⟩) n cap,.slice ad len c]).run P w =
   .ok (goInt (min len n:Nat)) (w.setRow g (f.toList.take off++cs++f.toList.drop (off+cs.length)).toArray):=by
 have q:=run_storeCells_at P g off A cs 0 f w D (by omega) E;simp only[Nat.add_zero]at q;have C:Nat.min len n=min len n:=rfl;cases ad with
 | none =>
  have:=u rfl;subst this;simp[Builtin.copy_,run_underlying ht,Builtin.lenOf,Builtin.firstCells,sizeOf,typeInfo,hi,q,C]
 | some b =>
  have hl:=run_loadCells_list (P:=P) w b cs (x b rfl);rw[z]at hl;simp[Builtin.copy_,run_underlying ht,Builtin.lenOf,Builtin.firstCells,sizeOf,typeInfo,hi,hl,q,C]
section
variable{P:Program}{Bw:Nat→Prop}{w0:cw P}{ρ:Nat→QW}{φ:Nat→Nat→Prop}{h:Nat→Qz}{w:World}{new:Nat}
theorem G3(m:Mem Bw w0 ρ φ h w){id:Nat}{B:TypeId}{A:Ty}{f:List A.den}(j:h id=some (.arr B A f)){v:Value}(x:V (Fr (own φ h) Bw w) ρ (.sl id) v):∃ad cap,v = .slice ad f.length cap∧f.length≤cap:=by
 obtain⟨u,z,C,hA,cells,D,I⟩:=m.ob id _ j;simp only[V]at x;rw[x.1]at z;cases z;rcases D.2 with⟨e,p⟩ | ⟨g,cap,E,e,hb,J,q,_⟩
 ·exact⟨none,0,by rw[e,p],by omega⟩
 ·exact⟨_,cap,e,q⟩
theorem Bp(m:Mem Bw w0 ρ φ h w){o:Oper}{a:Act}{t e:TypeId}{ti z:TI}(ht:aN P t ti)(hk:ti.k = .sl e)(q:aN P e z){A:Ty}{xo lo:Operand}(C:o.op = .slice t xo (some lo) none none)
  {id:Nat} {D:TypeId} {j:List A.den} (u:h id=some (.arr D A j)) (x:V (Fr (own φ h) Bw w) ρ (.sl id) (a.eval xo)) {β:Bool} {k:IntKind} {l:Int} (hl:V (Fr (own φ h) Bw w) ρ (.p β (.int k) l) (a.eval lo))
  (E:0≤l) (I:l≤j.length):Good P o a w (aF Bw w0 ρ φ h w new (.suf id l.toNat z.size) []):=by
 obtain⟨ad,cap,B,hc⟩:=G3 m u x;simp only[V]at x;have f:=l9 (P:=P) (w:=w) (F:=Fr (own φ h) Bw w) (ρ:=ρ) (a:=a) ht hk q (ad:=ad) (len:=j.length) (cap:=cap) (lo:=some lo) (hi:=none) (l:=some l) (r:=none) ⟨β,k,hl⟩ trivial (by simpa using E) (by simpa using I) (by simp) hc;simp only[Option.map_none,Option.map_some,Option.getD_none,Option.getD_some]at f;refine Good.aG (v:=_) (w':=w) (by simp only[execOp,C,B,Option.map_none,Option.map_some,Sem.run_bind]at f ⊢;rw[f];rfl) (aF.pure m ?_);simp only[V];exact⟨ad,j.length,cap,by rw[x.1,B],by omega,hc,by simp⟩
theorem zx(m:Mem Bw w0 ρ φ h w){o:Oper}{a:Act}{t t2 e:TypeId}{ti te:TI}(ht:aN P t ti)(hk:ti.k = .sl e)(aa:aN P e te){A:Ty}(hT:te.T=some A)
  {xo yo:Operand} {id f:Nat} {y:ag} (hx:V (Fr (own φ h) Bw w) ρ (.suf id f te.size) (a.eval xo)) (hy:V (Fr (own φ h) Bw w) ρ y (a.eval yo)) (ho:o.op = .call { callee:= .builtin .copy,args:= #[xo,yo],argTypes:= #[t,t2] })
  {e':TypeId} {q x:List A.den} (a3:h id=some (.arr e' A q)) (bi:fb h A y=some x) :
  Good P o a w (aF Bw w0 ρ φ h w new (.p false (.int .i64) ((min x.length (q.length - f):Nat):Int)) [(id,some (.arr e' A (q.take f++(x.take (q.length - f)++q.drop (f+x.length)))))]):=by
 obtain⟨i,z,hi,hz,a4,be,cp,d1,d2⟩:=aa.hi;obtain⟨ac,d3,d4⟩:=aa.hT A hT;have hu:=aX ht hk;have b1:i.size=A.size:=by rw[a4,ac]
 obtain⟨ad,len,c,b2,b3,b4,cc⟩:=hI m bi hy;obtain⟨u,q1,bs,hA,cells,r1,r2⟩:=m.ob id _ a3;simp only[V]at hx;obtain⟨ax,nx,cx,b5,d5,d6,b6⟩:=hx;rw[q1]at b5;cases b5;subst b3;have bv:nx=q.length:=by
  rcases r1.2 with⟨D,hn⟩ | ⟨g,cap,a5,D,_⟩
  ·simp only[Value.slice.injEq]at D;omega
  ·simp only[Value.slice.injEq]at D;exact D.2.1
 subst bv;by_cases J:min x.length (q.length - f)=0
 ·-- nothing to copy
  have a6:q.take f++(x.take (q.length - f)++q.drop (f+x.length))=q:=by
   rcases Nat.eq_zero_or_pos x.length with e0 | e0
   ·have:x=[]:=List.eq_nil_of_length_eq_zero e0;subst this;simp
   ·have:q.length - f=0:=by omega
    rw[this,List.take_of_length_le (by omega),List.drop_of_length_le (by omega)];simp
  have N:(Builtin.copy_ #[t,t2] o.type #[a.eval xo,a.eval yo]).run P w = .ok (goInt (min x.length (q.length - f):Nat)) w:=by
   rw[b6,b2];have key:∀(d:Option Addr),(Builtin.copy_ #[t,t2] o.type #[.slice d (q.length - f) (cx - f),.slice ad x.length c]).run P w = .ok (goInt (min x.length (q.length - f):Nat)) w:=fun d=>by
    have hm:Nat.min x.length (q.length - f)=0:=J;have bx:∀b:Addr,(loadCells b 0).run P w = .ok #[] w:=fun b=>by have:=run_loadCells_list (P:=P) w b [] (fun j v L=>by simp at L);simpa using this
    cases d <;> cases ad <;> simp[Builtin.copy_,run_underlying hu,Builtin.lenOf,Builtin.firstCells,sizeOf,typeInfo,hi,hm,J,bx,storeCells]
   exact key _
  refine Good.aG (v:=goInt (min x.length (q.length - f):Nat)) (w':=w) (by simp only[execOp,ho,resolve,invoke,builtin,Sem.run_bind,Sem.run_pure,Result.andThen_ok,List.map_toArray,List.map_cons,List.map_nil,N]) ?_;have I:apply [(id,some (Obj.arr e' A (q.take f++(x.take (q.length - f)++q.drop (f+x.length)))))] h=h:=by
   rw[a6];funext k;simp only[apply,bF];split
   ·rename_i e2;rw[e2,a3]
   ·rfl
  have Y:V (Fr (own φ h) Bw w) ρ (.p false (.int .i64) ((min x.length (q.length - f):Nat):Int)) (goInt (min x.length (q.length - f):Nat)):=by simp only[V,ah];exact⟨rfl,rfl⟩
  refine⟨ρ,φ,by rw[I];exact m,by rw[I];exact fun _ _ _ h=>h,fun _ _ h=>h,fun _ _ h=> .inl h,?_⟩;rw[I];exact Y
 ·rcases r1.2 with⟨D,hn⟩ | ⟨g,cap,a5,D,_,O,X,a7,b7,a8⟩
  ·omega
  simp only[Value.slice.injEq]at D;obtain⟨rfl,_,rfl⟩:=D;have c1:0<x.length:=by omega
  obtain⟨b,Z,_⟩:=b4 0 c1;subst Z;obtain⟨b8,n1,n2,n3⟩:=kK (g:=fun k v=>w.cell? (b.add k)=some v) (fun i c2=>by
   obtain⟨b',E,e2⟩:=b4 i c2;cases E;exact e2)
  have b9:=nK n1 n3;have a9:cells.length=q.length*A.size:=r1.1;have c3:q.length*A.size≤cx*A.size:=Nat.mul_le_mul_right _ X;generalize a2:min x.length (q.length - f)=C at *;have c4:C≤x.length:=by omega
  have c5:f+C≤q.length:=by omega
  have d7:C*A.size≤x.length*A.size:=Nat.mul_le_mul_right _ c4;have d8:f*A.size+C*A.size≤q.length*A.size:=by rw[←Nat.add_mul];exact Nat.mul_le_mul_right _ c5
  let cs:=b8.take (C*A.size)
  have M:cs.length=C*A.size:=by simp only[cs,List.length_take,n1];omega
  have c6:a.eval xo = .slice (some ⟨g,f*A.size,none⟩) (q.length - f) (cx - f):=by rw[b6,if_neg (by omega)];simp only[Option.map_some];rw[cr,Nat.zero_add,ac]
  have N:=qX (P:=P) (w:=w) (t2:=t2) (ty:=o.type) hu hi O (off:=f*A.size) (n:=q.length - f) (cap:=cx - f) (ad:=some b) (len:=x.length) (c:=c) (cs:=cs) (by rw[M,b1,a2])
   (fun E=>by cases E)
   (fun b' E j v L=>by
    cases E;refine n2 j v ?_;simp only[cs,List.getElem?_take]at L;split at L
    ·exact L
    ·cases L) (by rw[M,b7];omega) (fun v Y=>b9 v (List.mem_of_mem_take Y))
  refine Good.aG (v:=_) (w':=_) (by simp only[execOp,ho,resolve,invoke,builtin,Sem.run_bind,Sem.run_pure,Result.andThen_ok,List.map_toArray,List.map_cons,List.map_nil,c6,b2,N];rfl) ?_;have B:(q.take f++(x.take (q.length - f)++q.drop (f+x.length))).length=q.length:=by simp only[List.length_append,List.length_take,List.length_drop];omega
  rw[a2];refine cV m (some id) id (.arr e' A (q.take f++(x.take (q.length - f)++q.drop (f+x.length)))) (.slice (some ⟨g,0,none⟩) q.length cx) (some g) (ba w g _) (fun k E=>⟨id,_,rfl,a3,rfl,bs _ (by simpa [dx]using E)⟩) (.inr ⟨rfl,q1⟩)
   (fun _ k a1=> .inr (by simpa [dx]using a1)) (fun F' c7 hF c8=>?_) (by rw[bm];rfl) (fun E=>by rw[q1]at E;cases E) (fun F' c7 hF c8 ch=>by simp only[V,ah];exact⟨rfl,rfl⟩)
  refine⟨fun _ h=>h,hA,cells.take (f*A.size)++cs++cells.drop (f*A.size+cs.length),⟨?_,.inr ⟨g,cx,_,?_,Nat.zero_le _,setRow_heap w g a5 _ e' _ O,?_,a7,?_,?_⟩⟩,fun j L=>?_⟩
  ·simp only[List.length_append,List.length_take,List.length_drop,M,a9,B];omega
  ·rw[B]
  ·rw[B];exact X
  ·simp only[List.size_toArray,List.length_append,List.length_take,List.length_drop,Array.length_toList,M];omega
  ·rw[B,←a8];have:=sU (l:=a5.toList) (vs:=cs) (p:=f*A.size) (m:=cs.length) (n:=q.length*A.size) rfl (by omega) (by simp only[Array.length_toList];omega);simpa using this
  ·rw[B]at L;have d9:j*A.size+A.size≤q.length*A.size:=by rw[←Nat.succ_mul];exact Nat.mul_le_mul_right _ L
   by_cases c9:j<f
   ·have cl:j*A.size+A.size≤f*A.size:=by rw[←Nat.succ_mul];exact Nat.mul_le_mul_right _ c9
    have E:(q.take f++(x.take (q.length - f)++q.drop (f+x.length)))[j]'(by rw[B];exact L)=q[j]:=by rw[List.getElem_append_left (by simp only[List.length_take];omega)];simp
    rw[E];refine ah.mono (hF _) (fun _ _ h=>h) (ah.gD (fun k v a1 Y=>?_) (r2 j L));rw[ix (n:=cs.length) (by omega) rfl (.inl (by omega))];exact Y
   ·by_cases dd:j<f+C
    ·have E:(q.take f++(x.take (q.length - f)++q.drop (f+x.length)))[j]'(by rw[B];exact L)=x[j - f]'(by omega):=by rw[List.getElem_append_right (by simp only[List.length_take];omega),List.getElem_append_left (by simp only[List.length_take];omega)];simp only[List.length_take,List.getElem_take];congr 1;omega
     rw[E];refine ah.mono (hF _) (fun _ _ h=>h) (ah.gD (fun k v a1 Y=>?_) (n3 (j - f) (by omega)));have Z:f*A.size≤j*A.size:=Nat.mul_le_mul_right _ (by omega);have de:(j - f)*A.size=j*A.size - f*A.size:=Nat.sub_mul _ _ _;have di:(j - f)*A.size+A.size≤C*A.size:=by rw[←Nat.succ_mul];exact Nat.mul_le_mul_right _ (by omega)
     rw[List.append_assoc,List.getElem?_append_right (by simp only[List.length_take];omega),List.getElem?_append_left (by simp only[List.length_take,M,a9];omega)];simp only[cs,List.getElem?_take,List.length_take,a9];rw[if_pos (by omega),←Y];congr 1;omega
    ·have dk:C=x.length:=by omega
     have E:(q.take f++(x.take (q.length - f)++q.drop (f+x.length)))[j]'(by rw[B];exact L)=q[j]:=by rw[List.getElem_append_right (by simp only[List.length_take];omega),List.getElem_append_right (by simp only[List.length_take];omega)];simp only[List.length_take,List.getElem_drop];congr 1;omega
     rw[E];refine ah.mono (hF _) (fun _ _ h=>h) (ah.gD (fun k v a1 Y=>?_) (r2 j L));have Z:(f+C)*A.size≤j*A.size:=Nat.mul_le_mul_right _ (by omega);rw[Nat.add_mul]at Z;rw[ix (n:=cs.length) (by omega) rfl (.inr (by rw[M];omega))];exact Y
theorem xc(m:Mem Bw w0 ρ φ h w){o:Oper}{a:Act}{f:FuncId}{q:Array Operand}(B:o.op = .makeFunc (.func f) q #[]){e:List ag}(C:iL (Fr (own φ h) Bw w) ρ e (q.toList.map a.eval)):
  Good P o a w (aF Bw w0 ρ φ h w new (.bfn f e) []):=by
 refine Good.aG (v:= .func (.func f) (q.map a.eval) #[]) (w':=w) (by simp[execOp,B,Instr.makeFunc]) (aF.pure m ?_);simp only[V];have key:∀(e:List ag) (j:QY),iL (Fr (own φ h) Bw w) ρ e j→j.length=e.length∧VL (Fr (own φ h) Bw w) ρ e (fun k u=>j[k]? = some u):=fun e=>by
  induction e with
  | nil=>intro j p;cases j with | nil=>exact⟨rfl,by simp only[VL]⟩ | cons _ _=>exact p.elim
  | cons x e D =>
   intro j p;cases j with
   | nil=>exact p.elim
   | cons v j =>obtain⟨z,A⟩:=D j p.2;simp only[VL];exact⟨by simp[z],⟨v,rfl,p.1⟩,VL.mono (fun _ _ _ h=>h) (fun _ _ h=>h) (fun k u hk=>by simpa using hk) A⟩
 obtain⟨z,A⟩:=key _ _ C;exact⟨_,rfl,by simpa using z,VL.mono (fun _ _ _ h=>h) (fun _ _ h=>h) (fun k u hk=>by simpa using hk) A⟩
theorem CP(m:Mem Bw w0 ρ φ h w){o:Oper}{a:Act}{fo:Operand}{j:Array Operand}{M:Array TypeId}(ho:o.op = .call { callee:= .value fo,args:=j,argTypes:=M })
  {f:FuncId} {N:List ag} (hf:V (Fr (own φ h) Bw w) ρ (.bfn f N) (a.eval fo)) {O:List ag} (hx:iL (Fr (own φ h) Bw w) ρ O (j.toList.map a.eval)) {args:List ag} (hl:nU h (N++O)=some args)
  {r:ag} (hp:Pure P f args r):Good P o a w (aF Bw w0 ρ φ h w new r []):=by
 simp only[V]at hf;obtain⟨X,Y,Z,a1⟩:=hf;obtain⟨fn,a2,x,p⟩:=hp.fn;have z:∀(C:List ag) (q:QY) (E:List ag) (I:QY),q.length=C.length→VL (Fr (own φ h) Bw w) ρ C (fun k u=>q[k]? = some u)→iL (Fr (own φ h) Bw w) ρ E I→iL (Fr (own φ h) Bw w) ρ (C++E) (q++I):=fun C=>by
  induction C with
  | nil=>intro q E I hl _ D;cases q with | nil=>exact D | cons _ _=>simp at hl
  | cons c C ih =>
   intro q E I hl D hy;cases q with
   | nil=>simp at hl
   | cons u q =>simp only[VL]at D;obtain⟨⟨u',L,q2⟩,q3⟩:=D;simp at L;subst L;exact⟨q2,ih q E I (by simpa using hl) (VL.mono (fun _ _ _ h=>h) (fun _ _ h=>h) (fun k u hk=>by simpa using hk) q3) hy⟩
 have A:=pd m mV.all hl (z N X.toList O _ (by simpa using Z) (VL.mono (fun _ _ _ h=>h) (fun _ _ h=>h) (fun k u hk=>by simpa using hk) a1) hx);have a3:∀k,pG φ h Bw k→k<w.heap.size:=fun k hk=>by
  rcases hk with hk | hk
  ·exact m.uT hk
  ·exact Nat.lt_of_lt_of_le (w0.lt k (m.bw k hk)) m.kp.size
 have B:=hp.calls (pG φ h Bw) w (X++j.map a.eval) m.kp.laid a3 (by simpa using A);refine Good.sc (f:=f) (args:=X++j.map a.eval) (w':=w) ?_ (B.mono fun e w' ⟨v,he,hb,D⟩=>⟨v,he,ρ,φ,?_,?_,fun _ _ h=>h,fun _ _ h=> .inl h,?_⟩)
 ·have n1:¬fn.name = "runtime.NumGoroutine" :=by simpa using x
  have n2:¬fn.body=none:=fun e=>by rw[e]at p;cases p
  simp[execOp,ho,resolve,Y,Deferred.ofValue,invoke,callFunc,a2,n1,n2]
 ·have hF:∀β a v,Fr (own φ h) Bw w β a v→Fr (own φ h) Bw w' β a v:=fun β a v=>Fr.Jo (fun k hk _=>hb.block k hk) (fun k hk=> .inl hk) β a v
  refine⟨fun id ob J=>?_,fun id o k h1 h2 h3=>Nat.lt_of_lt_of_le (m.lt id o k h1 h2 h3) hb.size,m.dj,m.bw,m.ow,m.kp.Dv hb,m.pc⟩;obtain⟨u,L,q2⟩:=m.ob id ob J;exact⟨u,L,OR.mono hF (fun _ _ h=>h) (fun _ h=>h) (fun hl k hk=>hb.block k (m.lt id ob k J hl hk)) q2⟩
 ·exact fun β a v=>Fr.Jo (fun k hk _=>hb.block k hk) (fun k hk=> .inl hk) β a v
 ·refine V.mono (fun β a u hu=>?_) (fun _ _ h=>by cases h) D;exact⟨fun e=>hu.2.1 rfl (.inl e),fun _ e=>hu.2.1 rfl (.inr e),hu.2.2⟩
theorem EF{t e:TypeId}{ti x:TI}{n:Nat}{k:IntKind}(ht:aN P t ti)(hk:ti.k = .ar n e)(f:aN P e x)(q:x.k = .int k)(a b:fh n):
  (Op.equal t (.agg (a.1.map (Value.int k)).toArray) (.agg (b.1.map (Value.int k)).toArray)).run P w = .ok (Hr a b) w:=by
 obtain⟨d,A,j⟩:=ht.hu;rw[hk]at j;simp only[UK]at j;subst j;obtain⟨M,B,p⟩:=f.hu;rw[q]at p;simp only[UK]at p;subst p;obtain⟨i,z,hi,_,C,_⟩:=f.hi;have D:x.size=1:=f.ha (by rw[q];rfl);have hc:P.cellsOf e=1:=by simp[Program.cellsOf,hi,C,D]
 obtain⟨r,I,J⟩:=ny (P:=P) B 9998 w (l1:=a.1) (l2:=b.1) (List.range n) (fun i hi=>by simp at hi;rw[a.2,b.2];omega);have L:r=Hr a b:=by
  rw[Bool.eq_iff_iff,J];unfold Hr;rw[beq_iff_eq];constructor
  ·intro E;refine List.ext_getElem? fun i=>?_
   rcases Nat.lt_or_ge i n with u | u
   ·exact E i (by simpa using u)
   ·rw[List.getElem?_eq_none (by rw[a.2];exact u),List.getElem?_eq_none (by rw[b.2];exact u)]
  ·intro E i _;rw[E]
 unfold Op.equal Op.maxDepth;rw[show(10000:Nat)=9999+1 from rfl,run_equalIn_array w 9999 _ _ A hi,hc,←L];exact I
end
end Go.Tv
