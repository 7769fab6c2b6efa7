import Derived.Test.YtmcemnfjddoejaaGreatDoorTvKhm
namespace Go.Tv
open Go Go.RowKit
def My(k:IntKind):ag→Bool
 | .p _ (.int c) x=>decide (c=k) && (show Int from x) == 0
 | _=>false
theorem zZ{F:Bool→Addr→Value→Prop}{ρ:Nat→QW}{k:IntKind}{n:Nat}{c:fb n}{f:List ag}{v:Value}(h:V F ρ (.lag k n c f) v):
  ∃e:QU,v = .agg e∧e.size=n+f.length∧(∀i (h:i<c.1.length),e[i]? = some (.int k c.1[i]))∧VL F ρ f (fun j u=>e[n+j]? = some u):=by
 simp only[V]at h;obtain⟨e,rfl,p,q⟩:=h;refine⟨_,rfl,by simp[p,c.2],fun i hi=>?_,VL.mono (fun _ _ _ h=>h) (fun _ _ h=>h) (fun j u x=>?_) q⟩
 ·simp only[List.getElem?_toArray];rw[List.getElem?_append_left (by simpa using hi)];simp[hi]
 ·simp only[List.getElem?_toArray];rw[List.getElem?_append_right (by simp[c.2])];simpa [c.2]using x
theorem IZ{F:Bool→Addr→Value→Prop}{ρ:Nat→QW}{k:IntKind}{n:Nat}{c:fb n}{p:List ag}{e:QU}(q:e.size=n+p.length)(z:∀i (h:i<c.1.length),e[i]? = some (.int k c.1[i]))(A:VL F ρ p (fun j u=>e[n+j]? = some u)):
  V F ρ (.lag k n c p) (.agg e):=by
 simp only[V];refine⟨e.toList.drop n,?_,by simp[q],VL.mono (fun _ _ _ h=>h) (fun _ _ h=>h) (fun j u B=>by rw[List.getElem?_drop,Array.getElem?_toList];exact B) A⟩;have:e.toList=c.1.map (Value.int k)++e.toList.drop n:=by
  refine List.ext_getElem? fun i=>?_
  rcases Nat.lt_or_ge i n with hi | hi
  ·have f:i<c.1.length:=by rw[c.2];exact hi
   rw[List.getElem?_append_left (by simpa using f),Array.getElem?_toList,z i f];simp[f]
  ·rw[List.getElem?_append_right (by simp[c.2];exact hi),List.getElem?_drop];congr 1;simp[c.2];omega
 rw[←this]
theorem F4{F:Bool→Addr→Value→Prop}{ρ:Nat→QW}{k:IntKind}{n:Nat}{f:List ag}{v:Value}(hz:(f.take n).all (My k)=true)(hn:n≤f.length)(h:V F ρ (.agg f) v):V F ρ (.lag k n (dv n) (f.drop n)) v:=by
 simp only[V]at h;obtain⟨B,rfl,q,hl⟩:=h;refine IZ (by simp[q];omega) (fun i hi=>?_) (VL.mono (fun _ _ _ h=>h) (fun _ _ h=>h) (fun _ _ h=>h) (VL.drop (n:=n) hl));have j:i<n:=by simpa [dv]using hi
 have hd:i<f.length:=by omega
 obtain⟨u,z,p⟩:=VL.get hl (List.getElem?_eq_getElem hd);have c:My k f[i]=true:=List.all_eq_true.1 hz _ (by
  refine List.mem_of_getElem? (i:=i) ?_;rw[List.getElem?_take,if_pos j,List.getElem?_eq_getElem hd])
 rw[z];unfold My at c;split at c
 ·rename_i β C x e;simp only[Bool.and_eq_true,decide_eq_true_eq,beq_iff_eq]at c;obtain⟨rfl,A⟩:=c;rw[e]at p;rw[bR p];have:(x:Int)=0:=A;simp only[dv,List.getElem_replicate];rw[this]
 ·cases c
section
variable{P:Program}{Bw:Nat→Prop}{w0:cu P}{ρ:Nat→QW}{φ:Nat→Nat→Prop}{h:Nat→Qz}{w:World}{new:Nat}
theorem C9(m:Mem Bw w0 ρ φ h w)(hn:ρ new=none){k:IntKind}{n:Nat}{p:fb n}{q:List ag}{arr:QU}{z:TypeId}(B:arr.size=n+q.length)(C:∀i (h:i<p.1.length),arr[i]? = some (.int k p.1[i]))
  (hl:VL (Fr (own φ h) Bw w) ρ q (fun j u=>arr[n+j]? = some u)) (sz:Nat) :
  aG Bw w0 ρ φ h w new (.adr new 0 sz 0) [(new,some (.lmp k n p q))] (.pointer (some ⟨w.heap.size,0,none⟩)) (w.alloc (.cells arr z)):=by
 refine cN m none new (.lmp k n p q) (.pointer (some ⟨w.heap.size,0,none⟩)) none (World.grownBy_alloc w _ none) (fun k e=>by cases e) (.inl hn) (fun _ k hk=>?_) (fun F' x A c=>?_)
  (by rw[bp];rfl) (fun _=>rfl) (fun F' x A c f=>?_)
 ·simp only[dg,Option.some.injEq]at hk;exact .inl (by omega)
 ·exact⟨_,z,arr,rfl,rfl,heap_alloc_new w _,B,C,VL.mono A c (fun _ _ h=>h) hl⟩
 ·simp only[V];exact⟨_,.inl f,by simp⟩
theorem Cz(m:Mem Bw w0 ρ φ h w)(hn:ρ new=none){o:Oper}{a:Act}{t:TypeId}{ti:TI}(ht:aP P t ti)(j:o.op = .alloc t){k:IntKind}{n:Nat}(hz:(ti.z.take n).all (My k)=true)(c:n≤ti.z.length):
  Good P o a w (aG Bw w0 ρ φ h w new (.adr new 0 ti.size 0) [(new,some (.lmp k n (dv n) (ti.z.drop n)))]):=by
 obtain⟨z,p,f,B,C⟩:=dy ht w;have q:V (Fr (own φ h) Bw w) ρ (.agg ti.z) (.agg z.cells):=by simp only[V];refine⟨z.cells,rfl,by rw[←f];simp,?_⟩;rw[←f];have:=gv (F:=Fr (own φ h) Bw w) (ρ:=ρ) z.cells.toList;simpa using this
 obtain⟨D,e,u,x,A⟩:=zZ (F4 hz c q);cases e;exact Good.aH (v:= .pointer (some ⟨w.heap.size,0,none⟩)) (w':=w.alloc (.cells z.cells t)) (by simp[execOp,j,Instr.alloc,p,newVar,newRow]) (C9 m hn u x A _)
theorem Gu(m:Mem Bw w0 ρ φ h w)(hn:ρ new=none){o:Oper}{a:Act}{t:TypeId}{xo:Operand}{k:IntKind}{n:Nat}{c:fb n}{f:List ag}(j:V (Fr (own φ h) Bw w) ρ (.lag k n c f) (a.eval xo))
  (p:o.op = .box t xo) (sz:Nat):Good P o a w (aG Bw w0 ρ φ h w new (.adr new 0 sz 0) [(new,some (.lmp k n c f))]):=by
 obtain⟨z,e,q,u,x⟩:=zZ j;refine Good.aH (v:= .pointer (some ⟨w.heap.size,0,none⟩)) (w':=w.alloc (.cells (a.eval xo).cells t)) (by simp[execOp,p,Instr.box,newVar,newRow]) ?_;rw[e];exact C9 m hn q u x _
theorem BA(m:Mem Bw w0 ρ φ h w){o:Oper}{a:Act}{t e:TypeId}{ti q:TI}(ht:aP P t ti){n:Nat}(hk:ti.k = .ar n e)(x:aP P e q)(z:q.size=1){xo io:Operand}{id i sz off:Nat}(E:V (Fr (own φ h) Bw w) ρ (.adr id i sz off) (a.eval xo))
  {M:IntKind} {I:Nat} {N:fb I} {O:List ag} (hb:h id=some (.lmp M I N O)) {β:Bool} {k:IntKind} {j:Int} (X:V (Fr (own φ h) Bw w) ρ (.p β (.int k) j) (a.eval io)) (Y:o.op = .indexAddr t xo io) (J:0≤j∧j<(n:Int)) :
  Good P o a w (aG Bw w0 ρ φ h w new (.ada id (i*sz+off) n j.toNat) []):=by
 obtain⟨d,Z,A⟩:=ht.hu;rw[hk]at A;simp only[UK]at A;subst A;obtain⟨u,L,B,a1,cells,rfl,_⟩:=m.ob id _ hb;simp only[V]at E;obtain⟨g,f,he⟩:=E;rw[L]at f;have C:B=g:=by
  rcases f with f | ⟨n,c,f⟩
  ·simpa using f
  ·cases f
 subst C;have D:=bR X;refine Good.aH (v:= .pointer (some ((⟨B,i*sz+off,none⟩:Addr).add (j.toNat*q.size)))) (w':=w) ?_ (aG.pure m ?_)
 ·simp[execOp,Y,Instr.indexAt,asIntOf,D,he,run_underlying Z,Instr.sureAddr,run_sizeOf x,J.1,J.2]
 ·simp only[V];exact⟨B,L,by rw[cf,z,Nat.mul_one],by omega⟩
theorem EI(m:Mem Bw w0 ρ φ h w){o:Oper}{a:Act}{t:TypeId}{ti:TI}(ht:aP P t ti){k:IntKind}(hk:ti.k = .int k){xo:Operand}{id n i:Nat}(q:V (Fr (own φ h) Bw w) ρ (.ada id 0 n i) (a.eval xo))
  (z:o.op = .load t xo) {c:fb n} {A:List ag} (hb:h id=some (.lmp k n c A)):Good P o a w (aG Bw w0 ρ φ h w new (.p false (.int k) (fA c i)) []):=by
 obtain⟨u,B,f,j,cells,rfl,_,C,J,D,L⟩:=m.ob id _ hb;simp only[V]at q;obtain⟨g,x,E,hi⟩:=q;rw[B]at x;obtain rfl:f=g:=by simpa using x
 have e:i<c.1.length:=by rw[c.2];exact hi
 have I:w.cell? (⟨f,0+i,none⟩:Addr)=some (.int k (fA c i)):=by rw[cell_of_row w f (0+i) cells j (0,0) C,Nat.zero_add,D i e];simp[fA,e]
 refine Good.aH (v:= .int k (fA c i)) (w':=w) ?_ (aG.pure m (dC _ _ _));simp only[execOp,z,Instr.loadAt,E,Instr.sureAddr,Sem.run_bind,Sem.run_pure,Result.andThen_ok];unfold loadVar;rw[Sem.run_bind,lf ht,hk];simp only[Result.andThen_ok,TK.agg];rw[if_neg (by simp),run_load,I];rfl
theorem Dg(m:Mem Bw w0 ρ φ h w){o:Oper}{a:Act}{t:TypeId}{ti:TI}(ht:aP P t ti)(z:ti.size=1){k:IntKind}{xo yo:Operand}{id n i:Nat}(L:V (Fr (own φ h) Bw w) ρ (.ada id 0 n i) (a.eval xo))
  {β:Bool} {v:Int} (hy:V (Fr (own φ h) Bw w) ρ (.p β (.int k) v) (a.eval yo)) (ho:o.op = .store t xo yo) {x:fb n} {A:List ag} (hb:h id=some (.lmp k n x A)) :
  Good P o a w (aG Bw w0 ρ φ h w new .unk [(id,some (.lmp k n (tJ x i v) A))]):=by
 obtain⟨u,B,g,M,cells,rfl,C,N,O,r3,r4⟩:=m.ob id _ hb;simp only[V]at L;obtain⟨g',X,he,hi⟩:=L;rw[B]at X;obtain rfl:g=g':=by simpa using X
 have c:=bR hy;have f:=qT (P:=P) ht z N (v:=a.eval yo) (p:=i) (by omega) (.inl rfl) (by rw[c];rfl) (by rw[c];rfl);have D:a.eval xo = .pointer (some ⟨g,i,none⟩):=by rw[he];simp
 refine Good.jM (w':=_) (by simp[execOp,ho,Instr.storeAt,D,Instr.sureAddr,f];rfl) ?_;refine dW m (some id) id (.lmp k n (tJ x i v) A) (.pointer (some ⟨g,0,none⟩)) (φ id) (some g) (bd w g _) (fun k e=>⟨id,_,rfl,hb,rfl,by cases e;assumption⟩) (.inr ⟨rfl,B⟩)
  (fun _ k hk=>Nat.lt_of_lt_of_le (m.lt id _ k hb rfl hk) (bd w g _).size) (fun _ k hk=> .inr ⟨id,_,rfl,hb,rfl,hk⟩) (fun F' E Y q=>?_) (by rw[bg];rfl) (fun e=>by rw[B]at e;cases e) (fun F' E Y q Z=>by simp only[V])
 refine⟨g,M,_,rfl,C,setRow_heap w g cells _ M _ N,by simpa using O,fun j I=>?_,VL.mono Y q (fun j u I=>?_) r4⟩
 ·have J:j<x.1.length:=by simpa [tJ]using I
  simp only[tJ];by_cases e:i=j
  ·subst e;rw[c,Array.getElem?_setIfInBounds_self_of_lt (by rw[O];omega)];simp
  ·rw[Array.getElem?_setIfInBounds_ne e,List.getElem_set_ne e];exact r3 j J
 ·rw[Array.getElem?_setIfInBounds_ne (by omega)];exact I
theorem zI(m:Mem Bw w0 ρ φ h w){k:IntKind}{n:Nat}{A:fb n}{B:List ag}{id i sz off:Nat}(hb:h id=some (.lmp k n A B)){v:Value}(I:V (Fr (own φ h) Bw w) ρ (.adr id i sz off) v):
  ∃g,v = .pointer (some ⟨g,i*sz+off,none⟩)∧VL (Fr (own φ h) Bw w) ρ B (fun j u=>w.cell? ((⟨g,n,none⟩:Addr).add j)=some u)∧VL (Fr (own φ h) Bw w) ρ (A.1.map (fun i=>ag.p false (.int k) i)++B) (fun j u=>w.cell? ((⟨g,0,none⟩:Addr).add j)=some u):=by
 obtain⟨u,L,q,e,cells,rfl,_,C,O,M,J⟩:=m.ob id _ hb;simp only[V]at I;obtain⟨g,f,N⟩:=I;rw[L]at f;have D:q=g:=by
  rcases f with f | ⟨n,c,f⟩
  ·simpa using f
  ·cases f
 subst D;refine⟨q,N,VL.mono (fun _ _ _ h=>h) (fun _ _ h=>h) (fun j u E=>?_) J,VL.append (VL.mk fun j y z=>?_) (VL.mono (fun _ _ _ h=>h) (fun _ _ h=>h) (fun j u E=>?_) J)⟩
 ·rw[cf,cell_of_row w q (n+j) cells e (0,0) C];exact E
 ·rw[List.getElem?_map]at z;rcases Nat.lt_or_ge j A.1.length with hl | hl
  ·rw[List.getElem?_eq_getElem hl]at z;cases z;exact⟨_,by rw[cf,cell_of_row w q (0+j) cells e (0,0) C,Nat.zero_add];exact M j hl,dC _ _ _⟩
  ·rw[List.getElem?_eq_none hl]at z;cases z
 ·rw[cf,cell_of_row w q _ cells e (0,0) C,List.length_map,Nat.zero_add,A.2];exact E
theorem By(m:Mem Bw w0 ρ φ h w){o:Oper}{a:Act}{t:TypeId}{ti:TI}(ht:aP P t ti){xo:Operand}{id i sz off:Nat}(j:V (Fr (own φ h) Bw w) ρ (.adr id i sz off) (a.eval xo))(p:o.op = .load t xo)
  {k:IntKind} {n:Nat} {u:fb n} {c:List ag} (hb:h id=some (.lmp k n u c)) {q:Nat} (x:i*sz+off=n+q) {y:ag} (z:eR ti c q=some y):Good P o a w (aG Bw w0 ρ φ h w new y []):=by
 obtain⟨g,e,A,_⟩:=zI m hb j;obtain⟨v,f,B⟩:=gx (P:=P) ht A z;rw[cf]at f;refine Good.aH (v:=v) (w':=w) ?_ (aG.pure m B);simp[execOp,p,Instr.loadAt,e,Instr.sureAddr,x,f]
theorem BQ(m:Mem Bw w0 ρ φ h w){o:Oper}{a:Act}{t:TypeId}{ti:TI}(ht:aP P t ti)(z:ti.k.agg=true){xo:Operand}{id i sz off:Nat}(J:V (Fr (own φ h) Bw w) ρ (.adr id i sz off) (a.eval xo))(L:o.op = .load t xo)
  {k:IntKind} {n:Nat} {f:fb n} {q:List ag} (hb:h id=some (.lmp k n f q)) (M:i*sz+off=0) (B:ti.size=n+q.length):Good P o a w (aG Bw w0 ρ φ h w new (.lag k n f q) []):=by
 obtain⟨g,e,_,N⟩:=zI m hb J;have c:(f.1.map (fun i=>ag.p false (.int k) i)++q).length=ti.size:=by simp[f.2,B]
 obtain⟨v,C,D⟩:=gx (P:=P) ht N (off:=0) (x:= .agg (f.1.map (fun i=>ag.p false (.int k) i)++q)) (by
  unfold eR;rw[z,if_pos rfl,if_pos (by rw[c];omega),List.drop_zero,List.take_of_length_le (by rw[c];exact Nat.le_refl _)])
 have O:V (Fr (own φ h) Bw w) ρ (.lag k n f q) v:=by
  simp only[V]at D;obtain⟨vs,rfl,X,E⟩:=D;refine IZ (by rw[X,c,B]) (fun j A=>?_) (VL.mono (fun _ _ _ h=>h) (fun _ _ h=>h) (fun j u A=>?_) (VL.drop (n:=n) E |> fun Y=>by rwa [List.drop_append_of_le_length (by simp[f.2]),List.drop_of_length_le (by simp[f.2]),List.nil_append]at Y))
  ·obtain⟨u,I,Z⟩:=VL.get E (k:=j) (x:= .p false (.int k) f.1[j]) (by rw[List.getElem?_append_left (by simpa using A),List.getElem?_map,List.getElem?_eq_getElem A];rfl);rw[bR Z]at I;exact I
  ·exact A
 have e0:(⟨g,0,none⟩:Addr).add 0=⟨g,0,none⟩:=by simp[Addr.add]
 rw[e0]at C;refine Good.aH (v:=v) (w':=w) ?_ (aG.pure m O);simp[execOp,L,Instr.loadAt,e,Instr.sureAddr,M,C]
theorem AA(m:Mem Bw w0 ρ φ h w){o:Oper}{a:Act}{t:TypeId}{ti:TI}(ht:aP P t ti){xo yo:Operand}{id i sz off:Nat}(X:V (Fr (own φ h) Bw w) ρ (.adr id i sz off) (a.eval xo))
  {y:ag} (hy:V (Fr (own φ h) Bw w) ρ y (a.eval yo)) (hc:(cellsOf y).all ag.cell=true) (ho:o.op = .store t xo yo) {k:IntKind} {n:Nat} {E:fb n} {A:List ag} (hi:h id=some (.lmp k n E A))
  (f:(cellsOf y).length=ti.size) {q:Nat} (hq:i*sz+off=n+q) (B:q+ti.size≤A.length) :
  Good P o a w (aG Bw w0 ρ φ h w new .unk [(id,some (.lmp k n E (wr A q (cellsOf y))))]):=by
 obtain⟨u,J,g,Y,cells,rfl,L,Z,r2,r3,r4⟩:=m.ob id _ hi;simp only[V]at X;obtain⟨g',z,he⟩:=X;rw[J]at z;have M:g=g':=by
  rcases z with z | ⟨n,c,z⟩
  ·simpa using z
  ·cases z
 subst M;obtain⟨h1,N,h3⟩:=fV hc hy;have C:=gN (P:=P) ht Z (v:=a.eval yo) (p:=n+q) (by rw[N,f]) (by rw[r2];omega) h3;rw[hq]at he;refine Good.jM (w':=_) (by simp[execOp,ho,Instr.storeAt,he,Instr.sureAddr,C];rfl) ?_;refine dW m (some id) id (.lmp k n E (wr A q (cellsOf y))) (.pointer (some ⟨g,0,none⟩)) (φ id) (some g) (bd w g _) (fun k e=>⟨id,_,rfl,hi,rfl,by cases e;assumption⟩) (.inr ⟨rfl,J⟩)
  (fun _ k hk=>Nat.lt_of_lt_of_le (m.lt id _ k hi rfl hk) (bd w g _).size) (fun _ k hk=> .inr ⟨id,_,rfl,hi,rfl,hk⟩) (fun F' D O x=>?_) (by rw[bg];rfl) (fun e=>by rw[J]at e;cases e) (fun F' D O x a1=>by simp only[V])
 refine⟨g,Y,_,rfl,L,setRow_heap w g cells _ Y _ Z,?_,fun j hj=>?_,?_⟩
 ·simp only[List.size_toArray,List.length_append,List.length_take,List.length_drop,Array.length_toList,N,f,wr];omega
 ·have a2:j<n:=by rw[←E.2];exact hj
  simp only[List.getElem?_toArray];rw[List.getElem?_append_left (by simp;omega),List.getElem?_take,if_pos (by omega),Array.getElem?_toList];exact r3 j hj
 ·have h4:VL F' D A (fun k u=>(cells.toList.drop n)[k]? = some u):=VL.mono O x (fun k u hk=>by rw[List.getElem?_drop,Array.getElem?_toList];exact hk) r4;have:=Fq (p:=q) (by rw[f];exact B) (by simp[r2]) N h4 (VL.mono O x (fun _ _ h=>h) h1);rw[f]at this;refine VL.mono (fun _ _ _ h=>h) (fun _ _ h=>h) (fun k u hk=>?_) this;rw[←hk];simp only[List.getElem?_toArray];have e:cells.toList.take (n+q)++((a.eval yo).cells.toList++cells.toList.drop (n+q+ti.size))=cells.toList.take n++((cells.toList.drop n).take q++(a.eval yo).cells.toList++(cells.toList.drop n).drop (q+ti.size)):=by rw[List.take_add,List.drop_drop,Nat.add_assoc];simp only[List.append_assoc]
  rw[e,List.getElem?_append_right (by simp;omega)];congr 1;simp
  omega
/-! ### I -/
theorem ua(m:Mem Bw w0 ρ φ h w){o:Oper}{a:Act}{op:BinOp}(f:op = .add∨op = .sub∨op = .mul∨op = .quo){t u:TypeId}{xo yo:Operand}(z:o.op = .binOp op t xo yo u){β j:Bool}{x y:QJ}
  (A:V (Fr (own φ h) Bw w) ρ (.p β .flt x) (a.eval xo)) (B:V (Fr (own φ h) Bw w) ρ (.p j .flt y) (a.eval yo)):Good P o a w (aG Bw w0 ρ φ h w new (.p false .flt (bW op x y)) []):=by
 obtain⟨p,C,rfl⟩:=zJ A;obtain⟨q,D,rfl⟩:=zJ B;obtain⟨n,w',E,I,J⟩:=ET (P:=P) (w:=w) f p q;have c:(execOp a.eval o).run P w = .ok (.value (.float .f64 n)) w':=by
  simp only[execOp,z,C,D];rw[Sem.run_bind,Sem.run_bind,bJ (by intro N e;cases e) (by intro e;cases e)];have hb:(binOp op t (.float .f64 p) (.float .f64 q)).run P w = .ok (.float .f64 n) w':=by rcases f with rfl | rfl | rfl | rfl <;> (simp only[binOp,ne_eq,not_true_eq_false,if_false];exact E)
  simp only[Result.andThen_ok,hb];rfl
 rw[←J];rcases I with rfl | rfl
 ·exact Good.aH c (aG.pure m (AD _ _))
 ·obtain⟨L,M⟩:=m.drew;exact Good.aH c (aG.after (u1:=[]) rfl M (aG.pure L (AD _ _)))
theorem Dh(m:Mem Bw w0 ρ φ h w){o:Oper}{a:Act}{st j:TypeId}{z q:TI}(A:aP P st z)(hd:aP P j q){k:IntKind}(hk:q.k = .int k){xo:Operand}(B:o.op = .convert st j xo){β:Bool}{x:QJ}
  (C:V (Fr (own φ h) Bw w) ρ (.p β .flt x) (a.eval xo)) (c:(o6 x).isSome=true∧k.min≤(o6 x).getD 0∧(o6 x).getD 0≤k.max):Good P o a w (aG Bw w0 ρ φ h w new (.p false (.int k) ((o6 x).getD 0)) []):=by
 obtain⟨p,D,rfl⟩:=zJ C;obtain⟨E,I,M⟩:=A.hu;obtain⟨N,J,e⟩:=hd.hu;rw[hk]at e;simp only[UK]at e;subst e;cases f:dN p with
 | none=>rw[f]at c;exact absurd c.1 (by simp[o6])
 | some u =>
  obtain rfl:=jP f;rw[f]at c;cases hi:(FloatKind.f64.decode u).toInt .zero with
  | none=>exact absurd c.1 (by simp[o6,hi])
  | some n =>
   have L:o6 (some u)=some n:=by simp[o6,hi]
   rw[L]at c ⊢;simp only[Option.getD_some]at c ⊢;refine Good.aH (v:= .int k n) (w':=w) ?_ (aG.pure m (dC _ _ _));simp only[execOp,B,D,convert,Sem.run_bind,run_underlying I,run_underlying J,Result.andThen_ok];cases E <;> simp[Conv.floatToInt,hi,c.2]
end
theorem rY{P:Program}{w:World}{t t2 ty e:TypeId}{i:TypeInfo}(ht:P.underlying t=some (.slice e))(hi:P.info? e=some i){g off n cap:Nat}{f:QU}{A:TypeId}
  (D:w.heap[g]? = some (.cells f A (0,0))) {ad:Option Addr} {len c:Nat} {cs:QY} (z:cs.length=min len n*i.size) (u:ad=none→cs=[])
  (x:∀b,ad=some b→∀j v,cs[j]? = some v→w.cell? (b.add j)=some v) (B:off+cs.length≤f.size) (E:∀v∈cs,v.oneCell'=true) :
  (Builtin.copy_ #[t,t2] ty #[.slice (some ⟨g,off,none⟩) n cap,.slice ad len c]).run P w =
   .ok (goInt (min len n:Nat)) (w.setRow g (f.toList.take off++cs++f.toList.drop (off+cs.length)).toArray):=by
 have q:=run_storeCells_at P g off A cs 0 f w D (by omega) E;simp only[Nat.add_zero]at q;have C:Nat.min len n=min len n:=rfl;cases ad with
 | none =>
  have:=u rfl;subst this;simp[Builtin.copy_,run_underlying ht,Builtin.lenOf,Builtin.firstCells,sizeOf,typeInfo,hi,q,C]
 | some b =>
  have hl:=run_loadCells_list (P:=P) w b cs (x b rfl);rw[z]at hl;simp[Builtin.copy_,run_underlying ht,Builtin.lenOf,Builtin.firstCells,sizeOf,typeInfo,hi,hl,q,C]
section
variable{P:Program}{Bw:Nat→Prop}{w0:cu P}{ρ:Nat→QW}{φ:Nat→Nat→Prop}{h:Nat→Qz}{w:World}{new:Nat}
theorem I1(m:Mem Bw w0 ρ φ h w){id:Nat}{z:TypeId}{A:Ty}{c:List A.den}(f:h id=some (.arr z A c)){v:Value}(q:V (Fr (own φ h) Bw w) ρ (.sl id) v):∃ad cap,v = .slice ad c.length cap∧c.length≤cap:=by
 obtain⟨u,x,B,hA,cells,C,E⟩:=m.ob id _ f;simp only[V]at q;rw[q.1]at x;cases x;rcases C.2 with⟨e,j⟩ | ⟨g,cap,D,e,hb,I,p,_⟩
 ·exact⟨none,0,by rw[e,j],by omega⟩
 ·exact⟨_,cap,e,p⟩
theorem C8(m:Mem Bw w0 ρ φ h w){o:Oper}{a:Act}{t e:TypeId}{ti x:TI}(ht:aP P t ti)(hk:ti.k = .sl e)(j:aP P e x){A:Ty}{xo lo:Operand}(C:o.op = .slice t xo (some lo) none none)
  {id:Nat} {D:TypeId} {f:List A.den} (q:h id=some (.arr D A f)) (u:V (Fr (own φ h) Bw w) ρ (.sl id) (a.eval xo)) {β:Bool} {k:IntKind} {l:Int} (hl:V (Fr (own φ h) Bw w) ρ (.p β (.int k) l) (a.eval lo))
  (E:0≤l) (I:l≤f.length):Good P o a w (aG Bw w0 ρ φ h w new (.suf id l.toNat x.size) []):=by
 obtain⟨ad,cap,z,B⟩:=I1 m q u;simp only[V]at u;have c:=mu (P:=P) (w:=w) (F:=Fr (own φ h) Bw w) (ρ:=ρ) (a:=a) ht hk j (ad:=ad) (len:=f.length) (cap:=cap) (lo:=some lo) (hi:=none) (l:=some l) (r:=none) ⟨β,k,hl⟩ trivial (by simpa using E) (by simpa using I) (by simp) B;simp only[Option.map_none,Option.map_some,Option.getD_none,Option.getD_some]at c;refine Good.aH (v:=_) (w':=w) (by simp only[execOp,C,z,Option.map_none,Option.map_some,Sem.run_bind]at c ⊢;rw[c];rfl) (aG.pure m ?_);simp only[V];exact⟨ad,f.length,cap,by rw[u.1,z],by omega,B,by simp⟩
theorem A3(m:Mem Bw w0 ρ φ h w){o:Oper}{a:Act}{t t2 e:TypeId}{ti te:TI}(ht:aP P t ti)(hk:ti.k = .sl e)(aa:aP P e te){A:Ty}(hT:te.T=some A)
  {xo yo:Operand} {id f:Nat} {y:ag} (hx:V (Fr (own φ h) Bw w) ρ (.suf id f te.size) (a.eval xo)) (hy:V (Fr (own φ h) Bw w) ρ y (a.eval yo)) (ho:o.op = .call { callee:= .builtin .copy,args:= #[xo,yo],argTypes:= #[t,t2] })
  {e':TypeId} {q x:List A.den} (a3:h id=some (.arr e' A q)) (bi:eT h A y=some x) :
  Good P o a w (aG Bw w0 ρ φ h w new (.p false (.int .i64) ((min x.length (q.length - f):Nat):Int)) [(id,some (.arr e' A (q.take f++(x.take (q.length - f)++q.drop (f+x.length)))))]):=by
 obtain⟨i,z,hi,hz,a4,be,cp,d1,d2⟩:=aa.hi;obtain⟨ac,d3,d4⟩:=aa.hT A hT;have hu:=aY ht hk;have b1:i.size=A.size:=by rw[a4,ac]
 obtain⟨ad,len,c,b2,b3,b4,cc⟩:=hN m bi hy;obtain⟨u,q1,bs,hA,cells,r1,r2⟩:=m.ob id _ a3;simp only[V]at hx;obtain⟨ax,nx,cx,b5,d5,d6,b6⟩:=hx;rw[q1]at b5;cases b5;subst b3;have bv:nx=q.length:=by
  rcases r1.2 with⟨D,hn⟩ | ⟨g,cap,a5,D,_⟩
  ·simp only[Value.slice.injEq]at D;omega
  ·simp only[Value.slice.injEq]at D;exact D.2.1
 subst bv;by_cases J:min x.length (q.length - f)=0
 ·-- nothing to copy
  have a6:q.take f++(x.take (q.length - f)++q.drop (f+x.length))=q:=by
   rcases Nat.eq_zero_or_pos x.length with e0 | e0
   ·have:x=[]:=List.eq_nil_of_length_eq_zero e0;subst this;simp
   ·have:q.length - f=0:=by omega
    rw[this,List.take_of_length_le (by omega),List.drop_of_length_le (by omega)];simp
  have N:(Builtin.copy_ #[t,t2] o.type #[a.eval xo,a.eval yo]).run P w = .ok (goInt (min x.length (q.length - f):Nat)) w:=by
   rw[b6,b2];have key:∀(d:Option Addr),(Builtin.copy_ #[t,t2] o.type #[.slice d (q.length - f) (cx - f),.slice ad x.length c]).run P w = .ok (goInt (min x.length (q.length - f):Nat)) w:=fun d=>by
    have hm:Nat.min x.length (q.length - f)=0:=J;have bx:∀b:Addr,(loadCells b 0).run P w = .ok #[] w:=fun b=>by have:=run_loadCells_list (P:=P) w b [] (fun j v L=>by simp at L);simpa using this
    cases d <;> cases ad <;> simp[Builtin.copy_,run_underlying hu,Builtin.lenOf,Builtin.firstCells,sizeOf,typeInfo,hi,hm,J,bx,storeCells]
   exact key _
  refine Good.aH (v:=goInt (min x.length (q.length - f):Nat)) (w':=w) (by simp only[execOp,ho,resolve,invoke,builtin,Sem.run_bind,Sem.run_pure,Result.andThen_ok,List.map_toArray,List.map_cons,List.map_nil,N]) ?_;have I:apply [(id,some (Obj.arr e' A (q.take f++(x.take (q.length - f)++q.drop (f+x.length)))))] h=h:=by
   rw[a6];funext k;simp only[apply,bq];split
   ·rename_i e2;rw[e2,a3]
   ·rfl
  have Y:V (Fr (own φ h) Bw w) ρ (.p false (.int .i64) ((min x.length (q.length - f):Nat):Int)) (goInt (min x.length (q.length - f):Nat)):=by simp only[V,ai];exact⟨rfl,rfl⟩
  refine⟨ρ,φ,by rw[I];exact m,by rw[I];exact fun _ _ _ h=>h,fun _ _ h=>h,fun _ _ h=> .inl h,?_⟩;rw[I];exact Y
 ·rcases r1.2 with⟨D,hn⟩ | ⟨g,cap,a5,D,_,O,X,a7,b7,a8⟩
  ·omega
  simp only[Value.slice.injEq]at D;obtain⟨rfl,_,rfl⟩:=D;have c1:0<x.length:=by omega
  obtain⟨b,Z,_⟩:=b4 0 c1;subst Z;obtain⟨b8,n1,n2,n3⟩:=kZ (g:=fun k v=>w.cell? (b.add k)=some v) (fun i c2=>by
   obtain⟨b',E,e2⟩:=b4 i c2;cases E;exact e2)
  have b9:=oI n1 n3;have a9:cells.length=q.length*A.size:=r1.1;have c3:q.length*A.size≤cx*A.size:=Nat.mul_le_mul_right _ X;generalize a2:min x.length (q.length - f)=C at *;have c4:C≤x.length:=by omega
  have c5:f+C≤q.length:=by omega
  have d7:C*A.size≤x.length*A.size:=Nat.mul_le_mul_right _ c4;have d8:f*A.size+C*A.size≤q.length*A.size:=by rw[←Nat.add_mul];exact Nat.mul_le_mul_right _ c5
  let cs:=b8.take (C*A.size)
  have M:cs.length=C*A.size:=by simp only[cs,List.length_take,n1];omega
  have c6:a.eval xo = .slice (some ⟨g,f*A.size,none⟩) (q.length - f) (cx - f):=by rw[b6,if_neg (by omega)];simp only[Option.map_some];rw[cf,Nat.zero_add,ac]
  have N:=rY (P:=P) (w:=w) (t2:=t2) (ty:=o.type) hu hi O (off:=f*A.size) (n:=q.length - f) (cap:=cx - f) (ad:=some b) (len:=x.length) (c:=c) (cs:=cs) (by rw[M,b1,a2])
   (fun E=>by cases E)
   (fun b' E j v L=>by
    cases E;refine n2 j v ?_;simp only[cs,List.getElem?_take]at L;split at L
    ·exact L
    ·cases L) (by rw[M,b7];omega) (fun v Y=>b9 v (List.mem_of_mem_take Y))
  refine Good.aH (v:=_) (w':=_) (by simp only[execOp,ho,resolve,invoke,builtin,Sem.run_bind,Sem.run_pure,Result.andThen_ok,List.map_toArray,List.map_cons,List.map_nil,c6,b2,N];rfl) ?_;have B:(q.take f++(x.take (q.length - f)++q.drop (f+x.length))).length=q.length:=by simp only[List.length_append,List.length_take,List.length_drop];omega
  rw[a2];refine cN m (some id) id (.arr e' A (q.take f++(x.take (q.length - f)++q.drop (f+x.length)))) (.slice (some ⟨g,0,none⟩) q.length cx) (some g) (bd w g _) (fun k E=>⟨id,_,rfl,a3,rfl,bs _ (by simpa [dg]using E)⟩) (.inr ⟨rfl,q1⟩)
   (fun _ k a1=> .inr (by simpa [dg]using a1)) (fun F' c7 hF c8=>?_) (by rw[bg];rfl) (fun E=>by rw[q1]at E;cases E) (fun F' c7 hF c8 ch=>by simp only[V,ai];exact⟨rfl,rfl⟩)
  refine⟨fun _ h=>h,hA,cells.take (f*A.size)++cs++cells.drop (f*A.size+cs.length),⟨?_,.inr ⟨g,cx,_,?_,Nat.zero_le _,setRow_heap w g a5 _ e' _ O,?_,a7,?_,?_⟩⟩,fun j L=>?_⟩
  ·simp only[List.length_append,List.length_take,List.length_drop,M,a9,B];omega
  ·rw[B]
  ·rw[B];exact X
  ·simp only[List.size_toArray,List.length_append,List.length_take,List.length_drop,Array.length_toList,M];omega
  ·rw[B,←a8];have:=uW (l:=a5.toList) (vs:=cs) (p:=f*A.size) (m:=cs.length) (n:=q.length*A.size) rfl (by omega) (by simp only[Array.length_toList];omega);simpa using this
  ·rw[B]at L;have d9:j*A.size+A.size≤q.length*A.size:=by rw[←Nat.succ_mul];exact Nat.mul_le_mul_right _ L
   by_cases c9:j<f
   ·have cl:j*A.size+A.size≤f*A.size:=by rw[←Nat.succ_mul];exact Nat.mul_le_mul_right _ c9
    have E:(q.take f++(x.take (q.length - f)++q.drop (f+x.length)))[j]'(by rw[B];exact L)=q[j]:=by rw[List.getElem_append_left (by simp only[List.length_take];omega)];simp
    rw[E];refine ai.mono (hF _) (fun _ _ h=>h) (ai.gB (fun k v a1 Y=>?_) (r2 j L));rw[iC (n:=cs.length) (by omega) rfl (.inl (by omega))];exact Y
   ·by_cases dd:j<f+C
    ·have E:(q.take f++(x.take (q.length - f)++q.drop (f+x.length)))[j]'(by rw[B];exact L)=x[j - f]'(by omega):=by rw[List.getElem_append_right (by simp only[List.length_take];omega),List.getElem_append_left (by simp only[List.length_take];omega)];simp only[List.length_take,List.getElem_take];congr 1;omega
     rw[E];refine ai.mono (hF _) (fun _ _ h=>h) (ai.gB (fun k v a1 Y=>?_) (n3 (j - f) (by omega)));have Z:f*A.size≤j*A.size:=Nat.mul_le_mul_right _ (by omega);have de:(j - f)*A.size=j*A.size - f*A.size:=Nat.sub_mul _ _ _;have di:(j - f)*A.size+A.size≤C*A.size:=by rw[←Nat.succ_mul];exact Nat.mul_le_mul_right _ (by omega)
     rw[List.append_assoc,List.getElem?_append_right (by simp only[List.length_take];omega),List.getElem?_append_left (by simp only[List.length_take,M,a9];omega)];simp only[cs,List.getElem?_take,List.length_take,a9];rw[if_pos (by omega),←Y];congr 1;omega
    ·have dk:C=x.length:=by omega
     have E:(q.take f++(x.take (q.length - f)++q.drop (f+x.length)))[j]'(by rw[B];exact L)=q[j]:=by rw[List.getElem_append_right (by simp only[List.length_take];omega),List.getElem_append_right (by simp only[List.length_take];omega)];simp only[List.length_take,List.getElem_drop];congr 1;omega
     rw[E];refine ai.mono (hF _) (fun _ _ h=>h) (ai.gB (fun k v a1 Y=>?_) (r2 j L));have Z:(f+C)*A.size≤j*A.size:=Nat.mul_le_mul_right _ (by omega);rw[Nat.add_mul]at Z;rw[iC (n:=cs.length) (by omega) rfl (.inr (by rw[M];omega))];exact Y
theorem yV(m:Mem Bw w0 ρ φ h w){o:Oper}{a:Act}{f:FuncId}{p:Array Operand}(A:o.op = .makeFunc (.func f) p #[]){c:List ag}(B:iP (Fr (own φ h) Bw w) ρ c (p.toList.map a.eval)):
  Good P o a w (aG Bw w0 ρ φ h w new (.bfn f c) []):=by
 refine Good.aH (v:= .func (.func f) (p.map a.eval) #[]) (w':=w) (by simp[execOp,A,Instr.makeFunc]) (aG.pure m ?_);simp only[V];have key:∀(c:List ag) (e:QY),iP (Fr (own φ h) Bw w) ρ c e→e.length=c.length∧VL (Fr (own φ h) Bw w) ρ c (fun k u=>e[k]? = some u):=fun c=>by
  induction c with
  | nil=>intro e j;cases e with | nil=>exact⟨rfl,by simp only[VL]⟩ | cons _ _=>exact j.elim
  | cons x c C =>
   intro e j;cases e with
   | nil=>exact j.elim
   | cons v e =>obtain⟨q,z⟩:=C e j.2;simp only[VL];exact⟨by simp[q],⟨v,rfl,j.1⟩,VL.mono (fun _ _ _ h=>h) (fun _ _ h=>h) (fun k u hk=>by simpa using hk) z⟩
 obtain⟨q,z⟩:=key _ _ B;exact⟨_,rfl,by simpa using q,VL.mono (fun _ _ _ h=>h) (fun _ _ h=>h) (fun k u hk=>by simpa using hk) z⟩
theorem Fe(m:Mem Bw w0 ρ φ h w){o:Oper}{a:Act}{fo:Operand}{j:Array Operand}{M:Array TypeId}(ho:o.op = .call { callee:= .value fo,args:=j,argTypes:=M })
  {f:FuncId} {N:List ag} (hf:V (Fr (own φ h) Bw w) ρ (.bfn f N) (a.eval fo)) {O:List ag} (hx:iP (Fr (own φ h) Bw w) ρ O (j.toList.map a.eval)) {args:List ag} (hl:o5 h (N++O)=some args)
  {r:ag} (hp:Pure P f args r):Good P o a w (aG Bw w0 ρ φ h w new r []):=by
 simp only[V]at hf;obtain⟨X,Y,Z,a1⟩:=hf;obtain⟨fn,a2,x,p⟩:=hp.fn;have z:∀(C:List ag) (q:QY) (E:List ag) (I:QY),q.length=C.length→VL (Fr (own φ h) Bw w) ρ C (fun k u=>q[k]? = some u)→iP (Fr (own φ h) Bw w) ρ E I→iP (Fr (own φ h) Bw w) ρ (C++E) (q++I):=fun C=>by
  induction C with
  | nil=>intro q E I hl _ D;cases q with | nil=>exact D | cons _ _=>simp at hl
  | cons c C ih =>
   intro q E I hl D hy;cases q with
   | nil=>simp at hl
   | cons u q =>simp only[VL]at D;obtain⟨⟨u',L,q2⟩,q3⟩:=D;simp at L;subst L;exact⟨q2,ih q E I (by simpa using hl) (VL.mono (fun _ _ _ h=>h) (fun _ _ h=>h) (fun k u hk=>by simpa using hk) q3) hy⟩
 have A:=qg m nj.all hl (z N X.toList O _ (by simpa using Z) (VL.mono (fun _ _ _ h=>h) (fun _ _ h=>h) (fun k u hk=>by simpa using hk) a1) hx);have a3:∀k,qx φ h Bw k→k<w.heap.size:=fun k hk=>by
  rcases hk with hk | hk
  ·exact m.rB hk
  ·exact Nat.lt_of_lt_of_le (w0.lt k (m.bw k hk)) m.kp.size
 have B:=hp.calls (qx φ h Bw) w (X++j.map a.eval) m.kp.laid a3 (by simpa using A);refine Good.td (f:=f) (args:=X++j.map a.eval) (w':=w) ?_ (B.mono fun e w' ⟨v,he,hb,D⟩=>⟨v,he,ρ,φ,?_,?_,fun _ _ h=>h,fun _ _ h=> .inl h,?_⟩)
 ·have n1:¬fn.name = "runtime.NumGoroutine" :=by simpa using x
  have n2:¬fn.body=none:=fun e=>by rw[e]at p;cases p
  simp[execOp,ho,resolve,Y,Deferred.ofValue,invoke,callFunc,a2,n1,n2]
 ·have hF:∀β a v,Fr (own φ h) Bw w β a v→Fr (own φ h) Bw w' β a v:=fun β a v=>Fr.Ls (fun k hk _=>hb.block k hk) (fun k hk=> .inl hk) β a v
  refine⟨fun id ob J=>?_,fun id o k h1 h2 h3=>Nat.lt_of_lt_of_le (m.lt id o k h1 h2 h3) hb.size,m.dj,m.bw,m.ow,m.kp.F7 hb,m.pd⟩;obtain⟨u,L,q2⟩:=m.ob id ob J;exact⟨u,L,OR.mono hF (fun _ _ h=>h) (fun _ h=>h) (fun hl k hk=>hb.block k (m.lt id ob k J hl hk)) q2⟩
 ·exact fun β a v=>Fr.Ls (fun k hk _=>hb.block k hk) (fun k hk=> .inl hk) β a v
 ·refine V.mono (fun β a u hu=>?_) (fun _ _ h=>by cases h) D;exact⟨fun e=>hu.2.1 rfl (.inl e),fun _ e=>hu.2.1 rfl (.inr e),hu.2.2⟩
theorem Hr{t e:TypeId}{ti u:TI}{n:Nat}{k:IntKind}(ht:aP P t ti)(hk:ti.k = .ar n e)(c:aP P e u)(p:u.k = .int k)(a b:fb n):
  (Op.equal t (.agg (a.1.map (Value.int k)).toArray) (.agg (b.1.map (Value.int k)).toArray)).run P w = .ok (JK a b) w:=by
 obtain⟨d,x,f⟩:=ht.hu;rw[hk]at f;simp only[UK]at f;subst f;obtain⟨M,A,j⟩:=c.hu;rw[p]at j;simp only[UK]at j;subst j;obtain⟨i,z,hi,_,B,_⟩:=c.hi;have C:u.size=1:=c.ha (by rw[p];rfl);have E:P.cellsOf e=1:=by simp[Program.cellsOf,hi,B,C]
 obtain⟨r,I,J⟩:=og (P:=P) A 9998 w (l1:=a.1) (l2:=b.1) (List.range n) (fun i hi=>by simp at hi;rw[a.2,b.2];omega);have L:r=JK a b:=by
  rw[Bool.eq_iff_iff,J];unfold JK;rw[beq_iff_eq];constructor
  ·intro D;refine List.ext_getElem? fun i=>?_
   rcases Nat.lt_or_ge i n with q | q
   ·exact D i (by simpa using q)
   ·rw[List.getElem?_eq_none (by rw[a.2];exact q),List.getElem?_eq_none (by rw[b.2];exact q)]
  ·intro D i _;rw[D]
 unfold Op.equal Op.maxDepth;rw[show(10000:Nat)=9999+1 from rfl,run_equalIn_array w 9999 _ _ x hi,E,←L];exact I
end
end Go.Tv
