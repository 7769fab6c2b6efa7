import Derived.Test.YtobbjfkfmdiklaaGreatDoorTvKhm
namespace Go.Tv
open Go Go.RowKit
def LP(k:IntKind):ag→Bool
 | .p _ (.int j) x=>decide (j=k) && (show Int from x) == 0
 | _=>false
theorem yC{F:Bool→Addr→Value→Prop}{ρ:Nat→QW}{k:IntKind}{n:Nat}{p:fh n}{x:List ag}{v:Value}(h:V F ρ (.lag k n p x) v):
  ∃q:QU,v = .agg q∧q.size=n+x.length∧(∀i (h:i<p.1.length),q[i]? = some (.int k p.1[i]))∧VL F ρ x (fun j u=>q[n+j]? = some u):=by
 simp only[V]at h;obtain⟨q,rfl,h1,h2⟩:=h;refine⟨_,rfl,by simp[h1,p.2],fun i hi=>?_,VL.mono (fun _ _ _ h=>h) (fun _ _ h=>h) (fun j u z=>?_) h2⟩
 ·simp only[List.getElem?_toArray];rw[List.getElem?_append_left (by simpa using hi)];simp[hi]
 ·simp only[List.getElem?_toArray];rw[List.getElem?_append_right (by simp[p.2])];simpa [p.2]using z
theorem GH{F:Bool→Addr→Value→Prop}{ρ:Nat→QW}{k:IntKind}{n:Nat}{p:fh n}{A:List ag}{q:QU}(B:q.size=n+A.length)(h1:∀i (h:i<p.1.length),q[i]? = some (.int k p.1[i]))(h2:VL F ρ A (fun j u=>q[n+j]? = some u)):
  V F ρ (.lag k n p A) (.agg q):=by
 simp only[V];refine⟨q.toList.drop n,?_,by simp[B],VL.mono (fun _ _ _ h=>h) (fun _ _ h=>h) (fun j u C=>by rw[List.getElem?_drop,Array.getElem?_toList];exact C) h2⟩;have:q.toList=p.1.map (Value.int k)++q.toList.drop n:=by
  refine List.ext_getElem? fun i=>?_
  rcases Nat.lt_or_ge i n with hi | hi
  ·have z:i<p.1.length:=by rw[p.2];exact hi
   rw[List.getElem?_append_left (by simpa using z),Array.getElem?_toList,h1 i z];simp[z]
  ·rw[List.getElem?_append_right (by simp[p.2];exact hi),List.getElem?_drop];congr 1;simp[p.2];omega
 rw[←this]
theorem E3{F:Bool→Addr→Value→Prop}{ρ:Nat→QW}{k:IntKind}{n:Nat}{p:List ag}{v:Value}(hz:(p.take n).all (LP k)=true)(hn:n≤p.length)(h:V F ρ (.agg p) v):V F ρ (.lag k n (dx n) (p.drop n)) v:=by
 simp only[V]at h;obtain⟨D,rfl,A,hl⟩:=h;refine GH (by simp[A];omega) (fun i hi=>?_) (VL.mono (fun _ _ _ h=>h) (fun _ _ h=>h) (fun _ _ h=>h) (VL.drop (n:=n) hl));have q:i<n:=by simpa [dx]using hi
 have hd:i<p.length:=by omega
 obtain⟨u,B,z⟩:=VL.get hl (List.getElem?_eq_getElem hd);have j:LP k p[i]=true:=List.all_eq_true.1 hz _ (by
  refine List.mem_of_getElem? (i:=i) ?_;rw[List.getElem?_take,if_pos q,List.getElem?_eq_getElem hd])
 rw[B];unfold LP at j;split at j
 ·rename_i β E x e;simp only[Bool.and_eq_true,decide_eq_true_eq,beq_iff_eq]at j;obtain⟨rfl,C⟩:=j;rw[e]at z;rw[bQ z];have:(x:Int)=0:=C;simp only[dx,List.getElem_replicate];rw[this]
 ·cases j
section
variable{P:Program}{Bw:Nat→Prop}{w0:cC P}{ρ:Nat→QW}{φ:Nat→Nat→Prop}{h:Nat→Qz}{w:World}{new:Nat}
theorem A9(m:Mem Bw w0 ρ φ h w)(hn:ρ new=none){k:IntKind}{n:Nat}{x:fh n}{z:List ag}{arr:QU}{B:TypeId}(D:arr.size=n+z.length)(h1:∀i (h:i<x.1.length),arr[i]? = some (.int k x.1[i]))
  (hl:VL (Fr (own φ h) Bw w) ρ z (fun j u=>arr[n+j]? = some u)) (sz:Nat) :
  aF Bw w0 ρ φ h w new (.adr new 0 sz 0) [(new,some (.lmp k n x z))] (.pointer (some ⟨w.heap.size,0,none⟩)) (w.alloc (.cells arr B)):=by
 refine cT m none new (.lmp k n x z) (.pointer (some ⟨w.heap.size,0,none⟩)) none (World.grownBy_alloc w _ none) (fun k e=>by cases e) (.inl hn) (fun _ k hk=>?_) (fun F' A C p=>?_)
  (by rw[bn];rfl) (fun _=>rfl) (fun F' A C p q=>?_)
 ·simp only[dw,Option.some.injEq]at hk;exact .inl (by omega)
 ·exact⟨_,B,arr,rfl,rfl,heap_alloc_new w _,D,h1,VL.mono C p (fun _ _ h=>h) hl⟩
 ·simp only[V];exact⟨_,.inl q,by simp⟩
theorem Bk(m:Mem Bw w0 ρ φ h w)(hn:ρ new=none){o:Oper}{a:Act}{t:TypeId}{ti:TI}(ht:aN P t ti)(p:o.op = .alloc t){k:IntKind}{n:Nat}(hz:(ti.z.take n).all (LP k)=true)(j:n≤ti.z.length):
  Good P o a w (aF Bw w0 ρ φ h w new (.adr new 0 ti.size 0) [(new,some (.lmp k n (dx n) (ti.z.drop n)))]):=by
 obtain⟨z,h1,h2,B,C⟩:=dT ht w;have q:V (Fr (own φ h) Bw w) ρ (.agg ti.z) (.agg z.cells):=by simp only[V];refine⟨z.cells,rfl,by rw[←h2];simp,?_⟩;rw[←h2];have:=gw (F:=Fr (own φ h) Bw w) (ρ:=ρ) z.cells.toList;simpa using this
 obtain⟨D,e,u,x,A⟩:=yC (E3 hz j q);cases e;exact Good.aG (v:= .pointer (some ⟨w.heap.size,0,none⟩)) (w':=w.alloc (.cells z.cells t)) (by simp[execOp,p,Instr.alloc,h1,newVar,newRow]) (A9 m hn u x A _)
theorem F9(m:Mem Bw w0 ρ φ h w)(hn:ρ new=none){o:Oper}{a:Act}{t:TypeId}{xo:Operand}{k:IntKind}{n:Nat}{j:fh n}{p:List ag}(q:V (Fr (own φ h) Bw w) ρ (.lag k n j p) (a.eval xo))
  (u:o.op = .box t xo) (sz:Nat):Good P o a w (aF Bw w0 ρ φ h w new (.adr new 0 sz 0) [(new,some (.lmp k n j p))]):=by
 obtain⟨B,e,x,z,A⟩:=yC q;refine Good.aG (v:= .pointer (some ⟨w.heap.size,0,none⟩)) (w':=w.alloc (.cells (a.eval xo).cells t)) (by simp[execOp,u,Instr.box,newVar,newRow]) ?_;rw[e];exact A9 m hn x z A _
theorem CD(m:Mem Bw w0 ρ φ h w){o:Oper}{a:Act}{t e:TypeId}{ti x:TI}(ht:aN P t ti){n:Nat}(hk:ti.k = .ar n e)(z:aN P e x)(A:x.size=1){xo io:Operand}{id i sz off:Nat}(E:V (Fr (own φ h) Bw w) ρ (.adr id i sz off) (a.eval xo))
  {L:IntKind} {I:Nat} {M:fh I} {N:List ag} (hb:h id=some (.lmp L I M N)) {β:Bool} {k:IntKind} {j:Int} (O:V (Fr (own φ h) Bw w) ρ (.p β (.int k) j) (a.eval io)) (X:o.op = .indexAddr t xo io) (hc:0≤j∧j<(n:Int)) :
  Good P o a w (aF Bw w0 ρ φ h w new (.ada id (i*sz+off) n j.toNat) []):=by
 obtain⟨d,h1,h2⟩:=ht.hu;rw[hk]at h2;simp only[UK]at h2;subst h2;obtain⟨u,J,B,Y,cells,rfl,_⟩:=m.ob id _ hb;simp only[V]at E;obtain⟨g,q,Z⟩:=E;rw[J]at q;have C:B=g:=by
  rcases q with q | ⟨n,c,q⟩
  ·simpa using q
  ·cases q
 subst C;have D:=bQ O;refine Good.aG (v:= .pointer (some ((⟨B,i*sz+off,none⟩:Addr).add (j.toNat*x.size)))) (w':=w) ?_ (aF.pure m ?_)
 ·simp[execOp,X,Instr.indexAt,asIntOf,D,Z,run_underlying h1,Instr.sureAddr,run_sizeOf z,hc.1,hc.2]
 ·simp only[V];exact⟨B,J,by rw[ck,A,Nat.mul_one],by omega⟩
theorem DX(m:Mem Bw w0 ρ φ h w){o:Oper}{a:Act}{t:TypeId}{ti:TI}(ht:aN P t ti){k:IntKind}(hk:ti.k = .int k){xo:Operand}{id n i:Nat}(A:V (Fr (own φ h) Bw w) ρ (.ada id 0 n i) (a.eval xo))
  (C:o.op = .load t xo) {j:fh n} {D:List ag} (hb:h id=some (.lmp k n j D)):Good P o a w (aF Bw w0 ρ φ h w new (.p false (.int k) (fF j i)) []):=by
 obtain⟨u,E,x,z,cells,rfl,_,I,M,J,N⟩:=m.ob id _ hb;simp only[V]at A;obtain⟨g,B,L,hi⟩:=A;rw[E]at B;obtain rfl:x=g:=by simpa using B
 have q:i<j.1.length:=by rw[j.2];exact hi
 have hc:w.cell? (⟨x,0+i,none⟩:Addr)=some (.int k (fF j i)):=by rw[cell_of_row w x (0+i) cells z (0,0) I,Nat.zero_add,J i q];simp[fF,q]
 refine Good.aG (v:= .int k (fF j i)) (w':=w) ?_ (aF.pure m (dF _ _ _));simp only[execOp,C,Instr.loadAt,L,Instr.sureAddr,Sem.run_bind,Sem.run_pure,Result.andThen_ok];unfold loadVar;rw[Sem.run_bind,kY ht,hk];simp only[Result.andThen_ok,TK.agg];rw[if_neg (by simp),run_load,hc];rfl
theorem A6(m:Mem Bw w0 ρ φ h w){o:Oper}{a:Act}{t:TypeId}{ti:TI}(ht:aN P t ti)(B:ti.size=1){k:IntKind}{xo yo:Operand}{id n i:Nat}(N:V (Fr (own φ h) Bw w) ρ (.ada id 0 n i) (a.eval xo))
  {β:Bool} {v:Int} (hy:V (Fr (own φ h) Bw w) ρ (.p β (.int k) v) (a.eval yo)) (ho:o.op = .store t xo yo) {A:fh n} {C:List ag} (hb:h id=some (.lmp k n A C)) :
  Good P o a w (aF Bw w0 ρ φ h w new .unk [(id,some (.lmp k n (rW A i v) C))]):=by
 obtain⟨u,D,g,O,cells,rfl,E,X,Y,r3,r4⟩:=m.ob id _ hb;simp only[V]at N;obtain⟨g',Z,he,hi⟩:=N;rw[D]at Z;obtain rfl:g=g':=by simpa using Z
 have q:=bQ hy;have x:=qh (P:=P) ht B X (v:=a.eval yo) (p:=i) (by omega) (.inl rfl) (by rw[q];rfl) (by rw[q];rfl);have I:a.eval xo = .pointer (some ⟨g,i,none⟩):=by rw[he];simp
 refine Good.jN (w':=_) (by simp[execOp,ho,Instr.storeAt,I,Instr.sureAddr,x];rfl) ?_;refine dW m (some id) id (.lmp k n (rW A i v) C) (.pointer (some ⟨g,0,none⟩)) (φ id) (some g) (aZ w g _) (fun k e=>⟨id,_,rfl,hb,rfl,by cases e;assumption⟩) (.inr ⟨rfl,D⟩)
  (fun _ k hk=>Nat.lt_of_lt_of_le (m.lt id _ k hb rfl hk) (aZ w g _).size) (fun _ k hk=> .inr ⟨id,_,rfl,hb,rfl,hk⟩) (fun F' J hF z=>?_) (by rw[bm];rfl) (fun e=>by rw[D]at e;cases e) (fun F' J hF z a1=>by simp only[V])
 refine⟨g,O,_,rfl,E,setRow_heap w g cells _ O _ X,by simpa using Y,fun j L=>?_,VL.mono hF z (fun j u L=>?_) r4⟩
 ·have M:j<A.1.length:=by simpa [rW]using L
  simp only[rW];by_cases e:i=j
  ·subst e;rw[q,Array.getElem?_setIfInBounds_self_of_lt (by rw[Y];omega)];simp
  ·rw[Array.getElem?_setIfInBounds_ne e,List.getElem_set_ne e];exact r3 j M
 ·rw[Array.getElem?_setIfInBounds_ne (by omega)];exact L
theorem ym(m:Mem Bw w0 ρ φ h w){k:IntKind}{n:Nat}{C:fh n}{D:List ag}{id i sz off:Nat}(hb:h id=some (.lmp k n C D)){v:Value}(L:V (Fr (own φ h) Bw w) ρ (.adr id i sz off) v):
  ∃g,v = .pointer (some ⟨g,i*sz+off,none⟩)∧VL (Fr (own φ h) Bw w) ρ D (fun j u=>w.cell? ((⟨g,n,none⟩:Addr).add j)=some u)∧VL (Fr (own φ h) Bw w) ρ (C.1.map (fun i=>ag.p false (.int k) i)++D) (fun j u=>w.cell? ((⟨g,0,none⟩:Addr).add j)=some u):=by
 obtain⟨u,N,A,q,cells,rfl,_,E,Y,O,M⟩:=m.ob id _ hb;simp only[V]at L;obtain⟨g,z,X⟩:=L;rw[N]at z;have I:A=g:=by
  rcases z with z | ⟨n,c,z⟩
  ·simpa using z
  ·cases z
 subst I;refine⟨A,X,VL.mono (fun _ _ _ h=>h) (fun _ _ h=>h) (fun j u J=>?_) M,VL.append (VL.mk fun j y B=>?_) (VL.mono (fun _ _ _ h=>h) (fun _ _ h=>h) (fun j u J=>?_) M)⟩
 ·rw[ck,cell_of_row w A (n+j) cells q (0,0) E];exact J
 ·rw[List.getElem?_map]at B;rcases Nat.lt_or_ge j C.1.length with hl | hl
  ·rw[List.getElem?_eq_getElem hl]at B;cases B;exact⟨_,by rw[ck,cell_of_row w A (0+j) cells q (0,0) E,Nat.zero_add];exact O j hl,dF _ _ _⟩
  ·rw[List.getElem?_eq_none hl]at B;cases B
 ·rw[ck,cell_of_row w A _ cells q (0,0) E,List.length_map,Nat.zero_add,C.2];exact J
theorem AY(m:Mem Bw w0 ρ φ h w){o:Oper}{a:Act}{t:TypeId}{ti:TI}(ht:aN P t ti){xo:Operand}{id i sz off:Nat}(u:V (Fr (own φ h) Bw w) ρ (.adr id i sz off) (a.eval xo))(x:o.op = .load t xo)
  {k:IntKind} {n:Nat} {z:fh n} {j:List ag} (hb:h id=some (.lmp k n z j)) {q:Nat} (A:i*sz+off=n+q) {y:ag} (B:gq ti j q=some y):Good P o a w (aF Bw w0 ρ φ h w new y []):=by
 obtain⟨g,e,h1,_⟩:=ym m hb u;obtain⟨v,p,C⟩:=iO (P:=P) ht h1 B;rw[ck]at p;refine Good.aG (v:=v) (w':=w) ?_ (aF.pure m C);simp[execOp,x,Instr.loadAt,e,Instr.sureAddr,A,p]
theorem BY(m:Mem Bw w0 ρ φ h w){o:Oper}{a:Act}{t:TypeId}{ti:TI}(ht:aN P t ti)(B:ti.k.agg=true){xo:Operand}{id i sz off:Nat}(M:V (Fr (own φ h) Bw w) ρ (.adr id i sz off) (a.eval xo))(N:o.op = .load t xo)
  {k:IntKind} {n:Nat} {z:fh n} {A:List ag} (hb:h id=some (.lmp k n z A)) (O:i*sz+off=0) (D:ti.size=n+A.length):Good P o a w (aF Bw w0 ρ φ h w new (.lag k n z A) []):=by
 obtain⟨g,e,_,h1⟩:=ym m hb M;have q:(z.1.map (fun i=>ag.p false (.int k) i)++A).length=ti.size:=by simp[z.2,D]
 obtain⟨v,E,I⟩:=iO (P:=P) ht h1 (off:=0) (x:= .agg (z.1.map (fun i=>ag.p false (.int k) i)++A)) (by
  unfold gq;rw[B,if_pos rfl,if_pos (by rw[q];omega),List.drop_zero,List.take_of_length_le (by rw[q];exact Nat.le_refl _)])
 have X:V (Fr (own φ h) Bw w) ρ (.lag k n z A) v:=by
  simp only[V]at I;obtain⟨vs,rfl,Y,J⟩:=I;refine GH (by rw[Y,q,D]) (fun j C=>?_) (VL.mono (fun _ _ _ h=>h) (fun _ _ h=>h) (fun j u C=>?_) (VL.drop (n:=n) J |> fun Z=>by rwa [List.drop_append_of_le_length (by simp[z.2]),List.drop_of_length_le (by simp[z.2]),List.nil_append]at Z))
  ·obtain⟨u,L,t2⟩:=VL.get J (k:=j) (x:= .p false (.int k) z.1[j]) (by rw[List.getElem?_append_left (by simpa using C),List.getElem?_map,List.getElem?_eq_getElem C];rfl);rw[bQ t2]at L;exact L
  ·exact C
 have e0:(⟨g,0,none⟩:Addr).add 0=⟨g,0,none⟩:=by simp[Addr.add]
 rw[e0]at E;refine Good.aG (v:=v) (w':=w) ?_ (aF.pure m X);simp[execOp,N,Instr.loadAt,e,Instr.sureAddr,O,E]
theorem zy(m:Mem Bw w0 ρ φ h w){o:Oper}{a:Act}{t:TypeId}{ti:TI}(ht:aN P t ti){xo yo:Operand}{id i sz off:Nat}(X:V (Fr (own φ h) Bw w) ρ (.adr id i sz off) (a.eval xo))
  {y:ag} (hy:V (Fr (own φ h) Bw w) ρ y (a.eval yo)) (hc:(cellsOf y).all ag.cell=true) (ho:o.op = .store t xo yo) {k:IntKind} {n:Nat} {I:fh n} {B:List ag} (hi:h id=some (.lmp k n I B))
  (x:(cellsOf y).length=ti.size) {q:Nat} (hq:i*sz+off=n+q) (C:q+ti.size≤B.length) :
  Good P o a w (aF Bw w0 ρ φ h w new .unk [(id,some (.lmp k n I (wr B q (cellsOf y))))]):=by
 obtain⟨u,L,g,Y,cells,rfl,M,Z,r2,r3,r4⟩:=m.ob id _ hi;simp only[V]at X;obtain⟨g',A,he⟩:=X;rw[L]at A;have N:g=g':=by
  rcases A with A | ⟨n,c,A⟩
  ·simpa using A
  ·cases A
 subst N;obtain⟨h1,h2,h3⟩:=fV hc hy;have D:=gG (P:=P) ht Z (v:=a.eval yo) (p:=n+q) (by rw[h2,x]) (by rw[r2];omega) h3;rw[hq]at he;refine Good.jN (w':=_) (by simp[execOp,ho,Instr.storeAt,he,Instr.sureAddr,D];rfl) ?_;refine dW m (some id) id (.lmp k n I (wr B q (cellsOf y))) (.pointer (some ⟨g,0,none⟩)) (φ id) (some g) (aZ w g _) (fun k e=>⟨id,_,rfl,hi,rfl,by cases e;assumption⟩) (.inr ⟨rfl,L⟩)
  (fun _ k hk=>Nat.lt_of_lt_of_le (m.lt id _ k hi rfl hk) (aZ w g _).size) (fun _ k hk=> .inr ⟨id,_,rfl,hi,rfl,hk⟩) (fun F' E O z=>?_) (by rw[bm];rfl) (fun e=>by rw[L]at e;cases e) (fun F' E O z a1=>by simp only[V])
 refine⟨g,Y,_,rfl,M,setRow_heap w g cells _ Y _ Z,?_,fun j hj=>?_,?_⟩
 ·simp only[List.size_toArray,List.length_append,List.length_take,List.length_drop,Array.length_toList,h2,x,wr];omega
 ·have a2:j<n:=by rw[←I.2];exact hj
  simp only[List.getElem?_toArray];rw[List.getElem?_append_left (by simp;omega),List.getElem?_take,if_pos (by omega),Array.getElem?_toList];exact r3 j hj
 ·have h4:VL F' E B (fun k u=>(cells.toList.drop n)[k]? = some u):=VL.mono O z (fun k u hk=>by rw[List.getElem?_drop,Array.getElem?_toList];exact hk) r4;have:=EE (p:=q) (by rw[x];exact C) (by simp[r2]) h2 h4 (VL.mono O z (fun _ _ h=>h) h1);rw[x]at this;refine VL.mono (fun _ _ _ h=>h) (fun _ _ h=>h) (fun k u hk=>?_) this;rw[←hk];simp only[List.getElem?_toArray];have e:cells.toList.take (n+q)++((a.eval yo).cells.toList++cells.toList.drop (n+q+ti.size))=cells.toList.take n++((cells.toList.drop n).take q++(a.eval yo).cells.toList++(cells.toList.drop n).drop (q+ti.size)):=by rw[List.take_add,List.drop_drop,Nat.add_assoc];simp only[List.append_assoc]
  rw[e,List.getElem?_append_right (by simp;omega)];congr 1;simp
  omega
/-! ### J -/
theorem rV(m:Mem Bw w0 ρ φ h w){o:Oper}{a:Act}{op:BinOp}(u:op = .add∨op = .sub∨op = .mul∨op = .quo){t A:TypeId}{xo yo:Operand}(B:o.op = .binOp op t xo yo A){β z:Bool}{x y:QJ}
  (C:V (Fr (own φ h) Bw w) ρ (.p β .flt x) (a.eval xo)) (D:V (Fr (own φ h) Bw w) ρ (.p z .flt y) (a.eval yo)):Good P o a w (aF Bw w0 ρ φ h w new (.p false .flt (bN op x y)) []):=by
 obtain⟨p,E,rfl⟩:=xe C;obtain⟨q,I,rfl⟩:=xe D;obtain⟨n,w',h1,h2,J⟩:=D6 (P:=P) (w:=w) u p q;have j:(execOp a.eval o).run P w = .ok (.value (.float .f64 n)) w':=by
  simp only[execOp,B,E,I];rw[Sem.run_bind,Sem.run_bind,bL (by intro N e;cases e) (by intro e;cases e)];have hb:(binOp op t (.float .f64 p) (.float .f64 q)).run P w = .ok (.float .f64 n) w':=by rcases u with rfl | rfl | rfl | rfl <;> (simp only[binOp,ne_eq,not_true_eq_false,if_false];exact h1)
  simp only[Result.andThen_ok,hb];rfl
 rw[←J];rcases h2 with rfl | rfl
 ·exact Good.aG j (aF.pure m (vf _ _))
 ·obtain⟨L,M⟩:=m.drew;exact Good.aG j (aF.after (u1:=[]) rfl M (aF.pure L (vf _ _)))
theorem BF(m:Mem Bw w0 ρ φ h w){o:Oper}{a:Act}{st q:TypeId}{A u:TI}(B:aN P st A)(hd:aN P q u){k:IntKind}(hk:u.k = .int k){xo:Operand}(C:o.op = .convert st q xo){β:Bool}{x:QJ}
  (D:V (Fr (own φ h) Bw w) ρ (.p β .flt x) (a.eval xo)) (hc:(ov x).isSome=true∧k.min≤(ov x).getD 0∧(ov x).getD 0≤k.max):Good P o a w (aF Bw w0 ρ φ h w new (.p false (.int k) ((ov x).getD 0)) []):=by
 obtain⟨p,E,rfl⟩:=xe D;obtain⟨I,h1,h2⟩:=B.hu;obtain⟨L,J,j⟩:=hd.hu;rw[hk]at j;simp only[UK]at j;subst j;cases hp:cj p with
 | none=>rw[hp]at hc;exact absurd hc.1 (by simp[ov])
 | some z =>
  obtain rfl:=hJ hp;rw[hp]at hc;cases hi:(FloatKind.f64.decode z).toInt .zero with
  | none=>exact absurd hc.1 (by simp[ov,hi])
  | some n =>
   have hf:ov (some z)=some n:=by simp[ov,hi]
   rw[hf]at hc ⊢;simp only[Option.getD_some]at hc ⊢;refine Good.aG (v:= .int k n) (w':=w) ?_ (aF.pure m (dF _ _ _));simp only[execOp,C,E,convert,Sem.run_bind,run_underlying h1,run_underlying J,Result.andThen_ok];cases I <;> simp[Conv.floatToInt,hi,hc.2]
end
theorem rI{P:Program}{w:World}{t t2 ty e:TypeId}{i:TypeInfo}(ht:P.underlying t=some (.slice e))(hi:P.info? e=some i){g off n cap:Nat}{q:QU}{B:TypeId}
  (D:w.heap[g]? = some (.cells q B (0,0))) {ad:Option Addr} {len c:Nat} {cs:QY} (A:cs.length=min len n*i.size) (x:ad=none→cs=[])
  (z:∀b,ad=some b→∀j v,cs[j]? = some v→w.cell? (b.add j)=some v) (C:off+cs.length≤q.size) (h1:∀v∈cs,v.oneCell'=true) :
  (Builtin.copy_ #[t,t2] ty #[.slice (some ⟨g,off,none⟩) n cap,.slice ad len c]).run P w =
   .ok (goInt (min len n:Nat)) (w.setRow g (q.toList.take off++cs++q.toList.drop (off+cs.length)).toArray):=by
 have u:=run_storeCells_at P g off B cs 0 q w D (by omega) h1;simp only[Nat.add_zero]at u;have hm:Nat.min len n=min len n:=rfl;cases ad with
 | none =>
  have:=x rfl;subst this;simp[Builtin.copy_,run_underlying ht,Builtin.lenOf,Builtin.firstCells,sizeOf,typeInfo,hi,u,hm]
 | some b =>
  have hl:=run_loadCells_list (P:=P) w b cs (z b rfl);rw[A]at hl;simp[Builtin.copy_,run_underlying ht,Builtin.lenOf,Builtin.firstCells,sizeOf,typeInfo,hi,hl,u,hm]
section
variable{P:Program}{Bw:Nat→Prop}{w0:cC P}{ρ:Nat→QW}{φ:Nat→Nat→Prop}{h:Nat→Qz}{w:World}{new:Nat}
theorem Hh(m:Mem Bw w0 ρ φ h w){id:Nat}{C:TypeId}{A:Ty}{j:List A.den}(p:h id=some (.arr C A j)){v:Value}(z:V (Fr (own φ h) Bw w) ρ (.sl id) v):∃ad cap,v = .slice ad j.length cap∧j.length≤cap:=by
 obtain⟨u,B,D,hA,cells,E,J⟩:=m.ob id _ p;simp only[V]at z;rw[z.1]at B;cases B;rcases E.2 with⟨e,q⟩ | ⟨g,cap,I,e,hb,L,x,_⟩
 ·exact⟨none,0,by rw[e,q],by omega⟩
 ·exact⟨_,cap,e,x⟩
theorem Bc(m:Mem Bw w0 ρ φ h w){o:Oper}{a:Act}{t e:TypeId}{ti B:TI}(ht:aN P t ti)(hk:ti.k = .sl e)(u:aN P e B){A:Ty}{xo lo:Operand}(D:o.op = .slice t xo (some lo) none none)
  {id:Nat} {E:TypeId} {q:List A.den} (x:h id=some (.arr E A q)) (z:V (Fr (own φ h) Bw w) ρ (.sl id) (a.eval xo)) {β:Bool} {k:IntKind} {l:Int} (hl:V (Fr (own φ h) Bw w) ρ (.p β (.int k) l) (a.eval lo))
  (I:0≤l) (h1:l≤q.length):Good P o a w (aF Bw w0 ρ φ h w new (.suf id l.toNat B.size) []):=by
 obtain⟨ad,cap,C,hc⟩:=Hh m x z;simp only[V]at z;have j:=lY (P:=P) (w:=w) (F:=Fr (own φ h) Bw w) (ρ:=ρ) (a:=a) ht hk u (ad:=ad) (len:=q.length) (cap:=cap) (lo:=some lo) (hi:=none) (l:=some l) (r:=none) ⟨β,k,hl⟩ trivial (by simpa using I) (by simpa using h1) (by simp) hc;simp only[Option.map_none,Option.map_some,Option.getD_none,Option.getD_some]at j;refine Good.aG (v:=_) (w':=w) (by simp only[execOp,D,C,Option.map_none,Option.map_some,Sem.run_bind]at j ⊢;rw[j];rfl) (aF.pure m ?_);simp only[V];exact⟨ad,q.length,cap,by rw[z.1,C],by omega,hc,by simp⟩
theorem zO(m:Mem Bw w0 ρ φ h w){o:Oper}{a:Act}{t t2 e:TypeId}{ti te:TI}(ht:aN P t ti)(hk:ti.k = .sl e)(aa:aN P e te){A:Ty}(hT:te.T=some A)
  {xo yo:Operand} {id q:Nat} {y:ag} (hx:V (Fr (own φ h) Bw w) ρ (.suf id q te.size) (a.eval xo)) (hy:V (Fr (own φ h) Bw w) ρ y (a.eval yo)) (ho:o.op = .call { callee:= .builtin .copy,args:= #[xo,yo],argTypes:= #[t,t2] })
  {e':TypeId} {x B:List A.den} (a4:h id=some (.arr e' A x)) (bi:eZ h A y=some B) :
  Good P o a w (aF Bw w0 ρ φ h w new (.p false (.int .i64) ((min B.length (x.length - q):Nat):Int)) [(id,some (.arr e' A (x.take q++(B.take (x.length - q)++x.drop (q+B.length)))))]):=by
 obtain⟨i,z,hi,hz,a5,be,d1,d2,d3⟩:=aa.hi;obtain⟨ac,d4,d5⟩:=aa.hT A hT;have hu:=aY ht hk;have b1:i.size=A.size:=by rw[a5,ac]
 obtain⟨ad,len,c,b2,b3,b4,cc⟩:=ic m bi hy;obtain⟨u,q1,bs,hA,cells,r1,r2⟩:=m.ob id _ a4;simp only[V]at hx;obtain⟨ax,nx,cx,b5,d6,d7,b6⟩:=hx;rw[q1]at b5;cases b5;subst b3;have bv:nx=x.length:=by
  rcases r1.2 with⟨E,hn⟩ | ⟨g,cap,a6,E,_⟩
  ·simp only[Value.slice.injEq]at E;omega
  ·simp only[Value.slice.injEq]at E;exact E.2.1
 subst bv;by_cases L:min B.length (x.length - q)=0
 ·-- nothing to copy
  have a7:x.take q++(B.take (x.length - q)++x.drop (q+B.length))=x:=by
   rcases Nat.eq_zero_or_pos B.length with e0 | e0
   ·have:B=[]:=List.eq_nil_of_length_eq_zero e0;subst this;simp
   ·have:x.length - q=0:=by omega
    rw[this,List.take_of_length_le (by omega),List.drop_of_length_le (by omega)];simp
  have O:(Builtin.copy_ #[t,t2] o.type #[a.eval xo,a.eval yo]).run P w = .ok (goInt (min B.length (x.length - q):Nat)) w:=by
   rw[b6,b2];have key:∀(d:Option Addr),(Builtin.copy_ #[t,t2] o.type #[.slice d (x.length - q) (cx - q),.slice ad B.length c]).run P w = .ok (goInt (min B.length (x.length - q):Nat)) w:=fun d=>by
    have hm:Nat.min B.length (x.length - q)=0:=L;have bx:∀b:Addr,(loadCells b 0).run P w = .ok #[] w:=fun b=>by have:=run_loadCells_list (P:=P) w b [] (fun j v M=>by simp at M);simpa using this
    cases d <;> cases ad <;> simp[Builtin.copy_,run_underlying hu,Builtin.lenOf,Builtin.firstCells,sizeOf,typeInfo,hi,hm,L,bx,storeCells]
   exact key _
  refine Good.aG (v:=goInt (min B.length (x.length - q):Nat)) (w':=w) (by simp only[execOp,ho,resolve,invoke,builtin,Sem.run_bind,Sem.run_pure,Result.andThen_ok,List.map_toArray,List.map_cons,List.map_nil,O]) ?_;have J:apply [(id,some (Obj.arr e' A (x.take q++(B.take (x.length - q)++x.drop (q+B.length)))))] h=h:=by
   rw[a7];funext k;simp only[apply,bF];split
   ·rename_i e2;rw[e2,a4]
   ·rfl
  have Z:V (Fr (own φ h) Bw w) ρ (.p false (.int .i64) ((min B.length (x.length - q):Nat):Int)) (goInt (min B.length (x.length - q):Nat)):=by simp only[V,ai];exact⟨rfl,rfl⟩
  refine⟨ρ,φ,by rw[J];exact m,by rw[J];exact fun _ _ _ h=>h,fun _ _ h=>h,fun _ _ h=> .inl h,?_⟩;rw[J];exact Z
 ·rcases r1.2 with⟨E,hn⟩ | ⟨g,cap,a6,E,_,X,Y,a8,b7,a9⟩
  ·omega
  simp only[Value.slice.injEq]at E;obtain⟨rfl,_,rfl⟩:=E;have c1:0<B.length:=by omega
  obtain⟨b,a1,_⟩:=b4 0 c1;subst a1;obtain⟨b8,n1,n2,n3⟩:=kS (g:=fun k v=>w.cell? (b.add k)=some v) (fun i c2=>by
   obtain⟨b',I,e2⟩:=b4 i c2;cases I;exact e2)
  have b9:=nP n1 n3;have hcl:cells.length=x.length*A.size:=r1.1;have c3:x.length*A.size≤cx*A.size:=Nat.mul_le_mul_right _ Y;generalize a3:min B.length (x.length - q)=D at *;have c4:D≤B.length:=by omega
  have c5:q+D≤x.length:=by omega
  have d8:D*A.size≤B.length*A.size:=Nat.mul_le_mul_right _ c4;have d9:q*A.size+D*A.size≤x.length*A.size:=by rw[←Nat.add_mul];exact Nat.mul_le_mul_right _ c5
  let cs:=b8.take (D*A.size)
  have N:cs.length=D*A.size:=by simp only[cs,List.length_take,n1];omega
  have c6:a.eval xo = .slice (some ⟨g,q*A.size,none⟩) (x.length - q) (cx - q):=by rw[b6,if_neg (by omega)];simp only[Option.map_some];rw[ck,Nat.zero_add,ac]
  have O:=rI (P:=P) (w:=w) (t2:=t2) (ty:=o.type) hu hi X (off:=q*A.size) (n:=x.length - q) (cap:=cx - q) (ad:=some b) (len:=B.length) (c:=c) (cs:=cs) (by rw[N,b1,a3])
   (fun I=>by cases I)
   (fun b' I j v M=>by
    cases I;refine n2 j v ?_;simp only[cs,List.getElem?_take]at M;split at M
    ·exact M
    ·cases M) (by rw[N,b7];omega) (fun v Z=>b9 v (List.mem_of_mem_take Z))
  refine Good.aG (v:=_) (w':=_) (by simp only[execOp,ho,resolve,invoke,builtin,Sem.run_bind,Sem.run_pure,Result.andThen_ok,List.map_toArray,List.map_cons,List.map_nil,c6,b2,O];rfl) ?_;have C:(x.take q++(B.take (x.length - q)++x.drop (q+B.length))).length=x.length:=by simp only[List.length_append,List.length_take,List.length_drop];omega
  rw[a3];refine cT m (some id) id (.arr e' A (x.take q++(B.take (x.length - q)++x.drop (q+B.length)))) (.slice (some ⟨g,0,none⟩) x.length cx) (some g) (aZ w g _) (fun k I=>⟨id,_,rfl,a4,rfl,bs _ (by simpa [dw]using I)⟩) (.inr ⟨rfl,q1⟩)
   (fun _ k a2=> .inr (by simpa [dw]using a2)) (fun F' c7 hF c8=>?_) (by rw[bm];rfl) (fun I=>by rw[q1]at I;cases I) (fun F' c7 hF c8 ch=>by simp only[V,ai];exact⟨rfl,rfl⟩)
  refine⟨fun _ h=>h,hA,cells.take (q*A.size)++cs++cells.drop (q*A.size+cs.length),⟨?_,.inr ⟨g,cx,_,?_,Nat.zero_le _,setRow_heap w g a6 _ e' _ X,?_,a8,?_,?_⟩⟩,fun j M=>?_⟩
  ·simp only[List.length_append,List.length_take,List.length_drop,N,hcl,C];omega
  ·rw[C]
  ·rw[C];exact Y
  ·simp only[List.size_toArray,List.length_append,List.length_take,List.length_drop,Array.length_toList,N];omega
  ·rw[C,←a9];have:=ub (l:=a6.toList) (vs:=cs) (p:=q*A.size) (m:=cs.length) (n:=x.length*A.size) rfl (by omega) (by simp only[Array.length_toList];omega);simpa using this
  ·rw[C]at M;have dd:j*A.size+A.size≤x.length*A.size:=by rw[←Nat.succ_mul];exact Nat.mul_le_mul_right _ M
   by_cases c9:j<q
   ·have cp:j*A.size+A.size≤q*A.size:=by rw[←Nat.succ_mul];exact Nat.mul_le_mul_right _ c9
    have I:(x.take q++(B.take (x.length - q)++x.drop (q+B.length)))[j]'(by rw[C];exact M)=x[j]:=by rw[List.getElem_append_left (by simp only[List.length_take];omega)];simp
    rw[I];refine ai.mono (hF _) (fun _ _ h=>h) (ai.gA (fun k v a2 Z=>?_) (r2 j M));rw[iC (n:=cs.length) (by omega) rfl (.inl (by omega))];exact Z
   ·by_cases de:j<q+D
    ·have I:(x.take q++(B.take (x.length - q)++x.drop (q+B.length)))[j]'(by rw[C];exact M)=B[j - q]'(by omega):=by rw[List.getElem_append_right (by simp only[List.length_take];omega),List.getElem_append_left (by simp only[List.length_take];omega)];simp only[List.length_take,List.getElem_take];congr 1;omega
     rw[I];refine ai.mono (hF _) (fun _ _ h=>h) (ai.gA (fun k v a2 Z=>?_) (n3 (j - q) (by omega)));have a1:q*A.size≤j*A.size:=Nat.mul_le_mul_right _ (by omega);have di:(j - q)*A.size=j*A.size - q*A.size:=Nat.sub_mul _ _ _;have dk:(j - q)*A.size+A.size≤D*A.size:=by rw[←Nat.succ_mul];exact Nat.mul_le_mul_right _ (by omega)
     rw[List.append_assoc,List.getElem?_append_right (by simp only[List.length_take];omega),List.getElem?_append_left (by simp only[List.length_take,N,hcl];omega)];simp only[cs,List.getElem?_take,List.length_take,hcl];rw[if_pos (by omega),←Z];congr 1;omega
    ·have dm:D=B.length:=by omega
     have I:(x.take q++(B.take (x.length - q)++x.drop (q+B.length)))[j]'(by rw[C];exact M)=x[j]:=by rw[List.getElem_append_right (by simp only[List.length_take];omega),List.getElem_append_right (by simp only[List.length_take];omega)];simp only[List.length_take,List.getElem_drop];congr 1;omega
     rw[I];refine ai.mono (hF _) (fun _ _ h=>h) (ai.gA (fun k v a2 Z=>?_) (r2 j M));have a1:(q+D)*A.size≤j*A.size:=Nat.mul_le_mul_right _ (by omega);rw[Nat.add_mul]at a1;rw[iC (n:=cs.length) (by omega) rfl (.inr (by rw[N];omega))];exact Z
theorem yi(m:Mem Bw w0 ρ φ h w){o:Oper}{a:Act}{f:FuncId}{z:Array Operand}(C:o.op = .makeFunc (.func f) z #[]){j:List ag}(D:iS (Fr (own φ h) Bw w) ρ j (z.toList.map a.eval)):
  Good P o a w (aF Bw w0 ρ φ h w new (.bfn f j) []):=by
 refine Good.aG (v:= .func (.func f) (z.map a.eval) #[]) (w':=w) (by simp[execOp,C,Instr.makeFunc]) (aF.pure m ?_);simp only[V];have key:∀(j:List ag) (p:QY),iS (Fr (own φ h) Bw w) ρ j p→p.length=j.length∧VL (Fr (own φ h) Bw w) ρ j (fun k u=>p[k]? = some u):=fun j=>by
  induction j with
  | nil=>intro p q;cases p with | nil=>exact⟨rfl,by simp only[VL]⟩ | cons _ _=>exact q.elim
  | cons x j E =>
   intro p q;cases p with
   | nil=>exact q.elim
   | cons v p =>obtain⟨A,B⟩:=E p q.2;simp only[VL];exact⟨by simp[A],⟨v,rfl,q.1⟩,VL.mono (fun _ _ _ h=>h) (fun _ _ h=>h) (fun k u hk=>by simpa using hk) B⟩
 obtain⟨A,B⟩:=key _ _ D;exact⟨_,rfl,by simpa using A,VL.mono (fun _ _ _ h=>h) (fun _ _ h=>h) (fun k u hk=>by simpa using hk) B⟩
theorem DM(m:Mem Bw w0 ρ φ h w){o:Oper}{a:Act}{fo:Operand}{j:Array Operand}{L:Array TypeId}(ho:o.op = .call { callee:= .value fo,args:=j,argTypes:=L })
  {f:FuncId} {M:List ag} (hf:V (Fr (own φ h) Bw w) ρ (.bfn f M) (a.eval fo)) {N:List ag} (hx:iS (Fr (own φ h) Bw w) ρ N (j.toList.map a.eval)) {args:List ag} (hl:oh h (M++N)=some args)
  {r:ag} (hp:Pure P f args r):Good P o a w (aF Bw w0 ρ φ h w new r []):=by
 simp only[V]at hf;obtain⟨O,X,Y,Z⟩:=hf;obtain⟨fn,a1,hname,p⟩:=hp.fn;have x:∀(B:List ag) (q:QY) (D:List ag) (E:QY),q.length=B.length→VL (Fr (own φ h) Bw w) ρ B (fun k u=>q[k]? = some u)→iS (Fr (own φ h) Bw w) ρ D E→iS (Fr (own φ h) Bw w) ρ (B++D) (q++E):=fun B=>by
  induction B with
  | nil=>intro q D E hl _ C;cases q with | nil=>exact C | cons _ _=>simp at hl
  | cons c B ih =>
   intro q D E hl C hy;cases q with
   | nil=>simp at hl
   | cons u q =>simp only[VL]at C;obtain⟨⟨u',J,q2⟩,q3⟩:=C;simp at J;subst J;exact⟨q2,ih q D E (by simpa using hl) (VL.mono (fun _ _ _ h=>h) (fun _ _ h=>h) (fun k u hk=>by simpa using hk) q3) hy⟩
 have z:=pf m mO.all hl (x M O.toList N _ (by simpa using Y) (VL.mono (fun _ _ _ h=>h) (fun _ _ h=>h) (fun k u hk=>by simpa using hk) Z) hx);have a2:∀k,pS φ h Bw k→k<w.heap.size:=fun k hk=>by
  rcases hk with hk | hk
  ·exact m.wS hk
  ·exact Nat.lt_of_lt_of_le (w0.lt k (m.bw k hk)) m.kp.size
 have A:=hp.calls (pS φ h Bw) w (O++j.map a.eval) m.kp.laid a2 (by simpa using z);refine Good.sn (f:=f) (args:=O++j.map a.eval) (w':=w) ?_ (A.mono fun e w' ⟨v,he,hb,C⟩=>⟨v,he,ρ,φ,?_,?_,fun _ _ h=>h,fun _ _ h=> .inl h,?_⟩)
 ·have n1:¬fn.name = "runtime.NumGoroutine" :=by simpa using hname
  have n2:¬fn.body=none:=fun e=>by rw[e]at p;cases p
  simp[execOp,ho,resolve,X,Deferred.ofValue,invoke,callFunc,a1,n1,n2]
 ·have hF:∀β a v,Fr (own φ h) Bw w β a v→Fr (own φ h) Bw w' β a v:=fun β a v=>Fr.KR (fun k hk _=>hb.block k hk) (fun k hk=> .inl hk) β a v
  refine⟨fun id ob I=>?_,fun id o k h1 h2 h3=>Nat.lt_of_lt_of_le (m.lt id o k h1 h2 h3) hb.size,m.dj,m.bw,m.ow,m.kp.E2 hb,m.pc⟩;obtain⟨u,J,q2⟩:=m.ob id ob I;exact⟨u,J,OR.mono hF (fun _ _ h=>h) (fun _ h=>h) (fun hl k hk=>hb.block k (m.lt id ob k I hl hk)) q2⟩
 ·exact fun β a v=>Fr.KR (fun k hk _=>hb.block k hk) (fun k hk=> .inl hk) β a v
 ·refine V.mono (fun β a u hu=>?_) (fun _ _ h=>by cases h) C;exact⟨fun e=>hu.2.1 rfl (.inl e),fun _ e=>hu.2.1 rfl (.inr e),hu.2.2⟩
theorem FG{t e:TypeId}{ti x:TI}{n:Nat}{k:IntKind}(ht:aN P t ti)(hk:ti.k = .ar n e)(j:aN P e x)(u:x.k = .int k)(a b:fh n):
  (Op.equal t (.agg (a.1.map (Value.int k)).toArray) (.agg (b.1.map (Value.int k)).toArray)).run P w = .ok (IJ a b) w:=by
 obtain⟨d,A,p⟩:=ht.hu;rw[hk]at p;simp only[UK]at p;subst p;obtain⟨M,B,q⟩:=j.hu;rw[u]at q;simp only[UK]at q;subst q;obtain⟨i,z,hi,_,C,_⟩:=j.hi;have D:x.size=1:=j.ha (by rw[u];rfl);have hc:P.cellsOf e=1:=by simp[Program.cellsOf,hi,C,D]
 obtain⟨r,I,J⟩:=nR (P:=P) B 9998 w (l1:=a.1) (l2:=b.1) (List.range n) (fun i hi=>by simp at hi;rw[a.2,b.2];omega);have L:r=IJ a b:=by
  rw[Bool.eq_iff_iff,J];unfold IJ;rw[beq_iff_eq];constructor
  ·intro E;refine List.ext_getElem? fun i=>?_
   rcases Nat.lt_or_ge i n with h1 | h1
   ·exact E i (by simpa using h1)
   ·rw[List.getElem?_eq_none (by rw[a.2];exact h1),List.getElem?_eq_none (by rw[b.2];exact h1)]
  ·intro E i _;rw[E]
 unfold Op.equal Op.maxDepth;rw[show(10000:Nat)=9999+1 from rfl,run_equalIn_array w 9999 _ _ A hi,hc,←L];exact I
end
end Go.Tv
