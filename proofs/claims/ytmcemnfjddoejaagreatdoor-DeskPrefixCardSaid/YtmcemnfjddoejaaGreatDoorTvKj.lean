/- Great arrays of numbers in variables; arithmetic of floats. -/
import Derived.Test.YtmcemnfjddoejaaGreatDoorTvKhm
namespace Go.Tv
open Go Go.RowKit
def Kp(k:IntKind):ag→Bool
 | .p _ (.int c) x=>decide (c=k) && (show Int from x) == 0
 | _=>false
theorem zr{F:Bool→Addr→Value→Prop}{ρ:Nat→Option Value}{k:IntKind}{n:Nat}{c:ep n}{f:List ag}{v:Value}(h:V F ρ (.lag k n c f) v):
  ∃e:Array Value,v = .agg e∧e.size=n+f.length∧(∀i (h:i<c.1.length),e[i]? = some (.int k c.1[i]))∧VL F ρ f (fun j u=>e[n+j]? = some u):=by
 simp only[V]at h;obtain⟨e,rfl,m,p⟩:=h;refine⟨_,rfl,by simp[m,c.2],fun i hi=> ?_,VL.mono (fun _ _ _ h=>h) (fun _ _ h=>h) (fun j u q=> ?_) p⟩
 ·simp only[List.getElem?_toArray];rw[List.getElem?_append_left (by simpa using hi)];simp[hi]
 ·simp only[List.getElem?_toArray];rw[List.getElem?_append_right (by simp[c.2])];simpa [c.2]using q
theorem F9{F:Bool→Addr→Value→Prop}{ρ:Nat→Option Value}{k:IntKind}{n:Nat}{c:ep n}{m:List ag}{e:Array Value}(p:e.size=n+m.length)(q:∀i (h:i<c.1.length),e[i]? = some (.int k c.1[i]))(z:VL F ρ m (fun j u=>e[n+j]? = some u)):
  V F ρ (.lag k n c m) (.agg e):=by
 simp only[V];refine⟨e.toList.drop n,?_,by simp[p],VL.mono (fun _ _ _ h=>h) (fun _ _ h=>h) (fun j u A=>by rw[List.getElem?_drop,Array.getElem?_toList];exact A) z⟩;have:e.toList=c.1.map (Value.int k)++e.toList.drop n:=by
  refine List.ext_getElem? fun i=> ?_
  rcases Nat.lt_or_ge i n with hi | hi
  ·have f:i<c.1.length:=by rw[c.2];exact hi
   rw[List.getElem?_append_left (by simpa using f),Array.getElem?_toList,q i f];simp[f]
  ·rw[List.getElem?_append_right (by simp[c.2];exact hi),List.getElem?_drop];congr 1;simp[c.2];omega
 rw[←this]
theorem EN{F:Bool→Addr→Value→Prop}{ρ:Nat→Option Value}{k:IntKind}{n:Nat}{f:List ag}{v:Value}(hz:(f.take n).all (Kp k)=true)(B:n≤f.length)(h:V F ρ (.agg f) v):V F ρ (.lag k n (cW n) (f.drop n)) v:=by
 simp only[V]at h;obtain⟨C,rfl,q,hl⟩:=h;refine F9 (by simp[q];omega) (fun i hi=> ?_) (VL.mono (fun _ _ _ h=>h) (fun _ _ h=>h) (fun _ _ h=>h) (VL.drop (n:=n) hl));have j:i<n:=by simpa [cW]using hi
 have m:i<f.length:=by omega
 obtain⟨u,z,p⟩:=VL.get hl (List.getElem?_eq_getElem m);have c:Kp k f[i]=true:=List.all_eq_true.1 hz _ (by
  refine List.mem_of_getElem? (i:=i) ?_;rw[List.getElem?_take,if_pos j,List.getElem?_eq_getElem m])
 rw[z];unfold Kp at c;split at c
 ·rename_i β D x e;simp only[Bool.and_eq_true,decide_eq_true_eq,beq_iff_eq]at c;obtain⟨rfl,A⟩:=c;rw[e]at p;rw[bV p];have:(x:Int)=0:=A;simp only[cW,List.getElem_replicate];rw[this]
 ·cases c
section
variable{P:Program}{Bw:Nat→Prop}{w0:b9 P}{ρ:Nat→Option Value}{φ:Nat→Nat→Prop}{h:Nat→Option Obj}{w:World}{new:Nat}
theorem Cm(m:Mem Bw w0 ρ φ h w)(B:ρ new=none){k:IntKind}{n:Nat}{p:ep n}{q:List ag}{arr:Array Value}{z:TypeId}(C:arr.size=n+q.length)(D:∀i (h:i<p.1.length),arr[i]? = some (.int k p.1[i]))
  (hl:VL (Fr (own φ h) Bw w) ρ q (fun j u=>arr[n+j]? = some u)) (sz:Nat) :
  aE Bw w0 ρ φ h w new (.adr new 0 sz 0) [(new,some (.lmp k n p q))] (.pointer (some ⟨w.heap.size,0,none⟩)) (w.alloc (.cells arr z)):=by
 refine cQ m none new (.lmp k n p q) (.pointer (some ⟨w.heap.size,0,none⟩)) none (World.grownBy_alloc w _ none) (fun k e=>by cases e) (.inl B) (fun _ k E=> ?_) (fun F' x A c=> ?_)
  (by rw[bn];rfl) (fun _=>rfl) (fun F' x A c f=> ?_)
 ·simp only[iB,Option.some.injEq]at E;exact .inl (by omega)
 ·exact⟨_,z,arr,rfl,rfl,heap_alloc_new w _,C,D,VL.mono A c (fun _ _ h=>h) hl⟩
 ·simp only[V];exact⟨_,.inl f,by simp⟩
theorem BO(m:Mem Bw w0 ρ φ h w)(j:ρ new=none){o:Oper}{a:Act}{t:TypeId}{ti:TI}(p:aQ P t ti)(q:o.op = .alloc t){k:IntKind}{n:Nat}(hz:(ti.z.take n).all (Kp k)=true)(c:n≤ti.z.length):
  Good P o a w (aE Bw w0 ρ φ h w new (.adr new 0 ti.size 0) [(new,some (.lmp k n (cW n) (ti.z.drop n)))]):=by
 obtain⟨z,u,f,D,E⟩:=dg p w;have x:V (Fr (own φ h) Bw w) ρ (.agg ti.z) (.agg z.cells):=by simp only[V];refine⟨z.cells,rfl,by rw[←f];simp,?_⟩;rw[←f];have:=g9 (F:=Fr (own φ h) Bw w) (ρ:=ρ) z.cells.toList;simpa using this
 obtain⟨I,e,A,B,C⟩:=zr (EN hz c x);cases e;exact Good.aH (v:= .pointer (some ⟨w.heap.size,0,none⟩)) (w':=w.alloc (.cells z.cells t)) (by simp[execOp,q,Instr.alloc,u,newVar,newRow]) (Cm m j A B C _)
theorem FV(m:Mem Bw w0 ρ φ h w)(j:ρ new=none){o:Oper}{a:Act}{t:TypeId}{xo:Operand}{k:IntKind}{n:Nat}{c:ep n}{f:List ag}(p:V (Fr (own φ h) Bw w) ρ (.lag k n c f) (a.eval xo))
  (q:o.op = .box t xo) (sz:Nat):Good P o a w (aE Bw w0 ρ φ h w new (.adr new 0 sz 0) [(new,some (.lmp k n c f))]):=by
 obtain⟨A,e,u,x,z⟩:=zr p;refine Good.aH (v:= .pointer (some ⟨w.heap.size,0,none⟩)) (w':=w.alloc (.cells (a.eval xo).cells t)) (by simp[execOp,q,Instr.box,newVar,newRow]) ?_;rw[e];exact Cm m j u x z _
theorem Cc(m:Mem Bw w0 ρ φ h w){o:Oper}{a:Act}{t e:TypeId}{ti q:TI}(M:aQ P t ti){n:Nat}(N:ti.k = .ar n e)(x:aQ P e q)(z:q.size=1){xo io:Operand}{id i sz off:Nat}(E:V (Fr (own φ h) Bw w) ρ (.adr id i sz off) (a.eval xo))
  {O:IntKind} {I:Nat} {R:ep I} {X:List ag} (hb:h id=some (.lmp O I R X)) {β:Bool} {k:IntKind} {j:Int} (Y:V (Fr (own φ h) Bw w) ρ (.p β (.int k) j) (a.eval io)) (Z:o.op = .indexAddr t xo io) (J:0≤j∧j<(n:Int)) :
  Good P o a w (aE Bw w0 ρ φ h w new (.ada id (i*sz+off) n j.toNat) []):=by
 obtain⟨d,h1,A⟩:=M.hu;rw[N]at A;simp only[UK]at A;subst A;obtain⟨u,L,B,a1,cells,rfl,_⟩:=m.ob id _ hb;simp only[V]at E;obtain⟨g,f,he⟩:=E;rw[L]at f;have C:B=g:=by
  rcases f with f | ⟨n,c,f⟩
  ·simpa using f
  ·cases f
 subst C;have D:=bV Y;refine Good.aH (v:= .pointer (some ((⟨B,i*sz+off,none⟩:Addr).add (j.toNat*q.size)))) (w':=w) ?_ (aE.pure m ?_)
 ·simp[execOp,Z,Instr.indexAt,asIntOf,D,he,run_underlying h1,Instr.sureAddr,run_sizeOf x,J.1,J.2]
 ·simp only[V];exact⟨B,L,by rw[ca,z,Nat.mul_one],by omega⟩
theorem Ea(m:Mem Bw w0 ρ φ h w){o:Oper}{a:Act}{t:TypeId}{ti:TI}(z:aQ P t ti){k:IntKind}(A:ti.k = .int k){xo:Operand}{id n i:Nat}(q:V (Fr (own φ h) Bw w) ρ (.ada id 0 n i) (a.eval xo))
  (B:o.op = .load t xo) {c:ep n} {C:List ag} (hb:h id=some (.lmp k n c C)):Good P o a w (aE Bw w0 ρ φ h w new (.p false (.int k) (eP c i)) []):=by
 obtain⟨u,D,f,j,cells,rfl,_,E,M,I,N⟩:=m.ob id _ hb;simp only[V]at q;obtain⟨g,x,J,hi⟩:=q;rw[D]at x;obtain rfl:f=g:=by simpa using x
 have e:i<c.1.length:=by rw[c.2];exact hi
 have L:w.cell? (⟨f,0+i,none⟩:Addr)=some (.int k (eP c i)):=by rw[cell_of_row w f (0+i) cells j (0,0) E,Nat.zero_add,I i e];simp[eP,e]
 refine Good.aH (v:= .int k (eP c i)) (w':=w) ?_ (aE.pure m (dB _ _ _));simp only[execOp,B,Instr.loadAt,J,Instr.sureAddr,Sem.run_bind,Sem.run_pure,Result.andThen_ok];unfold loadVar;rw[Sem.run_bind,mH z,A];simp only[Result.andThen_ok,TK.agg];rw[if_neg (by simp),run_load,L];rfl
theorem CJ(m:Mem Bw w0 ρ φ h w){o:Oper}{a:Act}{t:TypeId}{ti:TI}(ht:aQ P t ti)(z:ti.size=1){k:IntKind}{xo yo:Operand}{id n i:Nat}(M:V (Fr (own φ h) Bw w) ρ (.ada id 0 n i) (a.eval xo))
  {β:Bool} {v:Int} (hy:V (Fr (own φ h) Bw w) ρ (.p β (.int k) v) (a.eval yo)) (ho:o.op = .store t xo yo) {x:ep n} {A:List ag} (hb:h id=some (.lmp k n x A)) :
  Good P o a w (aE Bw w0 ρ φ h w new .unk [(id,some (.lmp k n (rV x i v) A))]):=by
 obtain⟨u,B,g,N,cells,rfl,C,O,R,r3,r4⟩:=m.ob id _ hb;simp only[V]at M;obtain⟨g',X,he,hi⟩:=M;rw[B]at X;obtain rfl:g=g':=by simpa using X
 have c:=bV hy;have f:=qu (P:=P) ht z O (v:=a.eval yo) (p:=i) (by omega) (.inl rfl) (by rw[c];rfl) (by rw[c];rfl);have D:a.eval xo = .pointer (some ⟨g,i,none⟩):=by rw[he];simp
 refine Good.kx (w':=_) (by simp[execOp,ho,Instr.storeAt,D,Instr.sureAddr,f];rfl) ?_;refine eH m (some id) id (.lmp k n (rV x i v) A) (.pointer (some ⟨g,0,none⟩)) (φ id) (some g) (bf w g _) (fun k e=>⟨id,_,rfl,hb,rfl,by cases e;assumption⟩) (.inr ⟨rfl,B⟩)
  (fun _ k E=>Nat.lt_of_lt_of_le (m.lt id _ k hb rfl E) (bf w g _).size) (fun _ k E=> .inr ⟨id,_,rfl,hb,rfl,E⟩) (fun F' I Y q=> ?_) (by rw[aZ];rfl) (fun e=>by rw[B]at e;cases e) (fun F' I Y q Z=>by simp only[V])
 refine⟨g,N,_,rfl,C,setRow_heap w g cells _ N _ O,by simpa using R,fun j J=> ?_,VL.mono Y q (fun j u J=> ?_) r4⟩
 ·have L:j<x.1.length:=by simpa [rV]using J
  simp only[rV];by_cases e:i=j
  ·subst e;rw[c,Array.getElem?_setIfInBounds_self_of_lt (by rw[R];omega)];simp
  ·rw[Array.getElem?_setIfInBounds_ne e,List.getElem_set_ne e];exact r3 j L
 ·rw[Array.getElem?_setIfInBounds_ne (by omega)];exact J
theorem zf(m:Mem Bw w0 ρ φ h w){k:IntKind}{n:Nat}{A:ep n}{B:List ag}{id i sz off:Nat}(hb:h id=some (.lmp k n A B)){v:Value}(I:V (Fr (own φ h) Bw w) ρ (.adr id i sz off) v):
  ∃g,v = .pointer (some ⟨g,i*sz+off,none⟩)∧VL (Fr (own φ h) Bw w) ρ B (fun j u=>w.cell? ((⟨g,n,none⟩:Addr).add j)=some u)∧VL (Fr (own φ h) Bw w) ρ (A.1.map (fun i=>ag.p false (.int k) i)++B) (fun j u=>w.cell? ((⟨g,0,none⟩:Addr).add j)=some u):=by
 obtain⟨u,L,q,e,cells,rfl,_,C,O,M,J⟩:=m.ob id _ hb;simp only[V]at I;obtain⟨g,f,N⟩:=I;rw[L]at f;have D:q=g:=by
  rcases f with f | ⟨n,c,f⟩
  ·simpa using f
  ·cases f
 subst D;refine⟨q,N,VL.mono (fun _ _ _ h=>h) (fun _ _ h=>h) (fun j u E=> ?_) J,VL.append (VL.mk fun j y z=> ?_) (VL.mono (fun _ _ _ h=>h) (fun _ _ h=>h) (fun j u E=> ?_) J)⟩
 ·rw[ca,cell_of_row w q (n+j) cells e (0,0) C];exact E
 ·rw[List.getElem?_map]at z;rcases Nat.lt_or_ge j A.1.length with hl | hl
  ·rw[List.getElem?_eq_getElem hl]at z;cases z;exact⟨_,by rw[ca,cell_of_row w q (0+j) cells e (0,0) C,Nat.zero_add];exact M j hl,dB _ _ _⟩
  ·rw[List.getElem?_eq_none hl]at z;cases z
 ·rw[ca,cell_of_row w q _ cells e (0,0) C,List.length_map,Nat.zero_add,A.2];exact E
theorem Cl(m:Mem Bw w0 ρ φ h w){o:Oper}{a:Act}{t:TypeId}{ti:TI}(j:aQ P t ti){xo:Operand}{id i sz off:Nat}(p:V (Fr (own φ h) Bw w) ρ (.adr id i sz off) (a.eval xo))(u:o.op = .load t xo)
  {k:IntKind} {n:Nat} {x:ep n} {c:List ag} (hb:h id=some (.lmp k n x c)) {q:Nat} (z:i*sz+off=n+q) {y:ag} (A:dV ti c q=some y):Good P o a w (aE Bw w0 ρ φ h w new y []):=by
 obtain⟨g,e,B,_⟩:=zf m hb p;obtain⟨v,f,C⟩:=gn (P:=P) j B A;rw[ca]at f;refine Good.aH (v:=v) (w':=w) ?_ (aE.pure m C);simp[execOp,u,Instr.loadAt,e,Instr.sureAddr,z,f]
theorem CD(m:Mem Bw w0 ρ φ h w){o:Oper}{a:Act}{t:TypeId}{ti:TI}(J:aQ P t ti)(z:ti.k.agg=true){xo:Operand}{id i sz off:Nat}(L:V (Fr (own φ h) Bw w) ρ (.adr id i sz off) (a.eval xo))(M:o.op = .load t xo)
  {k:IntKind} {n:Nat} {f:ep n} {q:List ag} (hb:h id=some (.lmp k n f q)) (N:i*sz+off=0) (B:ti.size=n+q.length):Good P o a w (aE Bw w0 ρ φ h w new (.lag k n f q) []):=by
 obtain⟨g,e,_,O⟩:=zf m hb L;have c:(f.1.map (fun i=>ag.p false (.int k) i)++q).length=ti.size:=by simp[f.2,B]
 obtain⟨v,C,D⟩:=gn (P:=P) J O (off:=0) (x:= .agg (f.1.map (fun i=>ag.p false (.int k) i)++q)) (by
  unfold dV;rw[z,if_pos rfl,if_pos (by rw[c];omega),List.drop_zero,List.take_of_length_le (by rw[c];exact Nat.le_refl _)])
 have R:V (Fr (own φ h) Bw w) ρ (.lag k n f q) v:=by
  simp only[V]at D;obtain⟨vs,rfl,X,E⟩:=D;refine F9 (by rw[X,c,B]) (fun j A=> ?_) (VL.mono (fun _ _ _ h=>h) (fun _ _ h=>h) (fun j u A=> ?_) (VL.drop (n:=n) E |> fun Y=>by rwa [List.drop_append_of_le_length (by simp[f.2]),List.drop_of_length_le (by simp[f.2]),List.nil_append]at Y))
  ·obtain⟨u,I,Z⟩:=VL.get E (k:=j) (x:= .p false (.int k) f.1[j]) (by rw[List.getElem?_append_left (by simpa using A),List.getElem?_map,List.getElem?_eq_getElem A];rfl);rw[bV Z]at I;exact I
  ·exact A
 have e0:(⟨g,0,none⟩:Addr).add 0=⟨g,0,none⟩:=by simp[Addr.add]
 rw[e0]at C;refine Good.aH (v:=v) (w':=w) ?_ (aE.pure m R);simp[execOp,M,Instr.loadAt,e,Instr.sureAddr,N,C]
theorem Ac(m:Mem Bw w0 ρ φ h w){o:Oper}{a:Act}{t:TypeId}{ti:TI}(ht:aQ P t ti){xo yo:Operand}{id i sz off:Nat}(X:V (Fr (own φ h) Bw w) ρ (.adr id i sz off) (a.eval xo))
  {y:ag} (hy:V (Fr (own φ h) Bw w) ρ y (a.eval yo)) (hc:(cellsOf y).all ag.cell=true) (ho:o.op = .store t xo yo) {k:IntKind} {n:Nat} {I:ep n} {B:List ag} (hi:h id=some (.lmp k n I B))
  (f:(cellsOf y).length=ti.size) {q:Nat} (hq:i*sz+off=n+q) (C:q+ti.size≤B.length) :
  Good P o a w (aE Bw w0 ρ φ h w new .unk [(id,some (.lmp k n I (wr B q (cellsOf y))))]):=by
 obtain⟨u,L,g,Y,cells,rfl,M,Z,r2,r3,r4⟩:=m.ob id _ hi;simp only[V]at X;obtain⟨g',A,he⟩:=X;rw[L]at A;have N:g=g':=by
  rcases A with A | ⟨n,c,A⟩
  ·simpa using A
  ·cases A
 subst N;obtain⟨h1,O,h3⟩:=fA hc hy;have D:=iJ (P:=P) ht Z (v:=a.eval yo) (p:=n+q) (by rw[O,f]) (by rw[r2];omega) h3;rw[hq]at he;refine Good.kx (w':=_) (by simp[execOp,ho,Instr.storeAt,he,Instr.sureAddr,D];rfl) ?_;refine eH m (some id) id (.lmp k n I (wr B q (cellsOf y))) (.pointer (some ⟨g,0,none⟩)) (φ id) (some g) (bf w g _) (fun k e=>⟨id,_,rfl,hi,rfl,by cases e;assumption⟩) (.inr ⟨rfl,L⟩)
  (fun _ k x=>Nat.lt_of_lt_of_le (m.lt id _ k hi rfl x) (bf w g _).size) (fun _ k x=> .inr ⟨id,_,rfl,hi,rfl,x⟩) (fun F' E R z=> ?_) (by rw[aZ];rfl) (fun e=>by rw[L]at e;cases e) (fun F' E R z a1=>by simp only[V])
 refine⟨g,Y,_,rfl,M,setRow_heap w g cells _ Y _ Z,?_,fun j hj=> ?_,?_⟩
 ·simp only[List.size_toArray,List.length_append,List.length_take,List.length_drop,Array.length_toList,O,f,wr];omega
 ·have a2:j<n:=by rw[←I.2];exact hj
  simp only[List.getElem?_toArray];rw[List.getElem?_append_left (by simp;omega),List.getElem?_take,if_pos (by omega),Array.getElem?_toList];exact r3 j hj
 ·have h4:VL F' E B (fun k u=>(cells.toList.drop n)[k]? = some u):=VL.mono R z (fun k u x=>by rw[List.getElem?_drop,Array.getElem?_toList];exact x) r4;have:=EJ (p:=q) (by rw[f];exact C) (by simp[r2]) O h4 (VL.mono R z (fun _ _ h=>h) h1);rw[f]at this;refine VL.mono (fun _ _ _ h=>h) (fun _ _ h=>h) (fun k u x=> ?_) this;rw[←x];simp only[List.getElem?_toArray];have e:cells.toList.take (n+q)++((a.eval yo).cells.toList++cells.toList.drop (n+q+ti.size))=cells.toList.take n++((cells.toList.drop n).take q++(a.eval yo).cells.toList++(cells.toList.drop n).drop (q+ti.size)):=by rw[List.take_add,List.drop_drop,Nat.add_assoc];simp only[List.append_assoc]
  rw[e,List.getElem?_append_right (by simp;omega)];congr 1;simp
  omega
/-! ### J -/
theorem rG(m:Mem Bw w0 ρ φ h w){o:Oper}{a:Act}{op:BinOp}(f:op = .add∨op = .sub∨op = .mul∨op = .quo){t k:TypeId}{xo yo:Operand}(u:o.op = .binOp op t xo yo k){β j:Bool}{x y:Option Nat}
  (z:V (Fr (own φ h) Bw w) ρ (.p β .flt x) (a.eval xo)) (A:V (Fr (own φ h) Bw w) ρ (.p j .flt y) (a.eval yo)):Good P o a w (aE Bw w0 ρ φ h w new (.p false .flt (bN op x y)) []):=by
 obtain⟨p,B,rfl⟩:=zn z;obtain⟨q,C,rfl⟩:=zn A;obtain⟨n,w',D,E,I⟩:=CX (P:=P) (w:=w) f p q;have c:(execOp a.eval o).run P w = .ok (.value (.float .f64 n)) w':=by
  simp only[execOp,u,B,C];rw[Sem.run_bind,Sem.run_bind,bJ (by intro M e;cases e) (by intro e;cases e)];have hb:(binOp op t (.float .f64 p) (.float .f64 q)).run P w = .ok (.float .f64 n) w':=by rcases f with rfl | rfl | rfl | rfl <;> (simp only[binOp,ne_eq,not_true_eq_false,if_false];exact D)
  simp only[Result.andThen_ok,hb];rfl
 rw[←I];rcases E with rfl | rfl
 ·exact Good.aH c (aE.pure m (Aq _ _))
 ·obtain⟨J,L⟩:=m.drew;exact Good.aH c (aE.after (u1:=[]) rfl L (aE.pure J (Aq _ _)))
theorem BL(m:Mem Bw w0 ρ φ h w){o:Oper}{a:Act}{st j:TypeId}{z q:TI}(A:aQ P st z)(B:aQ P j q){k:IntKind}(C:q.k = .int k){xo:Operand}(D:o.op = .convert st j xo){β:Bool}{x:Option Nat}
  (E:V (Fr (own φ h) Bw w) ρ (.p β .flt x) (a.eval xo)) (c:(ov x).isSome=true∧k.min≤(ov x).getD 0∧(ov x).getD 0≤k.max):Good P o a w (aE Bw w0 ρ φ h w new (.p false (.int k) ((ov x).getD 0)) []):=by
 obtain⟨p,I,rfl⟩:=zn E;obtain⟨J,L,O⟩:=A.hu;obtain⟨R,M,e⟩:=B.hu;rw[C]at e;simp only[UK]at e;subst e;cases f:dw p with
 | none=>rw[f]at c;exact absurd c.1 (by simp[ov])
 | some u =>
  obtain rfl:=jN f;rw[f]at c;cases hi:(FloatKind.f64.decode u).toInt .zero with
  | none=>exact absurd c.1 (by simp[ov,hi])
  | some n =>
   have N:ov (some u)=some n:=by simp[ov,hi]
   rw[N]at c ⊢;simp only[Option.getD_some]at c ⊢;refine Good.aH (v:= .int k n) (w':=w) ?_ (aE.pure m (dB _ _ _));simp only[execOp,D,I,convert,Sem.run_bind,run_underlying L,run_underlying M,Result.andThen_ok];cases J <;> simp[Conv.floatToInt,hi,c.2]
end
end Go.Tv
