/- Operations on memory: literals, make, parts of slices and structs. -/
import Derived.Test.YtmcemnfjddoejaaGreatDoorTvH
import Derived.Laws.CopyRow
namespace Go.Tv
open Go Go.RowKit
theorem yW(off:Nat):∀(l:List Value) (k:Nat) (c:Array Value),off+k+l.length≤c.size →
  ((l.zipIdx k).foldl (fun(c:Array Value) (p:Value×Nat)=>c.setIfInBounds (off+p.2) p.1) c).toList=c.toList.take (off+k)++l++c.toList.drop (off+k+l.length)
 | [],k,c,_=>by simp
 | v::l,k,c,h=>by
  simp only[List.zipIdx_cons,List.foldl_cons];simp only[List.length_cons]at h;rw[yW off l (k+1) _ (by simp;omega)];have:=list_seg_step c.toList (off+k) v l (by simp;omega);simpa [Array.toList_setIfInBounds,Nat.add_assoc,Nat.add_comm 1]using this
theorem uz(off:Nat)(v:Value)(c:Array Value)(h:off+v.cells.size≤c.size):
  (v.cells.zipIdx.foldl (fun(c:Array Value) (p:Value×Nat)=>c.setIfInBounds (off+p.2) p.1) c).toList=c.toList.take off++v.cells.toList++c.toList.drop (off+v.cells.size):=by
 rw[←Array.foldl_toList,Array.toList_zipIdx];have:=yW off v.cells.toList 0 c (by simpa using h);simpa using this
theorem AI(size:Nat):∀(e:List Value) (k:Nat) (c:Array Value),(∀v∈e,v.cells.size=size)→(k+e.length)*size=c.size →
  ∃r,Instr.fill (fun i=>some (i*size,size)) c ((e.zipIdx k).map fun p=>(p.2,p.1))=some r∧r.toList=c.toList.take (k*size)++e.flatMap (fun v=>v.cells.toList)
 | [],k,c,_,h=>⟨c,by simp[Instr.fill],by simp at h;rw[h,List.take_of_length_le (by simp)];simp⟩
 | v::e,k,c,m,h=>by
  have f:=m v (by simp);have j:k*size+size≤c.size:=by rw[←h,List.length_cons,←Nat.succ_mul];exact Nat.mul_le_mul_right _ (by omega)
  have q:=uz (k*size) v c (by rw[f];exact j);obtain⟨r,x,z⟩:=AI size e (k+1) (v.cells.zipIdx.foldl (fun(c:Array Value) (p:Value×Nat)=>c.setIfInBounds (k*size+p.2) p.1) c) (fun u hu=>m u (by simp[hu])) (by
   have:(v.cells.zipIdx.foldl (fun(c:Array Value) (p:Value×Nat)=>c.setIfInBounds (k*size+p.2) p.1) c).size=c.size:=by rw[←Array.length_toList,q];simp only[List.length_append,List.length_take,List.length_drop,Array.length_toList,f];omega
   rw[this,←h,List.length_cons];congr 1;omega)
  refine⟨r,?_,?_⟩
  ·simp only[List.zipIdx_cons,List.map_cons,Instr.fill];rw[if_neg (by simp[f];omega)];exact x
  ·rw[z,q,List.flatMap_cons];have A:(c.toList.take (k*size)).length=k*size:=by simp only[List.length_take,Array.length_toList];omega
   rw[List.take_left' (by rw[List.length_append,A,Array.length_toList,f,Nat.succ_mul]),List.append_assoc]
def iA(F:Bool→Addr→Value→Prop)(ρ:Nat→Option Value):List ag→List Value→Prop
 | [],[]=>True
 | x::xs,v::vs=>V F ρ x v∧iA F ρ xs vs
 | _,_=>False
theorem iA.mono{F F':Bool→Addr→Value→Prop}{ρ ρ':Nat→Option Value}(z:∀β a v,F β a v→F' β a v)(j:∀i u,ρ i=some u→ρ' i=some u):∀ {xs:List ag} {vs:List Value},iA F ρ xs vs→iA F' ρ' xs vs
 | [],[],_=>trivial
 | _::_,_::_,h=>⟨V.mono z j h.1,iA.mono z j h.2⟩
 | [],_::_,h=>h
 | _::_,[],h=>h
theorem jw{F:Bool→Addr→Value→Prop}{ρ:Nat→Option Value}{n:NS}{a:Act}{s:Nat→ag}(h:bP n F ρ s a):∀(xs:List Operand),iA F ρ (xs.map (ev s)) (xs.map a.eval)
 | []=>trivial
 | x::xs=>⟨aY h x,jw h xs⟩
def BT(A:Ty)(h:Nat→Option Obj):List ag→Option (List A.den×hZ)
 | []=>some ([],[])
 | x::xs=>match F5 A h x with
  | some (y,u)=>match BT A (apply u h) xs with
   | some (c,f)=>some (y::c,u++f)
   | none=>none
  | none=>none
section
variable{P:Program}{Bw:Nat→Prop}{w0:b9 P}{ρ:Nat→Option Value}{φ:Nat→Nat→Prop}{h:Nat→Option Obj}{w:World}{new:Nat}
theorem wZ{A:Ty}:∀ {p:List ag} {h:Nat→Option Obj} {q:List A.den} {z:hZ},Mem Bw w0 ρ φ h w→BT A h p=some (q,z)→(∀x∈p,(cellsOf x).all ag.cell=true) →
  Mem Bw w0 ρ φ (apply z h) w∧(∀β a v,Fr (own φ h) Bw w β a v→Fr (own φ (apply z h)) Bw w β a v)∧q.length=p.length ∧
  ∀vs,iA (Fr (own φ h) Bw w) ρ p vs→vs.length=p.length∧(∀v∈vs,v.cells.size=A.size∧∀c∈v.cells.toList,c.oneCell'=true) ∧
   ∀i (hi:i<q.length),ai (Fr (own φ (apply z h)) Bw w false) A q[i] (fun k u=>(vs.flatMap fun v=>v.cells.toList)[i*A.size+k]? = some u)
 | [],h,q,z,m,f,_=>by
  cases f;refine⟨m,fun _ _ _ h=>h,rfl,fun vs B=> ?_⟩;cases vs with
  | nil=>exact⟨rfl,fun v B=>by simp at B,fun i hi=>absurd hi (by simp)⟩
  | cons _ _=>exact B.elim
 | x::p,h,q,z,m,f,D=>by
  simp only[BT]at f;split at f
  ·rename_i y u J;split at f
   ·rename_i L M N;cases f;obtain⟨O,E,R⟩:=mN m J;obtain⟨V,I,X,g2⟩:=wZ O N (fun x Y=>D x (by simp[Y]));rw[gG];refine⟨V,fun β a v Z=>I _ _ _ (E _ _ _ Z),by simp[X],fun vs B=> ?_⟩;cases vs with
    | nil=>exact B.elim
    | cons v vs =>
     obtain⟨q1,q2⟩:=B;obtain⟨r1,r2,r3⟩:=fA (D x (by simp)) q1;obtain⟨s1,s2⟩:=R _ r1;obtain⟨t1,t2,t3⟩:=g2 vs (iA.mono E (fun _ _ h=>h) q2);have j:v.cells.size=A.size:=by rw[s2,←r2,Array.length_toList]
     refine⟨by simp[t1],fun u hu=> ?_,fun i hi=> ?_⟩
     ·rcases List.mem_cons.1 hu with rfl | hu
      ·exact⟨j,r3⟩
      ·exact t2 u hu
     ·rw[List.flatMap_cons];cases i with
      | zero=>exact ai.mono (I _) (fun k u C=>by rw[Nat.zero_mul,Nat.zero_add,List.getElem?_append_left (List.getElem?_eq_some_iff.1 C).1];exact C) s1
      | succ i =>
       refine ai.mono (fun _ _ h=>h) (fun k u C=> ?_) (t3 i (by simpa using hi));rw[List.getElem?_append_right (by rw[Array.length_toList,j,Nat.succ_mul];omega),Array.length_toList,j,←C];congr 1;rw[Nat.succ_mul];omega
   ·cases f
  ·cases f
theorem pq{A:Ty}:∀ {vs:List Value},(∀v∈vs,v.cells.size=A.size)→(vs.flatMap fun v=>v.cells.toList).length=vs.length*A.size
 | [],_=>by simp
 | v::vs,h=>by
  rw[List.flatMap_cons,List.length_append,pq (fun u hu=>h u (by simp[hu])),Array.length_toList,h v (by simp),List.length_cons,Nat.succ_mul,Nat.add_comm]
theorem oR{t e:TypeId}{ti f:TI}(x:aQ P t ti)(B:ti.k = .sl e)(j:aQ P e f){vs:List Value}(C:∀v∈vs,v.cells.size=f.size)(D:vs.length*f.size≤16777216):
  (Instr.buildSlice t vs.length ((vs.zipIdx 0).map fun p=>(p.2,p.1)).toArray).run P w = .ok (.slice (some ⟨w.heap.size,0,none⟩) vs.length vs.length) (w.alloc (.cells (vs.flatMap fun v=>v.cells.toList).toArray e)):=by
 have hu:=bd x B;obtain⟨z,hz,_,E,_⟩:=dg j w;have c:∀q:Array Value,q.size=vs.length*f.size→Instr.fill (fun i=>some (i*f.size,f.size)) q ((vs.zipIdx 0).map fun p=>(p.2,p.1))=some (vs.flatMap fun v=>v.cells.toList).toArray:=fun q I=>by obtain⟨r,J,L⟩:=AI f.size vs 0 q C (by rw[I,Nat.zero_add]);rw[J];congr 1;apply Array.ext';rw[L];simp
 have m:¬(vs.length*f.size > 2 ^ 24):=by omega
 by_cases u:vs.length*f.size=0
 ·have:=c #[] (by simp[u]);simp[Instr.buildSlice,run_underlying hu,run_sizeOf j,u,Array.range_zero',this,newRow]
 ·have:=c ((Array.range (vs.length*f.size)).map (z.cells[· % z.cells.size]!)) (by simp);simp[Instr.buildSlice,run_underlying hu,run_sizeOf j,m,u,hz,this,newRow]
theorem vm(m:Mem Bw w0 ρ φ h w)(hn:ρ new=none){o:Oper}{a:Act}{t e:TypeId}{ti L:TI}(ht:aQ P t ti)(C:ti.k = .sl e)(D:aQ P e L){A:Ty}(hT:L.T=some A)(h0:0<A.size)
  {parts:Array (Nat×Operand)} {len:Nat} (ho:o.op = .buildSlice t len parts) (N:parts.toList.map (·.1)=List.range len) {xs:List ag}
  (hx:iA (Fr (own φ h) Bw w) ρ xs (parts.toList.map fun p=>a.eval p.2)) (hc:∀x∈xs,(cellsOf x).all ag.cell=true) {M:List A.den} {us:hZ} (hy:BT A h xs=some (M,us)) (O:len*L.size≤16777216) :
  Good P o a w (aE Bw w0 ρ φ h w new (.sl new) (us++[(new,some (.arr e A M))])):=by
 obtain⟨R,_,_⟩:=D.hT A hT;obtain⟨m',X,hl,hg⟩:=wZ m hy hc;obtain⟨g1,g2,g3⟩:=hg _ hx;have c:(parts.toList.map fun p=>a.eval p.2).length=len:=by have:=congrArg List.length N;simpa using this
 have z:(parts.map fun p=>(p.1,a.eval p.2))=(((parts.toList.map fun p=>a.eval p.2).zipIdx 0).map fun p=>(p.2,p.1)).toArray:=by
  apply Array.ext';simp only[Array.toList_map];apply List.ext_getElem?;intro j;simp only[List.getElem?_map,List.getElem?_zipIdx,Option.map_map];have E:=congrArg (fun l=>l[j]?) N;simp only[List.getElem?_map]at E;cases Y:parts.toList[j]? with
  | none=>simp[Y]
  | some p =>
   simp only[Y,Option.map_some]at E ⊢;have Z:j<len:=by have:=(List.getElem?_eq_some_iff.1 Y).1;have h2:=congrArg List.length N;simp only[List.length_map,List.length_range]at h2;omega
   rw[List.getElem?_range Z]at E;simp only[Option.some.injEq]at E;simp[E]
 have B:=oR (P:=P) (w:=w) ht C D (vs:=parts.toList.map fun p=>a.eval p.2) (fun v hv=>by rw[(g2 v hv).1,R]) (by rw[c];exact O);rw[c,←z]at B;refine Good.aH (v:=_) (w':=_) (by simp only[execOp,ho,Sem.run_bind,B,Result.andThen_ok];rfl) ?_;refine aE.after rfl X ?_;have f:M.length=len:=by rw[hl,←g1,c]
 have I:=pq (A:=A) (fun v hv=>(g2 v hv).1);rw[c]at I;have q:=World.ownsRow_lit (w:=w) (base:=0) (e:=e) (size:=A.size) ((parts.toList.map fun p=>a.eval p.2).flatMap fun v=>v.cells.toList).toArray len (Nat.zero_le _) (by unfold maxLen;have:len≤len*L.size:=Nat.le_mul_of_pos_right _ (by omega);omega) (by simpa using I);refine cQ m' none new (.arr e A M) (.slice (some ⟨w.heap.size,0,none⟩) len len) none (World.grownBy_alloc w _ none) (fun k e=>by cases e) (.inl hn) (fun _ k C=> ?_) (fun F' a1 hF a2=> ?_) (by rw[bn];rfl) (fun _=>rfl) (fun F' a1 hF a2 J=> ?_)
 ·simp only[iB,Option.some.injEq]at C;exact .inl (by omega)
 ·rw[←f]at q;simp only[OR];refine⟨fun _ h=>h,h0,_,by rw[f]at q ⊢;exact q,fun i hi=>ai.mono (hF _) (fun k u C=>by simpa using C) (g3 i hi)⟩
 ·simp only[V];exact⟨J,_,_,_,rfl⟩
theorem wQ(m:Mem Bw w0 ρ φ h w)(hn:ρ new=none){o:Oper}{a:Act}{t e:TypeId}{ti O:TI}(ht:aQ P t ti)(B:ti.k = .sl e)(C:aQ P e O){A:Ty}(hT:O.T=some A)(h0:0<A.size)
  {lo co:Operand} (ho:o.op = .makeSlice t lo co) {β R:Bool} {kl kc:IntKind} {l c:Int} (hl:V (Fr (own φ h) Bw w) ρ (.p β (.int kl) l) (a.eval lo)) (hc:V (Fr (own φ h) Bw w) ρ (.p R (.int kc) c) (a.eval co))
  (h1:0≤l) (h2:l≤c) (h3:(O.bytes:Int)*c≤281474976710656) (h4:c≤9223372036854775807) :
  Good P o a w (aE Bw w0 ρ φ h w new (.sl new) [(new,some (.arr e A (List.replicate l.toNat A.zero)))]):=by
 obtain⟨i,z,hi,hz,f,q,X,Y,a5⟩:=C.hi;obtain⟨x,a6,Z⟩:=C.hT A hT;have hu:=bd ht B;have D:=run_make (P:=P) w t e i z hu hi hz kl kc l c h1 h2 (by rw[q];exact h3) h4;refine Good.aH (v:=_) (w':=_) (by simp only[execOp,ho,bV hl,bV hc,Sem.run_bind,D,Result.andThen_ok];rfl) ?_;have hm:(madeCells z.cells (c.toNat*i.size)).size=c.toNat*i.size:=size_madeCells _ _;have E:l.toNat≤c.toNat:=by omega
 have a4:l.toNat*A.size≤c.toNat*i.size:=by rw[f,←x];exact Nat.mul_le_mul_right _ E
 refine cQ m none new (.arr e A (List.replicate l.toNat A.zero)) (.slice (some ⟨w.heap.size,0,none⟩) l.toNat c.toNat) none (World.grownBy_alloc w _ none) (fun k e=>by cases e) (.inl hn) (fun _ k B=> ?_) (fun F' I hF a1=> ?_) (by rw[bn];rfl) (fun _=>rfl) (fun F' I hF a1 J=> ?_)
 ·simp only[iB,Option.some.injEq]at B;exact .inl (by omega)
 ·refine⟨fun _ h=>h,h0,(madeCells z.cells (c.toNat*i.size)).toList.take (l.toNat*A.size),⟨?_,.inr ⟨w.heap.size,c.toNat,madeCells z.cells (c.toNat*i.size),?_,Nat.zero_le _,heap_alloc_new w _,?_,?_,?_,?_⟩⟩,fun j hj=> ?_⟩
  ·simp only[List.length_take,Array.length_toList,hm,List.length_replicate];omega
  ·simp
  ·simpa using E
  ·unfold maxLen;omega
  ·rw[hm,f,←x]
  ·simp
  ·simp only[List.length_replicate]at hj;simp only[List.getElem_replicate];have a2:ai (F' false) A A.zero (fun k u=>z.cells.toList[k]? = some u):=by have:=g9 (F:=F') (ρ:=I) z.cells.toList;rw[X]at this;exact(cy Z this).1
   refine ai.fR (fun k v B N=> ?_) a2;have a7:j*A.size+A.size≤l.toNat*A.size:=by rw[←Nat.succ_mul];exact Nat.mul_le_mul_right _ hj
   have L:z.cells.size=A.size:=by rw[Y,←x]
   rw[List.getElem?_take,if_pos (by omega)];have a3:j*A.size+k<c.toNat*i.size:=by omega
   have e1:(madeCells z.cells (c.toNat*i.size)).toList[j*A.size+k]? = some (z.cells[(j*A.size+k) % z.cells.size]!):=by simp[madeCells,a3]
   rw[e1,L,Nat.mul_comm,Nat.mul_add_mod,Nat.mod_eq_of_lt B];have M:k<z.cells.size:=by omega
   simp only[Array.getElem?_toList]at N;rw[Array.getElem?_eq_getElem M]at N;simp only[Option.some.injEq]at N;simp[M,N]
 ·simp only[V];exact⟨J,_,_,_,rfl⟩
theorem Ab(m:Mem Bw w0 ρ φ h w)(hn:ρ new=none){o:Oper}{a:Act}{t e O:TypeId}{ti E:TI}(ht:aQ P t ti)(I:ti.k = .sl e)(J:aQ P e E){A:Ty}(hT:E.T=some (.slice A))(hz:E.z=[.nils])(h0:0<A.size)
  {lo co:Operand} (ho:o.op = .makeSlice t lo co) {β X:Bool} {kl kc:IntKind} {l c:Int} (hl:V (Fr (own φ h) Bw w) ρ (.p β (.int kl) l) (a.eval lo)) (hc:V (Fr (own φ h) Bw w) ρ (.p X (.int kc) c) (a.eval co))
  (h1:0≤l) (h2:l≤c) (h3:(E.bytes:Int)*c≤281474976710656) (h4:c≤9223372036854775807) :
  Good P o a w (aE Bw w0 ρ φ h w new (.sl new) [(new,some (.mat e O A (List.replicate l.toNat []) none))]):=by
 obtain⟨i,z,hi,Y,C,x,Z,a1,a9⟩:=J.hi;obtain⟨a2,aa,ac⟩:=J.hT _ hT;have B:E.size=1:=by rw[←a2];rfl
 have hu:=bd ht I;have L:=run_make (P:=P) w t e i z hu hi Y kl kc l c h1 h2 (by rw[x];exact h3) h4;refine Good.aH (v:=_) (w':=_) (by simp only[execOp,ho,bV hl,bV hc,Sem.run_bind,L,Result.andThen_ok];rfl) ?_;have hm:(madeCells z.cells (c.toNat*i.size)).size=c.toNat*i.size:=size_madeCells _ _;have a3:l.toNat≤c.toNat:=by omega
 have D:i.size=1:=by rw[C,B]
 have a4:z.cells.size=1:=by rw[a1,B]
 have a5:z.cells[0]! = .slice none 0 0:=by have:=g9 (F:=fun _ _ _=>True) (ρ:=fun _=>none) z.cells.toList;rw[Z,hz]at this;simp only[VL,V]at this;obtain⟨⟨u,R,q2⟩,_⟩:=this;simp only[Array.getElem?_toList]at R;rw[q2]at R;rw[getElem!_pos z.cells 0 (by omega)];rw[Array.getElem?_eq_getElem (by omega)]at R;exact Option.some.inj R
 have f:∀j,j<l.toNat→((madeCells z.cells (c.toNat*i.size)).toList.take (l.toNat*1))[j]? = some (.slice none 0 0):=fun j hj=>by
  rw[List.getElem?_take,if_pos (by omega)];have a6:j<c.toNat*i.size:=by rw[D];omega
  have M:(madeCells z.cells (c.toNat*i.size)).toList[j]? = some (z.cells[j % z.cells.size]!):=by simp[madeCells,a6]
  rw[M,a4,Nat.mod_one,a5]
 refine cQ m none new (.mat e O A (List.replicate l.toNat []) none) (.slice (some ⟨w.heap.size,0,none⟩) l.toNat c.toNat) none (World.grownBy_alloc w _ none) (fun k e=>by cases e) (.inl hn) (fun _ k I=> ?_) (fun F' a7 hF a8=> ?_) (by rw[bn];rfl) (fun _=>rfl) (fun F' a7 hF a8 N=> ?_)
 ·simp only[iB,Option.some.injEq]at I;exact .inl (by omega)
 ·refine⟨fun _ h=>h,h0,fun _ _ e=>(by cases e),(madeCells z.cells (c.toNat*i.size)).toList.take (l.toNat*1),⟨?_,.inr ⟨w.heap.size,c.toNat,madeCells z.cells (c.toNat*i.size),?_,Nat.zero_le _,heap_alloc_new w _,?_,?_,?_,?_⟩⟩,fun j hj=> ?_,fun r r' vr ad b _ _ _ M O b1=> ?_⟩
  ·simp only[List.length_take,Array.length_toList,hm,List.length_replicate];rw[D];omega
  ·simp
  ·simpa using a3
  ·unfold maxLen;omega
  ·rw[hm,D]
  ·simp
  ·simp only[List.length_replicate]at hj;refine⟨_,f j hj,⟨_,_,_,rfl⟩,fun _=>⟨fun k I=>by simp[iB]at I,[],?_,fun q hq=> ?_⟩,fun id e=>by cases e⟩
   ·simp only[List.getElem_replicate,List.length_nil];exact World.ownsRow_nil _ 0 O A.size
   ·simp at hq
  ·have hr:r<l.toNat:=by have:=(List.getElem?_eq_some_iff.1 M).1;simp only[List.length_take]at this;omega
   rw[f r hr]at M;cases M;simp[iB]at b1
 ·simp only[V];exact⟨N,_,_,_,rfl⟩
end
end Go.Tv
namespace Go.Tv
open Go Go.RowKit
section
variable{P:Program}{Bw:Nat→Prop}{w0:b9 P}{ρ:Nat→Option Value}{φ:Nat→Nat→Prop}{h:Nat→Option Obj}{w:World}{new:Nat}
theorem A3{α β:Type}(f:α→Sem β)(g:α→β)(w:World):∀(l:List α),(∀x∈l,(f x).run P w = .ok (g x) w)→(l.mapM f).run P w = .ok (l.map g) w
 | [],_=>rfl
 | x::l,h=>by
  rw[List.mapM_cons,Sem.run_bind,h x (by simp)];simp only[Result.andThen_ok,Sem.run_bind,A3 f g w l (fun y c=>h y (by simp[c]))];rfl
def parts(tb:bR)(fs:List (Nat×TypeId)):List (Nat×ag)→List ag→Option (List ag)
 | [],f=>some f
 | (i,x)::r,f=>match fs[i]? with
  | some (off,j)=>match tb.find j with
   | some c=>if(cellsOf x).length=c.size∧(cellsOf x).all ag.cell∧off+c.size≤f.length then parts tb fs r (wr f off (cellsOf x))else none
   | none=>none
  | none=>none
theorem pD{tb:bR}(A:bS P tb){F:Bool→Addr→Value→Prop}{fs:List (Nat×TypeId)}{pl:Nat→Option (Nat×Nat)}
  (B:∀i off D,fs[i]? = some (off,D)→∃L,P.info? D=some L∧pl i=some (off,L.size)) :
  ∀ {ps:List (Nat×ag)} {vs:List Value} {c C:List ag} {us:Array Value},parts tb fs ps c=some C→iA F ρ (ps.map (·.2)) vs→us.size=c.length→VL F ρ c (fun k u=>us[k]? = some u) →
   ∃e,Instr.fill pl us ((ps.map (·.1)).zip vs)=some e∧e.size=C.length∧VL F ρ C (fun k u=>e[k]? = some u)
 | [],vs,c,C,us,h,E,q,hl=>by
  simp only[parts,Option.some.injEq]at h;subst h;cases vs with
  | nil=>exact⟨us,rfl,q,hl⟩
  | cons _ _=>exact E.elim
 | (i,x)::r,vs,c,C,us,h,E,q,hl=>by
  simp only[parts]at h;split at h
  ·rename_i off D I;split at h
   ·rename_i M N;split at h
    ·rename_i j;obtain⟨J,c2,O⟩:=j;cases vs with
     | nil=>exact E.elim
     | cons v vs =>
      obtain⟨q1,q2⟩:=E;obtain⟨r1,Y,r3⟩:=fA c2 q1;obtain⟨L,R,hp⟩:=B i off D I;obtain⟨i2,z,Z,_,e3,_⟩:=(A.find N).hi;rw[R]at Z;cases Z;have f:v.cells.size=M.size:=by rw[←Array.length_toList,Y,J]
      have I:=uz off v us (by rw[f,q];exact O);have m:(v.cells.zipIdx.foldl (fun(c:Array Value) (p:Value×Nat)=>c.setIfInBounds (off+p.2) p.1) us).size=(wr c off (cellsOf x)).length:=by rw[←Array.length_toList,I,Fq (by rw[J];exact O)];simp only[List.length_append,List.length_take,List.length_drop,Array.length_toList,f,q];omega
      have V:VL F ρ (wr c off (cellsOf x)) (fun k u=>(v.cells.zipIdx.foldl (fun(c:Array Value) (p:Value×Nat)=>c.setIfInBounds (off+p.2) p.1) us)[k]? = some u):=by have:=EJ (p:=off) (us:=us.toList) (by rw[J];exact O) (by simpa using q) Y (VL.mono (fun _ _ _ h=>h) (fun _ _ h=>h) (fun k u X=>by simpa using X) hl) r1;refine VL.mono (fun _ _ _ h=>h) (fun _ _ h=>h) (fun k u X=> ?_) this;rw[←Array.getElem?_toList,I,f,←J];exact X
      obtain⟨e,t1,t2,t3⟩:=pD A B h q2 m V;refine⟨e,?_,t2,t3⟩;simp only[List.map_cons,List.zip_cons_cons,Instr.fill,hp];rw[if_neg (by simp[f,e3,q];omega)];exact t1
    ·cases h
   ·cases h
  ·cases h
theorem wA(m:Mem Bw w0 ρ φ h w){tb:bR}(L:bS P tb){o:Oper}{a:Act}{t:TypeId}{ti:TI}(O:aQ P t ti){fs:List (Nat×TypeId)}(hk:ti.k = .st fs)
  {ps:Array (Nat×Operand)} (ho:o.op = .build t ps) {xs:List ag} (R:iA (Fr (own φ h) Bw w) ρ xs (ps.toList.map fun p=>a.eval p.2)) {X:List ag}
  (hd:parts tb fs ((ps.toList.map (·.1)).zip xs) ti.z=some X):Good P o a w (aE Bw w0 ρ φ h w new (.agg X) []):=by
 obtain⟨z,hz,q,a1,a2⟩:=dg O w;obtain⟨d,h1,Y⟩:=O.hu;rw[hk]at Y;obtain⟨E,rfl,h3,Z⟩:=Y;have e:xs.length=ps.toList.length:=by
  have key:∀(xs:List ag) (vs:List Value),iA (Fr (own φ h) Bw w) ρ xs vs→xs.length=vs.length:=fun xs=>by
   induction xs with
   | nil=>intro vs I;cases vs with | nil=>rfl | cons _ _=>exact I.elim
   | cons x xs ih=>intro vs I;cases vs with | nil=>exact I.elim | cons v vs=>simp[ih vs I.2]
  rw[key _ _ R,List.length_map]
 have M:∀f∈E.toList,(do pure (f.offset,←sizeOf f.type):Sem (Nat×Nat)).run P w = .ok (f.offset,((P.info? f.type).map (·.size)).getD 0) w:=fun f c=>by obtain⟨i,hi,_⟩:=Z f c;simp[sizeOf,typeInfo,hi]
 have u:=A3 (P:=P) (fun f:Field=>do pure (f.offset,←sizeOf f.type)) (fun f=>(f.offset,((P.info? f.type).map (·.size)).getD 0)) w E.toList M;have j:=pD (ρ:=ρ) L (F:=Fr (own φ h) Bw w) (fs:=fs) (pl:=fun i=>(E.toList.map (fun f=>(f.offset,((P.info? f.type).map (·.size)).getD 0))).toArray[i]?) (fun i off ft c=>by
  rw[←h3,List.getElem?_map]at c;cases J:E.toList[i]? with
  | none=>rw[J]at c;cases c
  | some fd =>
   rw[J]at c;simp only[Option.map_some,Option.some.injEq,Prod.mk.injEq]at c;obtain⟨i',B,_⟩:=Z fd (List.mem_of_getElem? J);refine⟨i',by rw[←c.2];exact B,?_⟩;simp only[List.getElem?_toArray,List.getElem?_map,J,Option.map_some,B,Option.getD_some,c.1]) (ps:=(ps.toList.map (·.1)).zip xs) (vs:=ps.toList.map fun p=>a.eval p.2) (us:=z.cells) hd
  (by rw[List.map_snd_zip (by simp[e])];exact R) (by rw[←q];simp) (by rw[←q];have:=g9 (F:=Fr (own φ h) Bw w) (ρ:=ρ) z.cells.toList;simpa using this)
 obtain⟨C,N,q2,q3⟩:=j;rw[List.map_fst_zip (by simp[e])]at N;have D:(ps.toList.map (·.1)).zip (ps.toList.map fun p=>a.eval p.2)=(ps.map fun p=>(p.1,a.eval p.2)).toList:=by simp[List.zip_map']
 rw[D]at N;refine Good.aH (v:= .agg C) (w':=w) ?_ (aE.pure m ?_)
 ·simp only[execOp,ho,Instr.build,Sem.run_bind,hz,Result.andThen_ok,run_underlying h1,Array.mapM_eq_mapM_toList,Sem.run_map,u,N];rfl
 ·simp only[V];exact⟨C,rfl,q2,q3⟩
theorem uJ(m:Mem Bw w0 ρ φ h w){tb:bR}(L:bS P tb){o:Oper}{a:Act}{t e:TypeId}{ti B:TI}{n:Nat}(X:aQ P t ti)(hk:ti.k = .ar n e)(M:aQ P e B)
  {ps:Array (Nat×Operand)} (ho:o.op = .build t ps) {xs:List ag} (Y:iA (Fr (own φ h) Bw w) ρ xs (ps.toList.map fun p=>a.eval p.2)) {Z:List ag}
  (hd:parts tb ((List.range n).map fun i=>(i*B.size,e)) ((ps.toList.map (·.1)).zip xs) ti.z=some Z):Good P o a w (aE Bw w0 ρ φ h w new (.agg Z) []):=by
 obtain⟨z,hz,C,a1,a2⟩:=dg X w;obtain⟨d,h1,N⟩:=X.hu;rw[hk]at N;simp only[UK]at N;subst N;obtain⟨i,_,hi,_,c,_⟩:=M.hi;have f:xs.length=ps.toList.length:=by
  have key:∀(xs:List ag) (vs:List Value),iA (Fr (own φ h) Bw w) ρ xs vs→xs.length=vs.length:=fun xs=>by
   induction xs with
   | nil=>intro vs J;cases vs with | nil=>rfl | cons _ _=>exact J.elim
   | cons x xs ih=>intro vs J;cases vs with | nil=>exact J.elim | cons v vs=>simp[ih vs J.2]
  rw[key _ _ Y,List.length_map]
 have hs:(sizeOf e).run P w = .ok B.size w:=by simp[sizeOf,typeInfo,hi,c]
 have q:=pD (ρ:=ρ) L (F:=Fr (own φ h) Bw w) (fs:=(List.range n).map fun i=>(i*B.size,e)) (pl:=fun i=>some (i*B.size,B.size)) (fun j off ft u=>by
  rw[List.getElem?_map]at u;cases O:(List.range n)[j]? with
  | none=>rw[O]at u;cases u
  | some k =>
   rw[O]at u;simp only[Option.map_some,Option.some.injEq,Prod.mk.injEq]at u;obtain⟨a3,D⟩:=List.getElem?_eq_some_iff.1 O;simp at D;refine⟨i,by rw[←u.2];exact hi,?_⟩;rw[←u.1,←D,c]) (ps:=(ps.toList.map (·.1)).zip xs) (vs:=ps.toList.map fun p=>a.eval p.2) (us:=z.cells) hd
  (by rw[List.map_snd_zip (by simp[f])];exact Y) (by rw[←C];simp) (by rw[←C];have:=g9 (F:=Fr (own φ h) Bw w) (ρ:=ρ) z.cells.toList;simpa using this)
 obtain⟨E,R,q2,q3⟩:=q;rw[List.map_fst_zip (by simp[f])]at R;have I:(ps.toList.map (·.1)).zip (ps.toList.map fun p=>a.eval p.2)=(ps.map fun p=>(p.1,a.eval p.2)).toList:=by simp[List.zip_map']
 rw[I]at R;refine Good.aH (v:= .agg E) (w':=w) ?_ (aE.pure m ?_)
 ·simp only[execOp,ho,Instr.build,Sem.run_bind,hz,Result.andThen_ok,run_underlying h1,hs,R];rfl
 ·simp only[V];exact⟨E,rfl,q2,q3⟩
def lenOf(h:Nat→Option Obj):ag→Option Int
 | .p _ (.slice _) e=>some e.length
 | .p _ .str s=>some s.length
 | .nils=>some 0
 | .sl id=>match h id with
  | some (.arr _ _ e)=>some e.length
  | some (.fz _ e)=>some e.length
  | some (.mat _ _ _ f _)=>some f.length
  | some (.bytes _ e)=>some e.length
  | _=>none
 | _=>none
theorem Bf(m:Mem Bw w0 ρ φ h w){o:Oper}{a:Act}{t:TypeId}{ti:TI}(ht:aQ P t ti)(D:(∃e,ti.k = .sl e)∨ti.k = .str){M:Operand}{x:ag}(q:V (Fr (own φ h) Bw w) ρ x (a.eval M))
  (X:o.op = .call { callee:= .builtin .len,args:= #[M],argTypes:= #[t] }) {n:Int} (hl:lenOf h x=some n) (J:ti.k = .str↔∃β s,x = .p β .str s):Good P o a w (aE Bw w0 ρ φ h w new (.p false (.int .i64) n) []):=by
 obtain⟨d,Y,B⟩:=ht.hu;have key:∀C len cap,a.eval M = .slice C len cap→(len:Int)=n→ti.k ≠ .str→Good P o a w (aE Bw w0 ρ φ h w new (.p false (.int .i64) n) []):=fun C len cap Z z c=>by
  rcases D with⟨e,D⟩ | D
  ·rw[D]at B;simp only[UK]at B;subst B;refine Good.aH (v:= .int .i64 n) (w':=w) ?_ (aE.pure m (dB _ _ _));simp only[execOp,X,resolve,invoke,builtin,Sem.run_bind,Sem.run_pure,Result.andThen_ok,List.map_toArray,List.map_cons,List.map_nil,Z];simp[Builtin.len_,run_underlying Y,goInt,z]
  ·exact absurd D c
 unfold lenOf at hl;split at hl
 ·cases hl;simp only[V,ai]at q;obtain⟨_,C,len,cap,e,⟨hl,_⟩,_⟩:=q;refine key C len cap e.symm (by rw[hl]) (fun e=> ?_);obtain⟨_,_,e⟩:=J.1 e;cases e
 ·rename_i s;cases hl;have E:=J.2 ⟨_,_,rfl⟩;rw[E]at B;simp only[UK]at B;subst B;refine Good.aH (v:= .int .i64 s.length) (w':=w) ?_ (aE.pure m (dB _ _ _));simp only[execOp,X,resolve,invoke,builtin,Sem.run_bind,Sem.run_pure,Result.andThen_ok,List.map_toArray,List.map_cons,List.map_nil,pG q];have N:(⟨s.toArray⟩:ByteArray).size=s.length:=rfl;simp[Builtin.len_,run_underlying Y,goInt,N]
 ·cases hl;simp only[V]at q;refine key none 0 0 q rfl (fun e=> ?_);obtain⟨_,_,e⟩:=J.1 e;cases e
 ·rename_i id;simp only[V]at q;obtain⟨j,aa,nn,cc,Z⟩:=q;have c:ti.k ≠ .str:=fun e=>by obtain⟨_,_,e⟩:=J.1 e;cases e
  split at hl
  ·rename_i te A xs hi;cases hl;obtain⟨u,f,O,_,cells,R,_⟩:=m.ob id _ hi;rw[j]at f;cases f;rcases R.2 with⟨e,z⟩ | ⟨g,cap,I,e,_⟩
   ·exact key none 0 0 e (by rw[z]) c
   ·exact key _ _ _ e rfl c
  ·rename_i A xs hi;cases hl;obtain⟨u,f,L⟩:=m.ob id _ hi;rw[j]at f;cases f;simp only[OR,V,ai]at L;obtain⟨_,C,len,cap,e,⟨hl,_⟩,_⟩:=L;exact key C len cap e.symm (by rw[hl]) c
  ·rename_i te e2 A a1 a2 hi;cases hl;obtain⟨u,f,O,_,_,cells,R,_⟩:=m.ob id _ hi;rw[j]at f;cases f;rcases R.2 with⟨e,z⟩ | ⟨g,cap,I,e,_⟩
   ·exact key none 0 0 e (by rw[z]) c
   ·exact key _ _ _ e rfl c
  ·rename_i te xs hi;cases hl;obtain⟨u,f,L⟩:=m.ob id _ hi;rw[j]at f;cases f;rcases L with⟨e,z⟩ | ⟨g,cap,I,mk,e,_⟩
   ·exact key none 0 0 e (by rw[z];rfl) c
   ·exact key _ _ _ e rfl c
  ·cases hl
 ·cases hl
theorem Az(m:Mem Bw w0 ρ φ h w){o:Oper}{a:Act}{c:Operand}{f:List ag}(j:V (Fr (own φ h) Bw w) ρ (.tup f) (a.eval c)){i:Nat}(k:o.op = .extract c i){y:ag}(p:f[i]? = some y):
  Good P o a w (aE Bw w0 ρ φ h w new y []):=by
 simp only[V]at j;obtain⟨z,e,_,hl⟩:=j;obtain⟨u,q,x⟩:=VL.get hl p;refine Good.aH (v:=u) (w':=w) ?_ (aE.pure m x);simp[execOp,k,e,Instr.extract,q]
theorem ya(m:Mem Bw w0 ρ φ h w){o:Oper}{a:Act}{f:FuncId}{c:Array Operand}(B:o.op = .makeFunc (.func f) #[] c){xs:List ag}(C:iA (Fr (own φ h) Bw w) ρ xs (c.toList.map a.eval)):
  Good P o a w (aE Bw w0 ρ φ h w new (.fn f xs) []):=by
 refine Good.aH (v:= .func (.func f) #[] (c.map a.eval)) (w':=w) (by simp[execOp,B,Instr.makeFunc]) (aE.pure m ?_);simp only[V];have key:∀(xs:List ag) (e:List Value),iA (Fr (own φ h) Bw w) ρ xs e→e.length=xs.length∧VL (Fr (own φ h) Bw w) ρ xs (fun k u=>e[k]? = some u):=fun xs=>by
  induction xs with
  | nil=>intro e j;cases e with | nil=>exact⟨rfl,by simp only[VL]⟩ | cons _ _=>exact j.elim
  | cons x xs D =>
   intro e j;cases e with
   | nil=>exact j.elim
   | cons v e =>obtain⟨p,q⟩:=D e j.2;simp only[VL];exact⟨by simp[p],⟨v,rfl,j.1⟩,VL.mono (fun _ _ _ h=>h) (fun _ _ h=>h) (fun k u z=>by simpa using z) q⟩
 obtain⟨p,q⟩:=key _ _ C;exact⟨_,rfl,by simpa using p,VL.mono (fun _ _ _ h=>h) (fun _ _ h=>h) (fun k u z=>by simpa using z) q⟩
theorem vW(m:Mem Bw w0 ρ φ h w){o:Oper}{a:Act}{t:TypeId}{ti:TI}(u:aQ P t ti)(x:ti.k = .str){q io:Operand}{β f:Bool}{s:List UInt8}(z:V (Fr (own φ h) Bw w) ρ (.p β .str s) (a.eval q))
  {k:IntKind} {i:Int} (hi:V (Fr (own φ h) Bw w) ρ (.p f (.int k) i) (a.eval io)) (B:o.op = .index t q io) (C:0≤i) (E:i<s.length):Good P o a w (aE Bw w0 ρ φ h w new (.p false (.int .u8) ((s.getD i.toNat 0).toNat:Int)) []):=by
 obtain⟨d,D,j⟩:=u.hu;rw[x]at j;simp only[UK]at j;subst j;have c:i.toNat<s.length:=by omega
 refine Good.aH (v:= .int .u8 (s.getD i.toNat 0).toNat) (w':=w) ?_ (aE.pure m (dB _ _ _));have e:(⟨s.toArray⟩:ByteArray)[i.toNat]? = some s[i.toNat]:=by rw[getElem?_pos _ _ (by simpa [ByteArray.size]using c)];simp[ByteArray.getElem_eq_getElem_data]
 simp[execOp,B,Instr.index,asIntOf,bV hi,pG z,run_underlying D,C,e,c]
theorem zl(m:Mem Bw w0 ρ φ h w){o:Oper}{a:Act}{c:Operand}{x:ag}(f:V (Fr (own φ h) Bw w) ρ x (a.eval c))(e:o.op = .move c∨o.op = .assign c):Good P o a w (aE Bw w0 ρ φ h w new x []):=by
 rcases e with e | e <;> exact Good.aH (v:=a.eval c) (w':=w) (by simp[execOp,e]) (aE.pure m f)
theorem um(m:Mem Bw w0 ρ φ h w){o:Oper}{a:Act}{co c e:Operand}{β b:Bool}{x:ag}(f:V (Fr (own φ h) Bw w) ρ (.p β .bool b) (a.eval co))(j:V (Fr (own φ h) Bw w) ρ x (a.eval (if b then c else e)))
  (k:o.op = .pick co c e):Good P o a w (aE Bw w0 ρ φ h w new x []):=by
 refine Good.aH (v:=a.eval (if b then c else e)) (w':=w) ?_ (aE.pure m j);cases b <;> simp[execOp,k,jY f,asBool]
end
end Go.Tv
