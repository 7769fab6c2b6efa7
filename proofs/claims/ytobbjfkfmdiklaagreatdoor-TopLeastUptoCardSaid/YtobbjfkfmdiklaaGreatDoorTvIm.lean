import Derived.Test.YtobbjfkfmdiklaaGreatDoorTvH
import Derived.Laws.CopyRow
namespace Go.Tv
open Go Go.RowKit
theorem yH(off:Nat):∀(l:QY) (k:Nat) (f:QU),off+k+l.length≤f.size →
  ((l.zipIdx k).foldl (fun(f:QU) (p:Value×Nat)=>f.setIfInBounds (off+p.2) p.1) f).toList=f.toList.take (off+k)++l++f.toList.drop (off+k+l.length)
 | [],k,f,_=>by simp
 | v::l,k,f,h=>by
  simp only[List.zipIdx_cons,List.foldl_cons];simp only[List.length_cons]at h;rw[yH off l (k+1) _ (by simp;omega)];have:=list_seg_step f.toList (off+k) v l (by simp;omega);simpa [Array.toList_setIfInBounds,Nat.add_assoc,Nat.add_comm 1]using this
theorem tO(off:Nat)(v:Value)(f:QU)(h:off+v.cells.size≤f.size):
  (v.cells.zipIdx.foldl (fun(f:QU) (p:Value×Nat)=>f.setIfInBounds (off+p.2) p.1) f).toList=f.toList.take off++v.cells.toList++f.toList.drop (off+v.cells.size):=by
 rw[←Array.foldl_toList,Array.toList_zipIdx];have:=yH off v.cells.toList 0 f (by simpa using h);simpa using this
theorem Co(size:Nat):∀(j:QY) (k:Nat) (f:QU),(∀v∈j,v.cells.size=size)→(k+j.length)*size=f.size →
  ∃r,Instr.fill (fun i=>some (i*size,size)) f ((j.zipIdx k).map fun p=>(p.2,p.1))=some r∧r.toList=f.toList.take (k*size)++j.flatMap (fun v=>v.cells.toList)
 | [],k,f,_,h=>⟨f,by simp[Instr.fill],by simp at h;rw[h,List.take_of_length_le (by simp)];simp⟩
 | v::j,k,f,x,h=>by
  have h1:=x v (by simp);have q:k*size+size≤f.size:=by rw[←h,List.length_cons,←Nat.succ_mul];exact Nat.mul_le_mul_right _ (by omega)
  have z:=tO (k*size) v f (by rw[h1];exact q);obtain⟨r,A,B⟩:=Co size j (k+1) (v.cells.zipIdx.foldl (fun(f:QU) (p:Value×Nat)=>f.setIfInBounds (k*size+p.2) p.1) f) (fun u hu=>x u (by simp[hu])) (by
   have:(v.cells.zipIdx.foldl (fun(f:QU) (p:Value×Nat)=>f.setIfInBounds (k*size+p.2) p.1) f).size=f.size:=by rw[←Array.length_toList,z];simp only[List.length_append,List.length_take,List.length_drop,Array.length_toList,h1];omega
   rw[this,←h,List.length_cons];congr 1;omega)
  refine⟨r,?_,?_⟩
  ·simp only[List.zipIdx_cons,List.map_cons,Instr.fill];rw[if_neg (by simp[h1];omega)];exact A
  ·rw[B,z,List.flatMap_cons];have C:(f.toList.take (k*size)).length=k*size:=by simp only[List.length_take,Array.length_toList];omega
   rw[List.take_left' (by rw[List.length_append,C,Array.length_toList,h1,Nat.succ_mul]),List.append_assoc]
def iS(F:Bool→Addr→Value→Prop)(ρ:Nat→QW):List af→QY→Prop
 | [],[]=>True
 | x::xs,v::vs=>V F ρ x v∧iS F ρ xs vs
 | _,_=>False
theorem iS.mono{F F':Bool→Addr→Value→Prop}{ρ ρ':Nat→QW}(z:∀β a v,F β a v→F' β a v)(j:∀i u,ρ i=some u→ρ' i=some u):∀ {xs:List af} {vs:QY},iS F ρ xs vs→iS F' ρ' xs vs
 | [],[],_=>trivial
 | _::_,_::_,h=>⟨V.mono z j h.1,iS.mono z j h.2⟩
 | [],_::_,h=>h
 | _::_,[],h=>h
theorem jG{F:Bool→Addr→Value→Prop}{ρ:Nat→QW}{n:NS}{a:Act}{s:Nat→af}(h:eP n F ρ s a):∀(xs:List Operand),iS F ρ (xs.map (ev s)) (xs.map a.eval)
 | []=>trivial
 | x::xs=>⟨aV h x,jG h xs⟩
def AH(A:Ty)(h:Nat→Qz):List af→Option (List A.den×gZ)
 | []=>some ([],[])
 | x::xs=>match F1 A h x with
  | some (y,u)=>match AH A (apply u h) xs with
   | some (f,j)=>some (y::f,u++j)
   | none=>none
  | none=>none
section
variable{P:Program}{Bw:Nat→Prop}{w0:cr P}{ρ:Nat→QW}{φ:Nat→Nat→Prop}{h:Nat→Qz}{w:World}{new:Nat}
theorem vY{A:Ty}:∀ {j:List af} {h:Nat→Qz} {p:List A.den} {q:gZ},Mem Bw w0 ρ φ h w→AH A h j=some (p,q)→(∀x∈j,(cellsOf x).all af.cell=true) →
  Mem Bw w0 ρ φ (apply q h) w∧(∀β a v,Fr (own φ h) Bw w β a v→Fr (own φ (apply q h)) Bw w β a v)∧p.length=j.length ∧
  ∀vs,iS (Fr (own φ h) Bw w) ρ j vs→vs.length=j.length∧(∀v∈vs,v.cells.size=A.size∧∀c∈v.cells.toList,c.oneCell'=true) ∧
   ∀i (hi:i<p.length),ah (Fr (own φ (apply q h)) Bw w false) A p[i] (fun k u=>(vs.flatMap fun v=>v.cells.toList)[i*A.size+k]? = some u)
 | [],h,p,q,m,hd,_=>by
  cases hd;refine⟨m,fun _ _ _ h=>h,rfl,fun vs z=>?_⟩;cases vs with
  | nil=>exact⟨rfl,fun v z=>by simp at z,fun i hi=>absurd hi (by simp)⟩
  | cons _ _=>exact z.elim
 | x::j,h,p,q,m,hd,hc=>by
  simp only[AH]at hd;split at hd
  ·rename_i y u h1;split at hd
   ·rename_i D E h2;cases hd;obtain⟨I,B,J⟩:=m6 m h1;obtain⟨L,C,M,g2⟩:=vY I h2 (fun x N=>hc x (by simp[N]));rw[eU];refine⟨L,fun β a v O=>C _ _ _ (B _ _ _ O),by simp[M],fun vs z=>?_⟩;cases vs with
    | nil=>exact z.elim
    | cons v vs =>
     obtain⟨V,X⟩:=z;obtain⟨Y,Z,r3⟩:=fV (hc x (by simp)) V;obtain⟨s1,s2⟩:=J _ Y;obtain⟨t1,t2,t3⟩:=g2 vs (iS.mono B (fun _ _ h=>h) X);have f:v.cells.size=A.size:=by rw[s2,←Z,Array.length_toList]
     refine⟨by simp[t1],fun u hu=>?_,fun i hi=>?_⟩
     ·rcases List.mem_cons.1 hu with rfl | hu
      ·exact⟨f,r3⟩
      ·exact t2 u hu
     ·rw[List.flatMap_cons];cases i with
      | zero=>exact ah.mono (C _) (fun k u hk=>by rw[Nat.zero_mul,Nat.zero_add,List.getElem?_append_left (List.getElem?_eq_some_iff.1 hk).1];exact hk) s1
      | succ i =>
       refine ah.mono (fun _ _ h=>h) (fun k u hk=>?_) (t3 i (by simpa using hi));rw[List.getElem?_append_right (by rw[Array.length_toList,f,Nat.succ_mul];omega),Array.length_toList,f,←hk];congr 1;rw[Nat.succ_mul];omega
   ·cases hd
  ·cases hd
theorem pf{A:Ty}:∀ {vs:QY},(∀v∈vs,v.cells.size=A.size)→(vs.flatMap fun v=>v.cells.toList).length=vs.length*A.size
 | [],_=>by simp
 | v::vs,h=>by
  rw[List.flatMap_cons,List.length_append,pf (fun u hu=>h u (by simp[hu])),Array.length_toList,h v (by simp),List.length_cons,Nat.succ_mul,Nat.add_comm]
theorem oJ{t e:TypeId}{ti j:TI}(ht:aO P t ti)(hk:ti.k = .sl e)(q:aO P e j){vs:QY}(C:∀v∈vs,v.cells.size=j.size)(D:vs.length*j.size≤16777216):
  (Instr.buildSlice t vs.length ((vs.zipIdx 0).map fun p=>(p.2,p.1)).toArray).run P w = .ok (.slice (some ⟨w.heap.size,0,none⟩) vs.length vs.length) (w.alloc (.cells (vs.flatMap fun v=>v.cells.toList).toArray e)):=by
 have hu:=aW ht hk;obtain⟨z,hz,_,E,_⟩:=dP q w;have f:∀x:QU,x.size=vs.length*j.size→Instr.fill (fun i=>some (i*j.size,j.size)) x ((vs.zipIdx 0).map fun p=>(p.2,p.1))=some (vs.flatMap fun v=>v.cells.toList).toArray:=fun x hc=>by obtain⟨r,I,J⟩:=Co j.size vs 0 x C (by rw[hc,Nat.zero_add]);rw[I];congr 1;apply Array.ext';rw[J];simp
 have u:¬(vs.length*j.size > 2 ^ 24):=by omega
 by_cases B:vs.length*j.size=0
 ·have:=f #[] (by simp[B]);simp[Instr.buildSlice,run_underlying hu,run_sizeOf q,B,Array.range_zero',this,newRow]
 ·have:=f ((Array.range (vs.length*j.size)).map (z.cells[· % z.cells.size]!)) (by simp);simp[Instr.buildSlice,run_underlying hu,run_sizeOf q,u,B,hz,this,newRow]
theorem uO(m:Mem Bw w0 ρ φ h w)(hn:ρ new=none){o:Oper}{a:Act}{t e:TypeId}{ti L:TI}(ht:aO P t ti)(hk:ti.k = .sl e)(D:aO P e L){A:Ty}(hT:L.T=some A)(h0:0<A.size)
  {parts:Array (Nat×Operand)} {len:Nat} (ho:o.op = .buildSlice t len parts) (hp:parts.toList.map (·.1)=List.range len) {xs:List af}
  (hx:iS (Fr (own φ h) Bw w) ρ xs (parts.toList.map fun p=>a.eval p.2)) (hc:∀x∈xs,(cellsOf x).all af.cell=true) {M:List A.den} {us:gZ} (hy:AH A h xs=some (M,us)) (N:len*L.size≤16777216) :
  Good P o a w (aF Bw w0 ρ φ h w new (.sl new) (us++[(new,some (.arr e A M))])):=by
 obtain⟨O,_,_⟩:=D.hT A hT;obtain⟨m',X,hl,hg⟩:=vY m hy hc;obtain⟨g1,g2,g3⟩:=hg _ hx;have f:(parts.toList.map fun p=>a.eval p.2).length=len:=by have:=congrArg List.length hp;simpa using this
 have B:(parts.map fun p=>(p.1,a.eval p.2))=(((parts.toList.map fun p=>a.eval p.2).zipIdx 0).map fun p=>(p.2,p.1)).toArray:=by
  apply Array.ext';simp only[Array.toList_map];apply List.ext_getElem?;intro j;simp only[List.getElem?_map,List.getElem?_zipIdx,Option.map_map];have E:=congrArg (fun l=>l[j]?) hp;simp only[List.getElem?_map]at E;cases Y:parts.toList[j]? with
  | none=>simp[Y]
  | some p =>
   simp only[Y,Option.map_some]at E ⊢;have Z:j<len:=by have:=(List.getElem?_eq_some_iff.1 Y).1;have h2:=congrArg List.length hp;simp only[List.length_map,List.length_range]at h2;omega
   rw[List.getElem?_range Z]at E;simp only[Option.some.injEq]at E;simp[E]
 have C:=oJ (P:=P) (w:=w) ht hk D (vs:=parts.toList.map fun p=>a.eval p.2) (fun v hv=>by rw[(g2 v hv).1,O]) (by rw[f];exact N);rw[f,←B]at C;refine Good.aG (v:=_) (w':=_) (by simp only[execOp,ho,Sem.run_bind,C,Result.andThen_ok];rfl) ?_;refine aF.after rfl X ?_;have q:M.length=len:=by rw[hl,←g1,f]
 have I:=pf (A:=A) (fun v hv=>(g2 v hv).1);rw[f]at I;have z:=World.ownsRow_lit (w:=w) (base:=0) (e:=e) (size:=A.size) ((parts.toList.map fun p=>a.eval p.2).flatMap fun v=>v.cells.toList).toArray len (Nat.zero_le _) (by unfold maxLen;have:len≤len*L.size:=Nat.le_mul_of_pos_right _ (by omega);omega) (by simpa using I);refine cO m' none new (.arr e A M) (.slice (some ⟨w.heap.size,0,none⟩) len len) none (World.grownBy_alloc w _ none) (fun k e=>by cases e) (.inl hn) (fun _ k hk=>?_) (fun F' a1 hF a2=>?_) (by rw[bn];rfl) (fun _=>rfl) (fun F' a1 hF a2 J=>?_)
 ·simp only[dp,Option.some.injEq]at hk;exact .inl (by omega)
 ·rw[←q]at z;simp only[OR];refine⟨fun _ h=>h,h0,_,by rw[q]at z ⊢;exact z,fun i hi=>ah.mono (hF _) (fun k u hk=>by simpa using hk) (g3 i hi)⟩
 ·simp only[V];exact⟨J,_,_,_,rfl⟩
theorem vO(m:Mem Bw w0 ρ φ h w)(hn:ρ new=none){o:Oper}{a:Act}{t e:TypeId}{ti N:TI}(ht:aO P t ti)(hk:ti.k = .sl e)(B:aO P e N){A:Ty}(hT:N.T=some A)(h0:0<A.size)
  {lo co:Operand} (ho:o.op = .makeSlice t lo co) {β O:Bool} {kl kc:IntKind} {l c:Int} (hl:V (Fr (own φ h) Bw w) ρ (.p β (.int kl) l) (a.eval lo)) (hc:V (Fr (own φ h) Bw w) ρ (.p O (.int kc) c) (a.eval co))
  (h1:0≤l) (h2:l≤c) (h3:(N.bytes:Int)*c≤281474976710656) (h4:c≤9223372036854775807) :
  Good P o a w (aF Bw w0 ρ φ h w new (.sl new) [(new,some (.arr e A (List.replicate l.toNat A.zero)))]):=by
 obtain⟨i,z,hi,hz,f,q,X,Y,a5⟩:=B.hi;obtain⟨x,a6,Z⟩:=B.hT A hT;have hu:=aW ht hk;have C:=run_make (P:=P) w t e i z hu hi hz kl kc l c h1 h2 (by rw[q];exact h3) h4;refine Good.aG (v:=_) (w':=_) (by simp only[execOp,ho,bV hl,bV hc,Sem.run_bind,C,Result.andThen_ok];rfl) ?_;have hm:(madeCells z.cells (c.toNat*i.size)).size=c.toNat*i.size:=size_madeCells _ _;have D:l.toNat≤c.toNat:=by omega
 have a4:l.toNat*A.size≤c.toNat*i.size:=by rw[f,←x];exact Nat.mul_le_mul_right _ D
 refine cO m none new (.arr e A (List.replicate l.toNat A.zero)) (.slice (some ⟨w.heap.size,0,none⟩) l.toNat c.toNat) none (World.grownBy_alloc w _ none) (fun k e=>by cases e) (.inl hn) (fun _ k hk=>?_) (fun F' E hF a1=>?_) (by rw[bn];rfl) (fun _=>rfl) (fun F' E hF a1 I=>?_)
 ·simp only[dp,Option.some.injEq]at hk;exact .inl (by omega)
 ·refine⟨fun _ h=>h,h0,(madeCells z.cells (c.toNat*i.size)).toList.take (l.toNat*A.size),⟨?_,.inr ⟨w.heap.size,c.toNat,madeCells z.cells (c.toNat*i.size),?_,Nat.zero_le _,heap_alloc_new w _,?_,?_,?_,?_⟩⟩,fun j hj=>?_⟩
  ·simp only[List.length_take,Array.length_toList,hm,List.length_replicate];omega
  ·simp
  ·simpa using D
  ·unfold maxLen;omega
  ·rw[hm,f,←x]
  ·simp
  ·simp only[List.length_replicate]at hj;simp only[List.getElem_replicate];have a2:ah (F' false) A A.zero (fun k u=>z.cells.toList[k]? = some u):=by have:=gu (F:=F') (ρ:=E) z.cells.toList;rw[X]at this;exact(cN Z this).1
   refine ah.gw (fun k v hk M=>?_) a2;have a7:j*A.size+A.size≤l.toNat*A.size:=by rw[←Nat.succ_mul];exact Nat.mul_le_mul_right _ hj
   have J:z.cells.size=A.size:=by rw[Y,←x]
   rw[List.getElem?_take,if_pos (by omega)];have a3:j*A.size+k<c.toNat*i.size:=by omega
   have e1:(madeCells z.cells (c.toNat*i.size)).toList[j*A.size+k]? = some (z.cells[(j*A.size+k) % z.cells.size]!):=by simp[madeCells,a3]
   rw[e1,J,Nat.mul_comm,Nat.mul_add_mod,Nat.mod_eq_of_lt hk];have L:k<z.cells.size:=by omega
   simp only[Array.getElem?_toList]at M;rw[Array.getElem?_eq_getElem L]at M;simp only[Option.some.injEq]at M;simp[L,M]
 ·simp only[V];exact⟨I,_,_,_,rfl⟩
theorem Ab(m:Mem Bw w0 ρ φ h w)(hn:ρ new=none){o:Oper}{a:Act}{t e N:TypeId}{ti E:TI}(ht:aO P t ti)(hk:ti.k = .sl e)(I:aO P e E){A:Ty}(hT:E.T=some (.slice A))(hz:E.z=[.nils])(h0:0<A.size)
  {lo co:Operand} (ho:o.op = .makeSlice t lo co) {β X:Bool} {kl kc:IntKind} {l c:Int} (hl:V (Fr (own φ h) Bw w) ρ (.p β (.int kl) l) (a.eval lo)) (hc:V (Fr (own φ h) Bw w) ρ (.p X (.int kc) c) (a.eval co))
  (h1:0≤l) (h2:l≤c) (h3:(E.bytes:Int)*c≤281474976710656) (h4:c≤9223372036854775807) :
  Good P o a w (aF Bw w0 ρ φ h w new (.sl new) [(new,some (.mat e N A (List.replicate l.toNat []) none))]):=by
 obtain⟨i,z,hi,Y,C,x,Z,a1,a9⟩:=I.hi;obtain⟨a2,aa,ac⟩:=I.hT _ hT;have B:E.size=1:=by rw[←a2];rfl
 have hu:=aW ht hk;have J:=run_make (P:=P) w t e i z hu hi Y kl kc l c h1 h2 (by rw[x];exact h3) h4;refine Good.aG (v:=_) (w':=_) (by simp only[execOp,ho,bV hl,bV hc,Sem.run_bind,J,Result.andThen_ok];rfl) ?_;have hm:(madeCells z.cells (c.toNat*i.size)).size=c.toNat*i.size:=size_madeCells _ _;have a3:l.toNat≤c.toNat:=by omega
 have D:i.size=1:=by rw[C,B]
 have a4:z.cells.size=1:=by rw[a1,B]
 have a5:z.cells[0]! = .slice none 0 0:=by have:=gu (F:=fun _ _ _=>True) (ρ:=fun _=>none) z.cells.toList;rw[Z,hz]at this;simp only[VL,V]at this;obtain⟨⟨u,O,q2⟩,_⟩:=this;simp only[Array.getElem?_toList]at O;rw[q2]at O;rw[getElem!_pos z.cells 0 (by omega)];rw[Array.getElem?_eq_getElem (by omega)]at O;exact Option.some.inj O
 have f:∀j,j<l.toNat→((madeCells z.cells (c.toNat*i.size)).toList.take (l.toNat*1))[j]? = some (.slice none 0 0):=fun j hj=>by
  rw[List.getElem?_take,if_pos (by omega)];have a6:j<c.toNat*i.size:=by rw[D];omega
  have L:(madeCells z.cells (c.toNat*i.size)).toList[j]? = some (z.cells[j % z.cells.size]!):=by simp[madeCells,a6]
  rw[L,a4,Nat.mod_one,a5]
 refine cO m none new (.mat e N A (List.replicate l.toNat []) none) (.slice (some ⟨w.heap.size,0,none⟩) l.toNat c.toNat) none (World.grownBy_alloc w _ none) (fun k e=>by cases e) (.inl hn) (fun _ k hk=>?_) (fun F' a7 hF a8=>?_) (by rw[bn];rfl) (fun _=>rfl) (fun F' a7 hF a8 M=>?_)
 ·simp only[dp,Option.some.injEq]at hk;exact .inl (by omega)
 ·refine⟨fun _ h=>h,h0,fun _ _ e=>(by cases e),(madeCells z.cells (c.toNat*i.size)).toList.take (l.toNat*1),⟨?_,.inr ⟨w.heap.size,c.toNat,madeCells z.cells (c.toNat*i.size),?_,Nat.zero_le _,heap_alloc_new w _,?_,?_,?_,?_⟩⟩,fun j hj=>?_,fun r r' vr ad b _ _ _ L N b1=>?_⟩
  ·simp only[List.length_take,Array.length_toList,hm,List.length_replicate];rw[D];omega
  ·simp
  ·simpa using a3
  ·unfold maxLen;omega
  ·rw[hm,D]
  ·simp
  ·simp only[List.length_replicate]at hj;refine⟨_,f j hj,⟨_,_,_,rfl⟩,fun _=>⟨fun k hk=>by simp[dp]at hk,[],?_,fun q hq=>?_⟩,fun id e=>by cases e⟩
   ·simp only[List.getElem_replicate,List.length_nil];exact World.ownsRow_nil _ 0 N A.size
   ·simp at hq
  ·have hr:r<l.toNat:=by have:=(List.getElem?_eq_some_iff.1 L).1;simp only[List.length_take]at this;omega
   rw[f r hr]at L;cases L;simp[dp]at b1
 ·simp only[V];exact⟨M,_,_,_,rfl⟩
end
section
variable{P:Program}{Bw:Nat→Prop}{w0:cr P}{ρ:Nat→QW}{φ:Nat→Nat→Prop}{h:Nat→Qz}{w:World}{new:Nat}
theorem Cq{α β:Type}(f:α→Sem β)(g:α→β)(w:World):∀(l:List α),(∀x∈l,(f x).run P w = .ok (g x) w)→(l.mapM f).run P w = .ok (l.map g) w
 | [],_=>rfl
 | x::l,h=>by
  rw[List.mapM_cons,Sem.run_bind,h x (by simp)];simp only[Result.andThen_ok,Sem.run_bind,Cq f g w l (fun y j=>h y (by simp[j]))];rfl
def parts(tb:bQ)(fs:List (Nat×TypeId)):List (Nat×af)→List af→Option (List af)
 | [],j=>some j
 | (i,x)::r,j=>match fs[i]? with
  | some (off,q)=>match tb.find q with
   | some f=>if(cellsOf x).length=f.size∧(cellsOf x).all af.cell∧off+f.size≤j.length then parts tb fs r (wr j off (cellsOf x))else none
   | none=>none
  | none=>none
theorem o6{tb:bQ}(D:cb P tb){F:Bool→Addr→Value→Prop}{fs:List (Nat×TypeId)}{pl:Nat→Option (Nat×Nat)}
  (E:∀i off J,fs[i]? = some (off,J)→∃O,P.info? J=some O∧pl i=some (off,O.size)) :
  ∀ {ps:List (Nat×af)} {vs:QY} {f I:List af} {us:QU},parts tb fs ps f=some I→iS F ρ (ps.map (·.2)) vs→us.size=f.length→VL F ρ f (fun k u=>us[k]? = some u) →
   ∃j,Instr.fill pl us ((ps.map (·.1)).zip vs)=some j∧j.size=I.length∧VL F ρ I (fun k u=>j[k]? = some u)
 | [],vs,f,I,us,h,L,C,hl=>by
  simp only[parts,Option.some.injEq]at h;subst h;cases vs with
  | nil=>exact⟨us,rfl,C,hl⟩
  | cons _ _=>exact L.elim
 | (i,x)::r,vs,f,I,us,h,L,C,hl=>by
  simp only[parts]at h;split at h
  ·rename_i off J M;split at h
   ·rename_i V X;split at h
    ·rename_i A;obtain⟨N,c2,Y⟩:=A;cases vs with
     | nil=>exact L.elim
     | cons v vs =>
      obtain⟨q1,q2⟩:=L;obtain⟨r1,r2,r3⟩:=fV c2 q1;obtain⟨O,Z,hp⟩:=E i off J M;obtain⟨i2,z,e1,_,e3,_⟩:=(D.find X).hi;rw[Z]at e1;cases e1;have q:v.cells.size=V.size:=by rw[←Array.length_toList,r2,N]
      have M:=tO off v us (by rw[q,C];exact Y);have B:(v.cells.zipIdx.foldl (fun(f:QU) (p:Value×Nat)=>f.setIfInBounds (off+p.2) p.1) us).size=(wr f off (cellsOf x)).length:=by rw[←Array.length_toList,M,FG (by rw[N];exact Y)];simp only[List.length_append,List.length_take,List.length_drop,Array.length_toList,q,C];omega
      have a1:VL F ρ (wr f off (cellsOf x)) (fun k u=>(v.cells.zipIdx.foldl (fun(f:QU) (p:Value×Nat)=>f.setIfInBounds (off+p.2) p.1) us)[k]? = some u):=by have:=Es (p:=off) (us:=us.toList) (by rw[N];exact Y) (by simpa using C) r2 (VL.mono (fun _ _ _ h=>h) (fun _ _ h=>h) (fun k u hk=>by simpa using hk) hl) r1;refine VL.mono (fun _ _ _ h=>h) (fun _ _ h=>h) (fun k u hk=>?_) this;rw[←Array.getElem?_toList,M,q,←N];exact hk
      obtain⟨j,t1,t2,t3⟩:=o6 D E h q2 B a1;refine⟨j,?_,t2,t3⟩;simp only[List.map_cons,List.zip_cons_cons,Instr.fill,hp];rw[if_neg (by simp[q,e3,C];omega)];exact t1
    ·cases h
   ·cases h
  ·cases h
theorem wW(m:Mem Bw w0 ρ φ h w){tb:bQ}(N:cb P tb){o:Oper}{a:Act}{t:TypeId}{ti:TI}(ht:aO P t ti){fs:List (Nat×TypeId)}(hk:ti.k = .st fs)
  {ps:Array (Nat×Operand)} (ho:o.op = .build t ps) {xs:List af} (Y:iS (Fr (own φ h) Bw w) ρ xs (ps.toList.map fun p=>a.eval p.2)) {Z:List af}
  (hd:parts tb fs ((ps.toList.map (·.1)).zip xs) ti.z=some Z):Good P o a w (aF Bw w0 ρ φ h w new (.agg Z) []):=by
 obtain⟨z,hz,B,a1,a2⟩:=dP ht w;obtain⟨d,h1,h2⟩:=ht.hu;rw[hk]at h2;obtain⟨J,rfl,h3,h4⟩:=h2;have q:xs.length=ps.toList.length:=by
  have key:∀(xs:List af) (vs:QY),iS (Fr (own φ h) Bw w) ρ xs vs→xs.length=vs.length:=fun xs=>by
   induction xs with
   | nil=>intro vs L;cases vs with | nil=>rfl | cons _ _=>exact L.elim
   | cons x xs ih=>intro vs L;cases vs with | nil=>exact L.elim | cons v vs=>simp[ih vs L.2]
  rw[key _ _ Y,List.length_map]
 have O:∀f∈J.toList,(do pure (f.offset,←sizeOf f.type):Sem (Nat×Nat)).run P w = .ok (f.offset,((P.info? f.type).map (·.size)).getD 0) w:=fun f j=>by obtain⟨i,hi,_⟩:=h4 f j;simp[sizeOf,typeInfo,hi]
 have C:=Cq (P:=P) (fun f:Field=>do pure (f.offset,←sizeOf f.type)) (fun f=>(f.offset,((P.info? f.type).map (·.size)).getD 0)) w J.toList O;have u:=o6 (ρ:=ρ) N (F:=Fr (own φ h) Bw w) (fs:=fs) (pl:=fun i=>(J.toList.map (fun f=>(f.offset,((P.info? f.type).map (·.size)).getD 0))).toArray[i]?) (fun i off ft j=>by
  rw[←h3,List.getElem?_map]at j;cases M:J.toList[i]? with
  | none=>rw[M]at j;cases j
  | some fd =>
   rw[M]at j;simp only[Option.map_some,Option.some.injEq,Prod.mk.injEq]at j;obtain⟨i',D,_⟩:=h4 fd (List.mem_of_getElem? M);refine⟨i',by rw[←j.2];exact D,?_⟩;simp only[List.getElem?_toArray,List.getElem?_map,M,Option.map_some,D,Option.getD_some,j.1]) (ps:=(ps.toList.map (·.1)).zip xs) (vs:=ps.toList.map fun p=>a.eval p.2) (us:=z.cells) hd
  (by rw[List.map_snd_zip (by simp[q])];exact Y) (by rw[←B];simp) (by rw[←B];have:=gu (F:=Fr (own φ h) Bw w) (ρ:=ρ) z.cells.toList;simpa using this)
 obtain⟨E,X,q2,q3⟩:=u;rw[List.map_fst_zip (by simp[q])]at X;have I:(ps.toList.map (·.1)).zip (ps.toList.map fun p=>a.eval p.2)=(ps.map fun p=>(p.1,a.eval p.2)).toList:=by simp[List.zip_map']
 rw[I]at X;refine Good.aG (v:= .agg E) (w':=w) ?_ (aF.pure m ?_)
 ·simp only[execOp,ho,Instr.build,Sem.run_bind,hz,Result.andThen_ok,run_underlying h1,Array.mapM_eq_mapM_toList,Sem.run_map,C,X];rfl
 ·simp only[V];exact⟨E,rfl,q2,q3⟩
theorem ue(m:Mem Bw w0 ρ φ h w){tb:bQ}(M:cb P tb){o:Oper}{a:Act}{t e:TypeId}{ti C:TI}{n:Nat}(ht:aO P t ti)(hk:ti.k = .ar n e)(N:aO P e C)
  {ps:Array (Nat×Operand)} (ho:o.op = .build t ps) {xs:List af} (Y:iS (Fr (own φ h) Bw w) ρ xs (ps.toList.map fun p=>a.eval p.2)) {Z:List af}
  (hd:parts tb ((List.range n).map fun i=>(i*C.size,e)) ((ps.toList.map (·.1)).zip xs) ti.z=some Z):Good P o a w (aF Bw w0 ρ φ h w new (.agg Z) []):=by
 obtain⟨z,hz,D,a1,a2⟩:=dP ht w;obtain⟨d,h1,h2⟩:=ht.hu;rw[hk]at h2;simp only[UK]at h2;subst h2;obtain⟨i,_,hi,_,f,_⟩:=N.hi;have q:xs.length=ps.toList.length:=by
  have key:∀(xs:List af) (vs:QY),iS (Fr (own φ h) Bw w) ρ xs vs→xs.length=vs.length:=fun xs=>by
   induction xs with
   | nil=>intro vs L;cases vs with | nil=>rfl | cons _ _=>exact L.elim
   | cons x xs ih=>intro vs L;cases vs with | nil=>exact L.elim | cons v vs=>simp[ih vs L.2]
  rw[key _ _ Y,List.length_map]
 have hs:(sizeOf e).run P w = .ok C.size w:=by simp[sizeOf,typeInfo,hi,f]
 have u:=o6 (ρ:=ρ) M (F:=Fr (own φ h) Bw w) (fs:=(List.range n).map fun i=>(i*C.size,e)) (pl:=fun i=>some (i*C.size,C.size)) (fun j off ft B=>by
  rw[List.getElem?_map]at B;cases O:(List.range n)[j]? with
  | none=>rw[O]at B;cases B
  | some k =>
   rw[O]at B;simp only[Option.map_some,Option.some.injEq,Prod.mk.injEq]at B;obtain⟨a3,E⟩:=List.getElem?_eq_some_iff.1 O;simp at E;refine⟨i,by rw[←B.2];exact hi,?_⟩;rw[←B.1,←E,f]) (ps:=(ps.toList.map (·.1)).zip xs) (vs:=ps.toList.map fun p=>a.eval p.2) (us:=z.cells) hd
  (by rw[List.map_snd_zip (by simp[q])];exact Y) (by rw[←D];simp) (by rw[←D];have:=gu (F:=Fr (own φ h) Bw w) (ρ:=ρ) z.cells.toList;simpa using this)
 obtain⟨I,X,q2,q3⟩:=u;rw[List.map_fst_zip (by simp[q])]at X;have J:(ps.toList.map (·.1)).zip (ps.toList.map fun p=>a.eval p.2)=(ps.map fun p=>(p.1,a.eval p.2)).toList:=by simp[List.zip_map']
 rw[J]at X;refine Good.aG (v:= .agg I) (w':=w) ?_ (aF.pure m ?_)
 ·simp only[execOp,ho,Instr.build,Sem.run_bind,hz,Result.andThen_ok,run_underlying h1,hs,X];rfl
 ·simp only[V];exact⟨I,rfl,q2,q3⟩
def lenOf(h:Nat→Qz):af→Option Int
 | .p _ (.slice _) f=>some f.length
 | .p _ .str s=>some s.length
 | .nils=>some 0
 | .sl id=>match h id with
  | some (.arr _ _ f)=>some f.length
  | some (.fz _ f)=>some f.length
  | some (.mat _ _ _ j _)=>some j.length
  | some (.bytes _ f)=>some f.length
  | _=>none
 | _=>none
theorem BS(m:Mem Bw w0 ρ φ h w){o:Oper}{a:Act}{t:TypeId}{ti:TI}(ht:aO P t ti)(hk:(∃e,ti.k = .sl e)∨ti.k = .str){J:Operand}{x:af}(z:V (Fr (own φ h) Bw w) ρ x (a.eval J))
  (ho:o.op = .call { callee:= .builtin .len,args:= #[J],argTypes:= #[t] }) {n:Int} (hl:lenOf h x=some n) (E:ti.k = .str↔∃β s,x = .p β .str s):Good P o a w (aF Bw w0 ρ φ h w new (.p false (.int .i64) n) []):=by
 obtain⟨d,h1,h2⟩:=ht.hu;have key:∀B len cap,a.eval J = .slice B len cap→(len:Int)=n→ti.k ≠ .str→Good P o a w (aF Bw w0 ρ φ h w new (.p false (.int .i64) n) []):=fun B len cap O hn f=>by
  rcases hk with⟨e,hk⟩ | hk
  ·rw[hk]at h2;simp only[UK]at h2;subst h2;refine Good.aG (v:= .int .i64 n) (w':=w) ?_ (aF.pure m (dy _ _ _));simp only[execOp,ho,resolve,invoke,builtin,Sem.run_bind,Sem.run_pure,Result.andThen_ok,List.map_toArray,List.map_cons,List.map_nil,O];simp[Builtin.len_,run_underlying h1,goInt,hn]
  ·exact absurd hk f
 unfold lenOf at hl;split at hl
 ·cases hl;simp only[V,ah]at z;obtain⟨_,B,len,cap,e,⟨hl,_⟩,_⟩:=z;refine key B len cap e.symm (by rw[hl]) (fun e=>?_);obtain⟨_,_,e⟩:=E.1 e;cases e
 ·rename_i s;cases hl;have C:=E.2 ⟨_,_,rfl⟩;rw[C]at h2;simp only[UK]at h2;subst h2;refine Good.aG (v:= .int .i64 s.length) (w':=w) ?_ (aF.pure m (dy _ _ _));simp only[execOp,ho,resolve,invoke,builtin,Sem.run_bind,Sem.run_pure,Result.andThen_ok,List.map_toArray,List.map_cons,List.map_nil,pD z];have L:(⟨s.toArray⟩:ByteArray).size=s.length:=rfl;simp[Builtin.len_,run_underlying h1,goInt,L]
 ·cases hl;simp only[V]at z;refine key none 0 0 z rfl (fun e=>?_);obtain⟨_,_,e⟩:=E.1 e;cases e
 ·rename_i id;simp only[V]at z;obtain⟨q,aa,nn,cc,O⟩:=z;have f:ti.k ≠ .str:=fun e=>by obtain⟨_,_,e⟩:=E.1 e;cases e
  split at hl
  ·rename_i X A xs hi;cases hl;obtain⟨u,j,M,_,cells,N,_⟩:=m.ob id _ hi;rw[q]at j;cases j;rcases N.2 with⟨e,hn⟩ | ⟨g,cap,D,e,_⟩
   ·exact key none 0 0 e (by rw[hn]) f
   ·exact key _ _ _ e rfl f
  ·rename_i A xs hi;cases hl;obtain⟨u,j,I⟩:=m.ob id _ hi;rw[q]at j;cases j;simp only[OR,V,ah]at I;obtain⟨_,B,len,cap,e,⟨hl,_⟩,_⟩:=I;exact key B len cap e.symm (by rw[hl]) f
  ·rename_i X e2 A Y Z hi;cases hl;obtain⟨u,j,M,_,_,cells,N,_⟩:=m.ob id _ hi;rw[q]at j;cases j;rcases N.2 with⟨e,hn⟩ | ⟨g,cap,D,e,_⟩
   ·exact key none 0 0 e (by rw[hn]) f
   ·exact key _ _ _ e rfl f
  ·rename_i X xs hi;cases hl;obtain⟨u,j,I⟩:=m.ob id _ hi;rw[q]at j;cases j;rcases I with⟨e,hn⟩ | ⟨g,cap,D,mk,e,_⟩
   ·exact key none 0 0 e (by rw[hn];rfl) f
   ·exact key _ _ _ e rfl f
  ·cases hl
 ·cases hl
theorem za(m:Mem Bw w0 ρ φ h w){o:Oper}{a:Act}{f:Operand}{j:List af}(p:V (Fr (own φ h) Bw w) ρ (.tup j) (a.eval f)){i:Nat}(ho:o.op = .extract f i){y:af}(q:j[i]? = some y):
  Good P o a w (aF Bw w0 ρ φ h w new y []):=by
 simp only[V]at p;obtain⟨B,e,_,hl⟩:=p;obtain⟨u,x,z⟩:=VL.get hl q;refine Good.aG (v:=u) (w':=w) ?_ (aF.pure m z);simp[execOp,ho,e,Instr.extract,x]
theorem xh(m:Mem Bw w0 ρ φ h w){o:Oper}{a:Act}{f:FuncId}{j:Array Operand}(ho:o.op = .makeFunc (.func f) #[] j){xs:List af}(C:iS (Fr (own φ h) Bw w) ρ xs (j.toList.map a.eval)):
  Good P o a w (aF Bw w0 ρ φ h w new (.fn f xs) []):=by
 refine Good.aG (v:= .func (.func f) #[] (j.map a.eval)) (w':=w) (by simp[execOp,ho,Instr.makeFunc]) (aF.pure m ?_);simp only[V];have key:∀(xs:List af) (p:QY),iS (Fr (own φ h) Bw w) ρ xs p→p.length=xs.length∧VL (Fr (own φ h) Bw w) ρ xs (fun k u=>p[k]? = some u):=fun xs=>by
  induction xs with
  | nil=>intro p q;cases p with | nil=>exact⟨rfl,by simp only[VL]⟩ | cons _ _=>exact q.elim
  | cons x xs D =>
   intro p q;cases p with
   | nil=>exact q.elim
   | cons v p =>obtain⟨z,B⟩:=D p q.2;simp only[VL];exact⟨by simp[z],⟨v,rfl,q.1⟩,VL.mono (fun _ _ _ h=>h) (fun _ _ h=>h) (fun k u hk=>by simpa using hk) B⟩
 obtain⟨z,B⟩:=key _ _ C;exact⟨_,rfl,by simpa using z,VL.mono (fun _ _ _ h=>h) (fun _ _ h=>h) (fun k u hk=>by simpa using hk) B⟩
theorem wV(m:Mem Bw w0 ρ φ h w){o:Oper}{a:Act}{t:TypeId}{ti:TI}(ht:aO P t ti)(hk:ti.k = .str){u io:Operand}{β j:Bool}{s:QX}(x:V (Fr (own φ h) Bw w) ρ (.p β .str s) (a.eval u))
  {k:IntKind} {i:Int} (hi:V (Fr (own φ h) Bw w) ρ (.p j (.int k) i) (a.eval io)) (ho:o.op = .index t u io) (z:0≤i) (h1:i<s.length):Good P o a w (aF Bw w0 ρ φ h w new (.p false (.int .u8) ((s.getD i.toNat 0).toNat:Int)) []):=by
 obtain⟨d,B,q⟩:=ht.hu;rw[hk]at q;simp only[UK]at q;subst q;have f:i.toNat<s.length:=by omega
 refine Good.aG (v:= .int .u8 (s.getD i.toNat 0).toNat) (w':=w) ?_ (aF.pure m (dy _ _ _));have e:(⟨s.toArray⟩:ByteArray)[i.toNat]? = some s[i.toNat]:=by rw[getElem?_pos _ _ (by simpa [ByteArray.size]using f)];simp[ByteArray.getElem_eq_getElem_data]
 simp[execOp,ho,Instr.index,asIntOf,bV hi,pD x,run_underlying B,z,e,f]
theorem yy(m:Mem Bw w0 ρ φ h w){o:Oper}{a:Act}{f:Operand}{x:af}(j:V (Fr (own φ h) Bw w) ρ x (a.eval f))(ho:o.op = .move f∨o.op = .assign f):Good P o a w (aF Bw w0 ρ φ h w new x []):=by
 rcases ho with ho | ho <;> exact Good.aG (v:=a.eval f) (w':=w) (by simp[execOp,ho]) (aF.pure m j)
theorem tf(m:Mem Bw w0 ρ φ h w){o:Oper}{a:Act}{co f j:Operand}{β b:Bool}{x:af}(hc:V (Fr (own φ h) Bw w) ρ (.p β .bool b) (a.eval co))(q:V (Fr (own φ h) Bw w) ρ x (a.eval (if b then f else j)))
  (ho:o.op = .pick co f j):Good P o a w (aF Bw w0 ρ φ h w new x []):=by
 refine Good.aG (v:=a.eval (if b then f else j)) (w':=w) ?_ (aF.pure m q);cases b <;> simp[execOp,ho,n9 hc,asBool]
end
end Go.Tv
