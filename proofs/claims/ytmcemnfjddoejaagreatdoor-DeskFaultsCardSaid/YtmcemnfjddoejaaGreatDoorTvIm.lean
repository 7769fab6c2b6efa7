import Derived.Test.YtmcemnfjddoejaaGreatDoorTvH
import Derived.Laws.CopyRow
namespace Go.Tv
open Go Go.RowKit
theorem zR(off:Nat):∀(l:QY) (k:Nat) (c:QU),off+k+l.length≤c.size →
  ((l.zipIdx k).foldl (fun(c:QU) (p:Value×Nat)=>c.setIfInBounds (off+p.2) p.1) c).toList=c.toList.take (off+k)++l++c.toList.drop (off+k+l.length)
 | [],k,c,_=>by simp
 | v::l,k,c,h=>by
  simp only[List.zipIdx_cons,List.foldl_cons];simp only[List.length_cons]at h;rw[zR off l (k+1) _ (by simp;omega)];have:=list_seg_step c.toList (off+k) v l (by simp;omega);simpa [Array.toList_setIfInBounds,Nat.add_assoc,Nat.add_comm 1]using this
theorem vg(off:Nat)(v:Value)(c:QU)(h:off+v.cells.size≤c.size):
  (v.cells.zipIdx.foldl (fun(c:QU) (p:Value×Nat)=>c.setIfInBounds (off+p.2) p.1) c).toList=c.toList.take off++v.cells.toList++c.toList.drop (off+v.cells.size):=by
 rw[←Array.foldl_toList,Array.toList_zipIdx];have:=zR off v.cells.toList 0 c (by simpa using h);simpa using this
theorem BV(size:Nat):∀(e:QY) (k:Nat) (c:QU),(∀v∈e,v.cells.size=size)→(k+e.length)*size=c.size →
  ∃r,Instr.fill (fun i=>some (i*size,size)) c ((e.zipIdx k).map fun p=>(p.2,p.1))=some r∧r.toList=c.toList.take (k*size)++e.flatMap (fun v=>v.cells.toList)
 | [],k,c,_,h=>⟨c,by simp[Instr.fill],by simp at h;rw[h,List.take_of_length_le (by simp)];simp⟩
 | v::e,k,c,q,h=>by
  have f:=q v (by simp);have j:k*size+size≤c.size:=by rw[←h,List.length_cons,←Nat.succ_mul];exact Nat.mul_le_mul_right _ (by omega)
  have x:=vg (k*size) v c (by rw[f];exact j);obtain⟨r,z,A⟩:=BV size e (k+1) (v.cells.zipIdx.foldl (fun(c:QU) (p:Value×Nat)=>c.setIfInBounds (k*size+p.2) p.1) c) (fun u hu=>q u (by simp[hu])) (by
   have:(v.cells.zipIdx.foldl (fun(c:QU) (p:Value×Nat)=>c.setIfInBounds (k*size+p.2) p.1) c).size=c.size:=by rw[←Array.length_toList,x];simp only[List.length_append,List.length_take,List.length_drop,Array.length_toList,f];omega
   rw[this,←h,List.length_cons];congr 1;omega)
  refine⟨r,?_,?_⟩
  ·simp only[List.zipIdx_cons,List.map_cons,Instr.fill];rw[if_neg (by simp[f];omega)];exact z
  ·rw[A,x,List.flatMap_cons];have B:(c.toList.take (k*size)).length=k*size:=by simp only[List.length_take,Array.length_toList];omega
   rw[List.take_left' (by rw[List.length_append,B,Array.length_toList,f,Nat.succ_mul]),List.append_assoc]
def iP(F:Bool→Addr→Value→Prop)(ρ:Nat→QW):List ag→QY→Prop
 | [],[]=>True
 | x::xs,v::vs=>V F ρ x v∧iP F ρ xs vs
 | _,_=>False
theorem iP.mono{F F':Bool→Addr→Value→Prop}{ρ ρ':Nat→QW}(z:∀β a v,F β a v→F' β a v)(j:∀i u,ρ i=some u→ρ' i=some u):∀ {xs:List ag} {vs:QY},iP F ρ xs vs→iP F' ρ' xs vs
 | [],[],_=>trivial
 | _::_,_::_,h=>⟨V.mono z j h.1,iP.mono z j h.2⟩
 | [],_::_,h=>h
 | _::_,[],h=>h
theorem jF{F:Bool→Addr→Value→Prop}{ρ:Nat→QW}{n:NS}{a:Act}{s:Nat→ag}(h:bT n F ρ s a):∀(xs:List Operand),iP F ρ (xs.map (ev s)) (xs.map a.eval)
 | []=>trivial
 | x::xs=>⟨aX h x,jF h xs⟩
def BP(A:Ty)(h:Nat→Qz):List ag→Option (List A.den×hD)
 | []=>some ([],[])
 | x::xs=>match HA A h x with
  | some (y,u)=>match BP A (apply u h) xs with
   | some (c,f)=>some (y::c,u++f)
   | none=>none
  | none=>none
section
variable{P:Program}{Bw:Nat→Prop}{w0:cu P}{ρ:Nat→QW}{φ:Nat→Nat→Prop}{h:Nat→Qz}{w:World}{new:Nat}
theorem yC{A:Ty}:∀ {j:List ag} {h:Nat→Qz} {p:List A.den} {q:hD},Mem Bw w0 ρ φ h w→BP A h j=some (p,q)→(∀x∈j,(cellsOf x).all ag.cell=true) →
  Mem Bw w0 ρ φ (apply q h) w∧(∀β a v,Fr (own φ h) Bw w β a v→Fr (own φ (apply q h)) Bw w β a v)∧p.length=j.length ∧
  ∀vs,iP (Fr (own φ h) Bw w) ρ j vs→vs.length=j.length∧(∀v∈vs,v.cells.size=A.size∧∀c∈v.cells.toList,c.oneCell'=true) ∧
   ∀i (hi:i<p.length),ai (Fr (own φ (apply q h)) Bw w false) A p[i] (fun k u=>(vs.flatMap fun v=>v.cells.toList)[i*A.size+k]? = some u)
 | [],h,p,q,m,hd,_=>by
  cases hd;refine⟨m,fun _ _ _ h=>h,rfl,fun vs z=>?_⟩;cases vs with
  | nil=>exact⟨rfl,fun v z=>by simp at z,fun i hi=>absurd hi (by simp)⟩
  | cons _ _=>exact z.elim
 | x::j,h,p,q,m,hd,B=>by
  simp only[BP]at hd;split at hd
  ·rename_i y u E;split at hd
   ·rename_i I J L;cases hd;obtain⟨M,C,N⟩:=nw m E;obtain⟨O,D,V,g2⟩:=yC M L (fun x X=>B x (by simp[X]));rw[eL];refine⟨O,fun β a v Y=>D _ _ _ (C _ _ _ Y),by simp[V],fun vs z=>?_⟩;cases vs with
    | nil=>exact z.elim
    | cons v vs =>
     obtain⟨Z,q2⟩:=z;obtain⟨r1,r2,r3⟩:=fV (B x (by simp)) Z;obtain⟨s1,s2⟩:=N _ r1;obtain⟨t1,t2,t3⟩:=g2 vs (iP.mono C (fun _ _ h=>h) q2);have f:v.cells.size=A.size:=by rw[s2,←r2,Array.length_toList]
     refine⟨by simp[t1],fun u hu=>?_,fun i hi=>?_⟩
     ·rcases List.mem_cons.1 hu with rfl | hu
      ·exact⟨f,r3⟩
      ·exact t2 u hu
     ·rw[List.flatMap_cons];cases i with
      | zero=>exact ai.mono (D _) (fun k u hk=>by rw[Nat.zero_mul,Nat.zero_add,List.getElem?_append_left (List.getElem?_eq_some_iff.1 hk).1];exact hk) s1
      | succ i =>
       refine ai.mono (fun _ _ h=>h) (fun k u hk=>?_) (t3 i (by simpa using hi));rw[List.getElem?_append_right (by rw[Array.length_toList,f,Nat.succ_mul];omega),Array.length_toList,f,←hk];congr 1;rw[Nat.succ_mul];omega
   ·cases hd
  ·cases hd
theorem pk{A:Ty}:∀ {vs:QY},(∀v∈vs,v.cells.size=A.size)→(vs.flatMap fun v=>v.cells.toList).length=vs.length*A.size
 | [],_=>by simp
 | v::vs,h=>by
  rw[List.flatMap_cons,List.length_append,pk (fun u hu=>h u (by simp[hu])),Array.length_toList,h v (by simp),List.length_cons,Nat.succ_mul,Nat.add_comm]
theorem pU{t e:TypeId}{ti f:TI}(ht:aP P t ti)(hk:ti.k = .sl e)(j:aP P e f){vs:QY}(B:∀v∈vs,v.cells.size=f.size)(C:vs.length*f.size≤16777216):
  (Instr.buildSlice t vs.length ((vs.zipIdx 0).map fun p=>(p.2,p.1)).toArray).run P w = .ok (.slice (some ⟨w.heap.size,0,none⟩) vs.length vs.length) (w.alloc (.cells (vs.flatMap fun v=>v.cells.toList).toArray e)):=by
 have hu:=aY ht hk;obtain⟨z,hz,_,D,_⟩:=dy j w;have c:∀u:QU,u.size=vs.length*f.size→Instr.fill (fun i=>some (i*f.size,f.size)) u ((vs.zipIdx 0).map fun p=>(p.2,p.1))=some (vs.flatMap fun v=>v.cells.toList).toArray:=fun u E=>by obtain⟨r,I,J⟩:=BV f.size vs 0 u B (by rw[E,Nat.zero_add]);rw[I];congr 1;apply Array.ext';rw[J];simp
 have q:¬(vs.length*f.size > 2 ^ 24):=by omega
 by_cases x:vs.length*f.size=0
 ·have:=c #[] (by simp[x]);simp[Instr.buildSlice,run_underlying hu,run_sizeOf j,x,Array.range_zero',this,newRow]
 ·have:=c ((Array.range (vs.length*f.size)).map (z.cells[· % z.cells.size]!)) (by simp);simp[Instr.buildSlice,run_underlying hu,run_sizeOf j,q,x,hz,this,newRow]
theorem vP(m:Mem Bw w0 ρ φ h w)(hn:ρ new=none){o:Oper}{a:Act}{t e:TypeId}{ti J:TI}(ht:aP P t ti)(hk:ti.k = .sl e)(C:aP P e J){A:Ty}(hT:J.T=some A)(h0:0<A.size)
  {parts:Array (Nat×Operand)} {len:Nat} (ho:o.op = .buildSlice t len parts) (M:parts.toList.map (·.1)=List.range len) {xs:List ag}
  (hx:iP (Fr (own φ h) Bw w) ρ xs (parts.toList.map fun p=>a.eval p.2)) (hc:∀x∈xs,(cellsOf x).all ag.cell=true) {L:List A.den} {us:hD} (hy:BP A h xs=some (L,us)) (N:len*J.size≤16777216) :
  Good P o a w (aG Bw w0 ρ φ h w new (.sl new) (us++[(new,some (.arr e A L))])):=by
 obtain⟨O,_,_⟩:=C.hT A hT;obtain⟨m',X,hl,hg⟩:=yC m hy hc;obtain⟨g1,g2,g3⟩:=hg _ hx;have c:(parts.toList.map fun p=>a.eval p.2).length=len:=by have:=congrArg List.length M;simpa using this
 have z:(parts.map fun p=>(p.1,a.eval p.2))=(((parts.toList.map fun p=>a.eval p.2).zipIdx 0).map fun p=>(p.2,p.1)).toArray:=by
  apply Array.ext';simp only[Array.toList_map];apply List.ext_getElem?;intro j;simp only[List.getElem?_map,List.getElem?_zipIdx,Option.map_map];have D:=congrArg (fun l=>l[j]?) M;simp only[List.getElem?_map]at D;cases Y:parts.toList[j]? with
  | none=>simp[Y]
  | some p =>
   simp only[Y,Option.map_some]at D ⊢;have Z:j<len:=by have:=(List.getElem?_eq_some_iff.1 Y).1;have h2:=congrArg List.length M;simp only[List.length_map,List.length_range]at h2;omega
   rw[List.getElem?_range Z]at D;simp only[Option.some.injEq]at D;simp[D]
 have B:=pU (P:=P) (w:=w) ht hk C (vs:=parts.toList.map fun p=>a.eval p.2) (fun v hv=>by rw[(g2 v hv).1,O]) (by rw[c];exact N);rw[c,←z]at B;refine Good.aH (v:=_) (w':=_) (by simp only[execOp,ho,Sem.run_bind,B,Result.andThen_ok];rfl) ?_;refine aG.after rfl X ?_;have f:L.length=len:=by rw[hl,←g1,c]
 have E:=pk (A:=A) (fun v hv=>(g2 v hv).1);rw[c]at E;have q:=World.ownsRow_lit (w:=w) (base:=0) (e:=e) (size:=A.size) ((parts.toList.map fun p=>a.eval p.2).flatMap fun v=>v.cells.toList).toArray len (Nat.zero_le _) (by unfold maxLen;have:len≤len*J.size:=Nat.le_mul_of_pos_right _ (by omega);omega) (by simpa using E);refine cN m' none new (.arr e A L) (.slice (some ⟨w.heap.size,0,none⟩) len len) none (World.grownBy_alloc w _ none) (fun k e=>by cases e) (.inl hn) (fun _ k hk=>?_) (fun F' a1 hF a2=>?_) (by rw[bp];rfl) (fun _=>rfl) (fun F' a1 hF a2 I=>?_)
 ·simp only[dg,Option.some.injEq]at hk;exact .inl (by omega)
 ·rw[←f]at q;simp only[OR];refine⟨fun _ h=>h,h0,_,by rw[f]at q ⊢;exact q,fun i hi=>ai.mono (hF _) (fun k u hk=>by simpa using hk) (g3 i hi)⟩
 ·simp only[V];exact⟨I,_,_,_,rfl⟩
theorem ye(m:Mem Bw w0 ρ φ h w)(hn:ρ new=none){o:Oper}{a:Act}{t e:TypeId}{ti N:TI}(ht:aP P t ti)(hk:ti.k = .sl e)(B:aP P e N){A:Ty}(hT:N.T=some A)(h0:0<A.size)
  {lo co:Operand} (ho:o.op = .makeSlice t lo co) {β O:Bool} {kl kc:IntKind} {l c:Int} (hl:V (Fr (own φ h) Bw w) ρ (.p β (.int kl) l) (a.eval lo)) (hc:V (Fr (own φ h) Bw w) ρ (.p O (.int kc) c) (a.eval co))
  (h1:0≤l) (h2:l≤c) (h3:(N.bytes:Int)*c≤281474976710656) (h4:c≤9223372036854775807) :
  Good P o a w (aG Bw w0 ρ φ h w new (.sl new) [(new,some (.arr e A (List.replicate l.toNat A.zero)))]):=by
 obtain⟨i,z,hi,hz,f,q,X,Y,a5⟩:=B.hi;obtain⟨x,a6,Z⟩:=B.hT A hT;have hu:=aY ht hk;have C:=run_make (P:=P) w t e i z hu hi hz kl kc l c h1 h2 (by rw[q];exact h3) h4;refine Good.aH (v:=_) (w':=_) (by simp only[execOp,ho,bR hl,bR hc,Sem.run_bind,C,Result.andThen_ok];rfl) ?_;have hm:(madeCells z.cells (c.toNat*i.size)).size=c.toNat*i.size:=size_madeCells _ _;have D:l.toNat≤c.toNat:=by omega
 have a4:l.toNat*A.size≤c.toNat*i.size:=by rw[f,←x];exact Nat.mul_le_mul_right _ D
 refine cN m none new (.arr e A (List.replicate l.toNat A.zero)) (.slice (some ⟨w.heap.size,0,none⟩) l.toNat c.toNat) none (World.grownBy_alloc w _ none) (fun k e=>by cases e) (.inl hn) (fun _ k hk=>?_) (fun F' E hF a1=>?_) (by rw[bp];rfl) (fun _=>rfl) (fun F' E hF a1 I=>?_)
 ·simp only[dg,Option.some.injEq]at hk;exact .inl (by omega)
 ·refine⟨fun _ h=>h,h0,(madeCells z.cells (c.toNat*i.size)).toList.take (l.toNat*A.size),⟨?_,.inr ⟨w.heap.size,c.toNat,madeCells z.cells (c.toNat*i.size),?_,Nat.zero_le _,heap_alloc_new w _,?_,?_,?_,?_⟩⟩,fun j hj=>?_⟩
  ·simp only[List.length_take,Array.length_toList,hm,List.length_replicate];omega
  ·simp
  ·simpa using D
  ·unfold maxLen;omega
  ·rw[hm,f,←x]
  ·simp
  ·simp only[List.length_replicate]at hj;simp only[List.getElem_replicate];have a2:ai (F' false) A A.zero (fun k u=>z.cells.toList[k]? = some u):=by have:=gv (F:=F') (ρ:=E) z.cells.toList;rw[X]at this;exact(cU Z this).1
   refine ai.gB (fun k v hk M=>?_) a2;have a7:j*A.size+A.size≤l.toNat*A.size:=by rw[←Nat.succ_mul];exact Nat.mul_le_mul_right _ hj
   have J:z.cells.size=A.size:=by rw[Y,←x]
   rw[List.getElem?_take,if_pos (by omega)];have a3:j*A.size+k<c.toNat*i.size:=by omega
   have e1:(madeCells z.cells (c.toNat*i.size)).toList[j*A.size+k]? = some (z.cells[(j*A.size+k) % z.cells.size]!):=by simp[madeCells,a3]
   rw[e1,J,Nat.mul_comm,Nat.mul_add_mod,Nat.mod_eq_of_lt hk];have L:k<z.cells.size:=by omega
   simp only[Array.getElem?_toList]at M;rw[Array.getElem?_eq_getElem L]at M;simp only[Option.some.injEq]at M;simp[L,M]
 ·simp only[V];exact⟨I,_,_,_,rfl⟩
theorem AK(m:Mem Bw w0 ρ φ h w)(hn:ρ new=none){o:Oper}{a:Act}{t e N:TypeId}{ti E:TI}(ht:aP P t ti)(hk:ti.k = .sl e)(I:aP P e E){A:Ty}(hT:E.T=some (.slice A))(hz:E.z=[.nils])(h0:0<A.size)
  {lo co:Operand} (ho:o.op = .makeSlice t lo co) {β X:Bool} {kl kc:IntKind} {l c:Int} (hl:V (Fr (own φ h) Bw w) ρ (.p β (.int kl) l) (a.eval lo)) (hc:V (Fr (own φ h) Bw w) ρ (.p X (.int kc) c) (a.eval co))
  (h1:0≤l) (h2:l≤c) (h3:(E.bytes:Int)*c≤281474976710656) (h4:c≤9223372036854775807) :
  Good P o a w (aG Bw w0 ρ φ h w new (.sl new) [(new,some (.mat e N A (List.replicate l.toNat []) none))]):=by
 obtain⟨i,z,hi,Y,C,x,Z,a1,a9⟩:=I.hi;obtain⟨a2,aa,ac⟩:=I.hT _ hT;have B:E.size=1:=by rw[←a2];rfl
 have hu:=aY ht hk;have J:=run_make (P:=P) w t e i z hu hi Y kl kc l c h1 h2 (by rw[x];exact h3) h4;refine Good.aH (v:=_) (w':=_) (by simp only[execOp,ho,bR hl,bR hc,Sem.run_bind,J,Result.andThen_ok];rfl) ?_;have hm:(madeCells z.cells (c.toNat*i.size)).size=c.toNat*i.size:=size_madeCells _ _;have a3:l.toNat≤c.toNat:=by omega
 have D:i.size=1:=by rw[C,B]
 have a4:z.cells.size=1:=by rw[a1,B]
 have a5:z.cells[0]! = .slice none 0 0:=by have:=gv (F:=fun _ _ _=>True) (ρ:=fun _=>none) z.cells.toList;rw[Z,hz]at this;simp only[VL,V]at this;obtain⟨⟨u,O,q2⟩,_⟩:=this;simp only[Array.getElem?_toList]at O;rw[q2]at O;rw[getElem!_pos z.cells 0 (by omega)];rw[Array.getElem?_eq_getElem (by omega)]at O;exact Option.some.inj O
 have f:∀j,j<l.toNat→((madeCells z.cells (c.toNat*i.size)).toList.take (l.toNat*1))[j]? = some (.slice none 0 0):=fun j hj=>by
  rw[List.getElem?_take,if_pos (by omega)];have a6:j<c.toNat*i.size:=by rw[D];omega
  have L:(madeCells z.cells (c.toNat*i.size)).toList[j]? = some (z.cells[j % z.cells.size]!):=by simp[madeCells,a6]
  rw[L,a4,Nat.mod_one,a5]
 refine cN m none new (.mat e N A (List.replicate l.toNat []) none) (.slice (some ⟨w.heap.size,0,none⟩) l.toNat c.toNat) none (World.grownBy_alloc w _ none) (fun k e=>by cases e) (.inl hn) (fun _ k hk=>?_) (fun F' a7 hF a8=>?_) (by rw[bp];rfl) (fun _=>rfl) (fun F' a7 hF a8 M=>?_)
 ·simp only[dg,Option.some.injEq]at hk;exact .inl (by omega)
 ·refine⟨fun _ h=>h,h0,fun _ _ e=>(by cases e),(madeCells z.cells (c.toNat*i.size)).toList.take (l.toNat*1),⟨?_,.inr ⟨w.heap.size,c.toNat,madeCells z.cells (c.toNat*i.size),?_,Nat.zero_le _,heap_alloc_new w _,?_,?_,?_,?_⟩⟩,fun j hj=>?_,fun r r' vr ad b _ _ _ L N b1=>?_⟩
  ·simp only[List.length_take,Array.length_toList,hm,List.length_replicate];rw[D];omega
  ·simp
  ·simpa using a3
  ·unfold maxLen;omega
  ·rw[hm,D]
  ·simp
  ·simp only[List.length_replicate]at hj;refine⟨_,f j hj,⟨_,_,_,rfl⟩,fun _=>⟨fun k hk=>by simp[dg]at hk,[],?_,fun q hq=>?_⟩,fun id e=>by cases e⟩
   ·simp only[List.getElem_replicate,List.length_nil];exact World.ownsRow_nil _ 0 N A.size
   ·simp at hq
  ·have hr:r<l.toNat:=by have:=(List.getElem?_eq_some_iff.1 L).1;simp only[List.length_take]at this;omega
   rw[f r hr]at L;cases L;simp[dg]at b1
 ·simp only[V];exact⟨M,_,_,_,rfl⟩
end
section
variable{P:Program}{Bw:Nat→Prop}{w0:cu P}{ρ:Nat→QW}{φ:Nat→Nat→Prop}{h:Nat→Qz}{w:World}{new:Nat}
theorem Cw{α β:Type}(f:α→Sem β)(g:α→β)(w:World):∀(l:List α),(∀x∈l,(f x).run P w = .ok (g x) w)→(l.mapM f).run P w = .ok (l.map g) w
 | [],_=>rfl
 | x::l,h=>by
  rw[List.mapM_cons,Sem.run_bind,h x (by simp)];simp only[Result.andThen_ok,Sem.run_bind,Cw f g w l (fun y c=>h y (by simp[c]))];rfl
def parts(tb:bP)(fs:List (Nat×TypeId)):List (Nat×ag)→List ag→Option (List ag)
 | [],f=>some f
 | (i,x)::r,f=>match fs[i]? with
  | some (off,j)=>match tb.find j with
   | some c=>if(cellsOf x).length=c.size∧(cellsOf x).all ag.cell∧off+c.size≤f.length then parts tb fs r (wr f off (cellsOf x))else none
   | none=>none
  | none=>none
theorem pq{tb:bP}(B:bV P tb){F:Bool→Addr→Value→Prop}{fs:List (Nat×TypeId)}{pl:Nat→Option (Nat×Nat)}
  (C:∀i off E,fs[i]? = some (off,E)→∃M,P.info? E=some M∧pl i=some (off,M.size)) :
  ∀ {ps:List (Nat×ag)} {vs:QY} {c D:List ag} {us:QU},parts tb fs ps c=some D→iP F ρ (ps.map (·.2)) vs→us.size=c.length→VL F ρ c (fun k u=>us[k]? = some u) →
   ∃e,Instr.fill pl us ((ps.map (·.1)).zip vs)=some e∧e.size=D.length∧VL F ρ D (fun k u=>e[k]? = some u)
 | [],vs,c,D,us,h,I,A,hl=>by
  simp only[parts,Option.some.injEq]at h;subst h;cases vs with
  | nil=>exact⟨us,rfl,A,hl⟩
  | cons _ _=>exact I.elim
 | (i,x)::r,vs,c,D,us,h,I,A,hl=>by
  simp only[parts]at h;split at h
  ·rename_i off E J;split at h
   ·rename_i N O;split at h
    ·rename_i j;obtain⟨L,c2,V⟩:=j;cases vs with
     | nil=>exact I.elim
     | cons v vs =>
      obtain⟨q1,q2⟩:=I;obtain⟨r1,Z,r3⟩:=fV c2 q1;obtain⟨M,X,hp⟩:=C i off E J;obtain⟨i2,z,e1,_,e3,_⟩:=(B.find O).hi;rw[X]at e1;cases e1;have f:v.cells.size=N.size:=by rw[←Array.length_toList,Z,L]
      have J:=vg off v us (by rw[f,A];exact V);have q:(v.cells.zipIdx.foldl (fun(c:QU) (p:Value×Nat)=>c.setIfInBounds (off+p.2) p.1) us).size=(wr c off (cellsOf x)).length:=by rw[←Array.length_toList,J,GY (by rw[L];exact V)];simp only[List.length_append,List.length_take,List.length_drop,Array.length_toList,f,A];omega
      have Y:VL F ρ (wr c off (cellsOf x)) (fun k u=>(v.cells.zipIdx.foldl (fun(c:QU) (p:Value×Nat)=>c.setIfInBounds (off+p.2) p.1) us)[k]? = some u):=by have:=Fq (p:=off) (us:=us.toList) (by rw[L];exact V) (by simpa using A) Z (VL.mono (fun _ _ _ h=>h) (fun _ _ h=>h) (fun k u hk=>by simpa using hk) hl) r1;refine VL.mono (fun _ _ _ h=>h) (fun _ _ h=>h) (fun k u hk=>?_) this;rw[←Array.getElem?_toList,J,f,←L];exact hk
      obtain⟨e,t1,t2,t3⟩:=pq B C h q2 q Y;refine⟨e,?_,t2,t3⟩;simp only[List.map_cons,List.zip_cons_cons,Instr.fill,hp];rw[if_neg (by simp[f,e3,A];omega)];exact t1
    ·cases h
   ·cases h
  ·cases h
theorem yA(m:Mem Bw w0 ρ φ h w){tb:bP}(L:bV P tb){o:Oper}{a:Act}{t:TypeId}{ti:TI}(ht:aP P t ti){fs:List (Nat×TypeId)}(hk:ti.k = .st fs)
  {ps:Array (Nat×Operand)} (ho:o.op = .build t ps) {xs:List ag} (O:iP (Fr (own φ h) Bw w) ρ xs (ps.toList.map fun p=>a.eval p.2)) {X:List ag}
  (hd:parts tb fs ((ps.toList.map (·.1)).zip xs) ti.z=some X):Good P o a w (aG Bw w0 ρ φ h w new (.agg X) []):=by
 obtain⟨z,hz,q,a1,a2⟩:=dy ht w;obtain⟨d,h1,Y⟩:=ht.hu;rw[hk]at Y;obtain⟨E,rfl,h3,Z⟩:=Y;have e:xs.length=ps.toList.length:=by
  have key:∀(xs:List ag) (vs:QY),iP (Fr (own φ h) Bw w) ρ xs vs→xs.length=vs.length:=fun xs=>by
   induction xs with
   | nil=>intro vs I;cases vs with | nil=>rfl | cons _ _=>exact I.elim
   | cons x xs ih=>intro vs I;cases vs with | nil=>exact I.elim | cons v vs=>simp[ih vs I.2]
  rw[key _ _ O,List.length_map]
 have M:∀f∈E.toList,(do pure (f.offset,←sizeOf f.type):Sem (Nat×Nat)).run P w = .ok (f.offset,((P.info? f.type).map (·.size)).getD 0) w:=fun f c=>by obtain⟨i,hi,_⟩:=Z f c;simp[sizeOf,typeInfo,hi]
 have u:=Cw (P:=P) (fun f:Field=>do pure (f.offset,←sizeOf f.type)) (fun f=>(f.offset,((P.info? f.type).map (·.size)).getD 0)) w E.toList M;have j:=pq (ρ:=ρ) L (F:=Fr (own φ h) Bw w) (fs:=fs) (pl:=fun i=>(E.toList.map (fun f=>(f.offset,((P.info? f.type).map (·.size)).getD 0))).toArray[i]?) (fun i off ft c=>by
  rw[←h3,List.getElem?_map]at c;cases J:E.toList[i]? with
  | none=>rw[J]at c;cases c
  | some fd =>
   rw[J]at c;simp only[Option.map_some,Option.some.injEq,Prod.mk.injEq]at c;obtain⟨i',B,_⟩:=Z fd (List.mem_of_getElem? J);refine⟨i',by rw[←c.2];exact B,?_⟩;simp only[List.getElem?_toArray,List.getElem?_map,J,Option.map_some,B,Option.getD_some,c.1]) (ps:=(ps.toList.map (·.1)).zip xs) (vs:=ps.toList.map fun p=>a.eval p.2) (us:=z.cells) hd
  (by rw[List.map_snd_zip (by simp[e])];exact O) (by rw[←q];simp) (by rw[←q];have:=gv (F:=Fr (own φ h) Bw w) (ρ:=ρ) z.cells.toList;simpa using this)
 obtain⟨C,N,q2,q3⟩:=j;rw[List.map_fst_zip (by simp[e])]at N;have D:(ps.toList.map (·.1)).zip (ps.toList.map fun p=>a.eval p.2)=(ps.map fun p=>(p.1,a.eval p.2)).toList:=by simp[List.zip_map']
 rw[D]at N;refine Good.aH (v:= .agg C) (w':=w) ?_ (aG.pure m ?_)
 ·simp only[execOp,ho,Instr.build,Sem.run_bind,hz,Result.andThen_ok,run_underlying h1,Array.mapM_eq_mapM_toList,Sem.run_map,u,N];rfl
 ·simp only[V];exact⟨C,rfl,q2,q3⟩
theorem uR(m:Mem Bw w0 ρ φ h w){tb:bP}(L:bV P tb){o:Oper}{a:Act}{t e:TypeId}{ti B:TI}{n:Nat}(ht:aP P t ti)(hk:ti.k = .ar n e)(M:aP P e B)
  {ps:Array (Nat×Operand)} (ho:o.op = .build t ps) {xs:List ag} (Y:iP (Fr (own φ h) Bw w) ρ xs (ps.toList.map fun p=>a.eval p.2)) {Z:List ag}
  (hd:parts tb ((List.range n).map fun i=>(i*B.size,e)) ((ps.toList.map (·.1)).zip xs) ti.z=some Z):Good P o a w (aG Bw w0 ρ φ h w new (.agg Z) []):=by
 obtain⟨z,hz,C,a1,a2⟩:=dy ht w;obtain⟨d,h1,N⟩:=ht.hu;rw[hk]at N;simp only[UK]at N;subst N;obtain⟨i,_,hi,_,c,_⟩:=M.hi;have f:xs.length=ps.toList.length:=by
  have key:∀(xs:List ag) (vs:QY),iP (Fr (own φ h) Bw w) ρ xs vs→xs.length=vs.length:=fun xs=>by
   induction xs with
   | nil=>intro vs J;cases vs with | nil=>rfl | cons _ _=>exact J.elim
   | cons x xs ih=>intro vs J;cases vs with | nil=>exact J.elim | cons v vs=>simp[ih vs J.2]
  rw[key _ _ Y,List.length_map]
 have hs:(sizeOf e).run P w = .ok B.size w:=by simp[sizeOf,typeInfo,hi,c]
 have q:=pq (ρ:=ρ) L (F:=Fr (own φ h) Bw w) (fs:=(List.range n).map fun i=>(i*B.size,e)) (pl:=fun i=>some (i*B.size,B.size)) (fun j off ft u=>by
  rw[List.getElem?_map]at u;cases O:(List.range n)[j]? with
  | none=>rw[O]at u;cases u
  | some k =>
   rw[O]at u;simp only[Option.map_some,Option.some.injEq,Prod.mk.injEq]at u;obtain⟨a3,D⟩:=List.getElem?_eq_some_iff.1 O;simp at D;refine⟨i,by rw[←u.2];exact hi,?_⟩;rw[←u.1,←D,c]) (ps:=(ps.toList.map (·.1)).zip xs) (vs:=ps.toList.map fun p=>a.eval p.2) (us:=z.cells) hd
  (by rw[List.map_snd_zip (by simp[f])];exact Y) (by rw[←C];simp) (by rw[←C];have:=gv (F:=Fr (own φ h) Bw w) (ρ:=ρ) z.cells.toList;simpa using this)
 obtain⟨E,X,q2,q3⟩:=q;rw[List.map_fst_zip (by simp[f])]at X;have I:(ps.toList.map (·.1)).zip (ps.toList.map fun p=>a.eval p.2)=(ps.map fun p=>(p.1,a.eval p.2)).toList:=by simp[List.zip_map']
 rw[I]at X;refine Good.aH (v:= .agg E) (w':=w) ?_ (aG.pure m ?_)
 ·simp only[execOp,ho,Instr.build,Sem.run_bind,hz,Result.andThen_ok,run_underlying h1,hs,X];rfl
 ·simp only[V];exact⟨E,rfl,q2,q3⟩
def lenOf(h:Nat→Qz):ag→Option Int
 | .p _ (.slice _) e=>some e.length
 | .p _ .str s=>some s.length
 | .nils=>some 0
 | .sl id=>match h id with
  | some (.arr _ _ e)=>some e.length
  | some (.fz _ e)=>some e.length
  | some (.mat _ _ _ f _)=>some f.length
  | some (.bytes _ e)=>some e.length
  | _=>none
 | _=>none
theorem CB(m:Mem Bw w0 ρ φ h w){o:Oper}{a:Act}{t:TypeId}{ti:TI}(ht:aP P t ti)(hk:(∃e,ti.k = .sl e)∨ti.k = .str){J:Operand}{x:ag}(q:V (Fr (own φ h) Bw w) ρ x (a.eval J))
  (O:o.op = .call { callee:= .builtin .len,args:= #[J],argTypes:= #[t] }) {n:Int} (hl:lenOf h x=some n) (E:ti.k = .str↔∃β s,x = .p β .str s):Good P o a w (aG Bw w0 ρ φ h w new (.p false (.int .i64) n) []):=by
 obtain⟨d,X,z⟩:=ht.hu;have key:∀B len cap,a.eval J = .slice B len cap→(len:Int)=n→ti.k ≠ .str→Good P o a w (aG Bw w0 ρ φ h w new (.p false (.int .i64) n) []):=fun B len cap Y hn c=>by
  rcases hk with⟨e,hk⟩ | hk
  ·rw[hk]at z;simp only[UK]at z;subst z;refine Good.aH (v:= .int .i64 n) (w':=w) ?_ (aG.pure m (dC _ _ _));simp only[execOp,O,resolve,invoke,builtin,Sem.run_bind,Sem.run_pure,Result.andThen_ok,List.map_toArray,List.map_cons,List.map_nil,Y];simp[Builtin.len_,run_underlying X,goInt,hn]
  ·exact absurd hk c
 unfold lenOf at hl;split at hl
 ·cases hl;simp only[V,ai]at q;obtain⟨_,B,len,cap,e,⟨hl,_⟩,_⟩:=q;refine key B len cap e.symm (by rw[hl]) (fun e=>?_);obtain⟨_,_,e⟩:=E.1 e;cases e
 ·rename_i s;cases hl;have C:=E.2 ⟨_,_,rfl⟩;rw[C]at z;simp only[UK]at z;subst z;refine Good.aH (v:= .int .i64 s.length) (w':=w) ?_ (aG.pure m (dC _ _ _));simp only[execOp,O,resolve,invoke,builtin,Sem.run_bind,Sem.run_pure,Result.andThen_ok,List.map_toArray,List.map_cons,List.map_nil,pT q];have L:(⟨s.toArray⟩:ByteArray).size=s.length:=rfl;simp[Builtin.len_,run_underlying X,goInt,L]
 ·cases hl;simp only[V]at q;refine key none 0 0 q rfl (fun e=>?_);obtain⟨_,_,e⟩:=E.1 e;cases e
 ·rename_i id;simp only[V]at q;obtain⟨j,aa,nn,cc,Y⟩:=q;have c:ti.k ≠ .str:=fun e=>by obtain⟨_,_,e⟩:=E.1 e;cases e
  split at hl
  ·rename_i Z A xs hi;cases hl;obtain⟨u,f,M,_,cells,N,_⟩:=m.ob id _ hi;rw[j]at f;cases f;rcases N.2 with⟨e,hn⟩ | ⟨g,cap,D,e,_⟩
   ·exact key none 0 0 e (by rw[hn]) c
   ·exact key _ _ _ e rfl c
  ·rename_i A xs hi;cases hl;obtain⟨u,f,I⟩:=m.ob id _ hi;rw[j]at f;cases f;simp only[OR,V,ai]at I;obtain⟨_,B,len,cap,e,⟨hl,_⟩,_⟩:=I;exact key B len cap e.symm (by rw[hl]) c
  ·rename_i Z e2 A a1 a2 hi;cases hl;obtain⟨u,f,M,_,_,cells,N,_⟩:=m.ob id _ hi;rw[j]at f;cases f;rcases N.2 with⟨e,hn⟩ | ⟨g,cap,D,e,_⟩
   ·exact key none 0 0 e (by rw[hn]) c
   ·exact key _ _ _ e rfl c
  ·rename_i Z xs hi;cases hl;obtain⟨u,f,I⟩:=m.ob id _ hi;rw[j]at f;cases f;rcases I with⟨e,hn⟩ | ⟨g,cap,D,mk,e,_⟩
   ·exact key none 0 0 e (by rw[hn];rfl) c
   ·exact key _ _ _ e rfl c
  ·cases hl
 ·cases hl
theorem AL(m:Mem Bw w0 ρ φ h w){o:Oper}{a:Act}{c:Operand}{f:List ag}(j:V (Fr (own φ h) Bw w) ρ (.tup f) (a.eval c)){i:Nat}(p:o.op = .extract c i){y:ag}(q:f[i]? = some y):
  Good P o a w (aG Bw w0 ρ φ h w new y []):=by
 simp only[V]at j;obtain⟨B,e,_,hl⟩:=j;obtain⟨u,x,z⟩:=VL.get hl q;refine Good.aH (v:=u) (w':=w) ?_ (aG.pure m z);simp[execOp,p,e,Instr.extract,x]
theorem yF(m:Mem Bw w0 ρ φ h w){o:Oper}{a:Act}{f:FuncId}{c:Array Operand}(z:o.op = .makeFunc (.func f) #[] c){xs:List ag}(B:iP (Fr (own φ h) Bw w) ρ xs (c.toList.map a.eval)):
  Good P o a w (aG Bw w0 ρ φ h w new (.fn f xs) []):=by
 refine Good.aH (v:= .func (.func f) #[] (c.map a.eval)) (w':=w) (by simp[execOp,z,Instr.makeFunc]) (aG.pure m ?_);simp only[V];have key:∀(xs:List ag) (e:QY),iP (Fr (own φ h) Bw w) ρ xs e→e.length=xs.length∧VL (Fr (own φ h) Bw w) ρ xs (fun k u=>e[k]? = some u):=fun xs=>by
  induction xs with
  | nil=>intro e j;cases e with | nil=>exact⟨rfl,by simp only[VL]⟩ | cons _ _=>exact j.elim
  | cons x xs C =>
   intro e j;cases e with
   | nil=>exact j.elim
   | cons v e =>obtain⟨p,q⟩:=C e j.2;simp only[VL];exact⟨by simp[p],⟨v,rfl,j.1⟩,VL.mono (fun _ _ _ h=>h) (fun _ _ h=>h) (fun k u hk=>by simpa using hk) q⟩
 obtain⟨p,q⟩:=key _ _ B;exact⟨_,rfl,by simpa using p,VL.mono (fun _ _ _ h=>h) (fun _ _ h=>h) (fun k u hk=>by simpa using hk) q⟩
theorem xx(m:Mem Bw w0 ρ φ h w){o:Oper}{a:Act}{t:TypeId}{ti:TI}(ht:aP P t ti)(hk:ti.k = .str){q io:Operand}{β f:Bool}{s:QX}(u:V (Fr (own φ h) Bw w) ρ (.p β .str s) (a.eval q))
  {k:IntKind} {i:Int} (hi:V (Fr (own φ h) Bw w) ρ (.p f (.int k) i) (a.eval io)) (x:o.op = .index t q io) (z:0≤i) (C:i<s.length):Good P o a w (aG Bw w0 ρ φ h w new (.p false (.int .u8) ((s.getD i.toNat 0).toNat:Int)) []):=by
 obtain⟨d,B,j⟩:=ht.hu;rw[hk]at j;simp only[UK]at j;subst j;have c:i.toNat<s.length:=by omega
 refine Good.aH (v:= .int .u8 (s.getD i.toNat 0).toNat) (w':=w) ?_ (aG.pure m (dC _ _ _));have e:(⟨s.toArray⟩:ByteArray)[i.toNat]? = some s[i.toNat]:=by rw[getElem?_pos _ _ (by simpa [ByteArray.size]using c)];simp[ByteArray.getElem_eq_getElem_data]
 simp[execOp,x,Instr.index,asIntOf,bR hi,pT u,run_underlying B,z,e,c]
theorem zS(m:Mem Bw w0 ρ φ h w){o:Oper}{a:Act}{c:Operand}{x:ag}(f:V (Fr (own φ h) Bw w) ρ x (a.eval c))(e:o.op = .move c∨o.op = .assign c):Good P o a w (aG Bw w0 ρ φ h w new x []):=by
 rcases e with e | e <;> exact Good.aH (v:=a.eval c) (w':=w) (by simp[execOp,e]) (aG.pure m f)
theorem uo(m:Mem Bw w0 ρ φ h w){o:Oper}{a:Act}{co c e:Operand}{β b:Bool}{x:ag}(f:V (Fr (own φ h) Bw w) ρ (.p β .bool b) (a.eval co))(j:V (Fr (own φ h) Bw w) ρ x (a.eval (if b then c else e)))
  (q:o.op = .pick co c e):Good P o a w (aG Bw w0 ρ φ h w new x []):=by
 refine Good.aH (v:=a.eval (if b then c else e)) (w':=w) ?_ (aG.pure m j);cases b <;> simp[execOp,q,kq f,asBool]
end
end Go.Tv
