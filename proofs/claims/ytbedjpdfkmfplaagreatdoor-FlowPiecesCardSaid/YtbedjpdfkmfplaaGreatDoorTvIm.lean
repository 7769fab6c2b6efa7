import Derived.Test.YtbedjpdfkmfplaaGreatDoorTvGm
import Derived.Laws.CopyRow
namespace Go.Tv
open Go Go.RowKit
theorem zQ(off:Nat):∀(l:QY) (k:Nat) (e:QU),off+k+l.length≤e.size →
  ((l.zipIdx k).foldl (fun(e:QU) (p:Value×Nat)=>e.setIfInBounds (off+p.2) p.1) e).toList=e.toList.take (off+k)++l++e.toList.drop (off+k+l.length)
 | [],k,e,_=>by simp
 | v::l,k,e,h=>by
  simp only[List.zipIdx_cons,List.foldl_cons];simp only[List.length_cons]at h;rw[zQ off l (k+1) _ (by simp;omega)];have:=list_seg_step e.toList (off+k) v l (by simp;omega);simpa [Array.toList_setIfInBounds,Nat.add_assoc,Nat.add_comm 1]using this
theorem uP(off:Nat)(v:Value)(e:QU)(h:off+v.cells.size≤e.size):
  (v.cells.zipIdx.foldl (fun(e:QU) (p:Value×Nat)=>e.setIfInBounds (off+p.2) p.1) e).toList=e.toList.take off++v.cells.toList++e.toList.drop (off+v.cells.size):=by
 rw[←Array.foldl_toList,Array.toList_zipIdx];have:=zQ off v.cells.toList 0 e (by simpa using h);simpa using this
theorem DD(size:Nat):∀(f:QY) (k:Nat) (e:QU),(∀v∈f,v.cells.size=size)→(k+f.length)*size=e.size →
  ∃r,Instr.fill (fun i=>some (i*size,size)) e ((f.zipIdx k).map fun p=>(p.2,p.1))=some r∧r.toList=e.toList.take (k*size)++f.flatMap (fun v=>v.cells.toList)
 | [],k,e,_,h=>⟨e,by simp[Instr.fill],by simp at h;rw[h,List.take_of_length_le (by simp)];simp⟩
 | v::f,k,e,q,h=>by
  have z:=q v (by simp);have j:k*size+size≤e.size:=by rw[←h,List.length_cons,←Nat.succ_mul];exact Nat.mul_le_mul_right _ (by omega)
  have B:=uP (k*size) v e (by rw[z];exact j);obtain⟨r,A,C⟩:=DD size f (k+1) (v.cells.zipIdx.foldl (fun(e:QU) (p:Value×Nat)=>e.setIfInBounds (k*size+p.2) p.1) e) (fun u hu=>q u (by simp[hu])) (by
   have:(v.cells.zipIdx.foldl (fun(e:QU) (p:Value×Nat)=>e.setIfInBounds (k*size+p.2) p.1) e).size=e.size:=by
    grind (splits:=6) (ematch:=4) [Array.length_toList,List.length_append,List.length_take,List.length_drop]
   rw[this,←h,List.length_cons];congr 1;omega)
  refine⟨r,?_,?_⟩
  ·simp only[List.zipIdx_cons,List.map_cons,Instr.fill];rw[if_neg (by simp[z];omega)];exact A
  ·grind (splits:=6) (ematch:=4) [List.length_take,Array.length_toList,List.length_append,Nat.succ_mul,List.append_assoc]
def jf(F:Bool→Addr→Value→Prop)(ρ:Nat→QW):List ag→QY→Prop
 | [],[]=>True
 | x::xs,v::vs=>V F ρ x v∧jf F ρ xs vs
 | _,_=>False
theorem jf.mono{F F':Bool→Addr→Value→Prop}{ρ ρ':Nat→QW}(z:∀β a v,F β a v→F' β a v)(j:∀i u,ρ i=some u→ρ' i=some u):∀ {xs:List ag} {vs:QY},jf F ρ xs vs→jf F' ρ' xs vs
 | [],[],_=>trivial
 | _::_,_::_,h=>⟨V.mono z j h.1,jf.mono z j h.2⟩
 | [],_::_,h=>h
 | _::_,[],h=>h
theorem jM{F:Bool→Addr→Value→Prop}{ρ:Nat→QW}{n:NS}{a:Act}{s:Nat→ag}(h:bV n F ρ s a):∀(xs:List Operand),jf F ρ (xs.map (ev s)) (xs.map a.eval)
 | []=>trivial
 | x::xs=>⟨ba h x,jM h xs⟩
def DC(A:Ty)(h:Nat→Qz):List ag→Option (List A.den×iu)
 | []=>some ([],[])
 | x::xs=>match HE A h x with
  | some (y,u)=>match DC A (apply u h) xs with
   | some (f,j)=>some (y::f,u++j)
   | none=>none
  | none=>none
section
variable{P:Program}{Bw:Nat→Prop}{w0:cE P}{ρ:Nat→QW}{φ:Nat→Nat→Prop}{h:Nat→Qz}{w:World}{new:Nat}
theorem wL{A:Ty}:∀ {f:List ag} {h:Nat→Qz} {j:List A.den} {q:iu},Mem Bw w0 ρ φ h w→DC A h f=some (j,q)→(∀x∈f,(cellsOf x).all ag.cell=true) →
  Mem Bw w0 ρ φ (apply q h) w∧(∀β a v,Fr (own φ h) Bw w β a v→Fr (own φ (apply q h)) Bw w β a v)∧j.length=f.length ∧
  ∀vs,jf (Fr (own φ h) Bw w) ρ f vs→vs.length=f.length∧(∀v∈vs,v.cells.size=A.size∧∀c∈v.cells.toList,c.oneCell'=true) ∧
   ∀i (hi:i<j.length),ai (Fr (own φ (apply q h)) Bw w false) A j[i] (fun k u=>(vs.flatMap fun v=>v.cells.toList)[i*A.size+k]? = some u)
 | [],h,j,q,m,hd,_=>by
  cases hd;refine⟨m,fun _ _ _ h=>h,rfl,fun vs z=>?_⟩;cases vs with
  | nil=>exact⟨rfl,fun v z=>by simp at z,fun i hi=>absurd hi (by simp)⟩
  | cons _ _=>exact z.elim
 | x::f,h,j,q,m,hd,C=>by
  simp only[DC]at hd;split at hd
  ·rename_i y u I;split at hd
   ·rename_i J L M;cases hd;obtain⟨N,D,O⟩:=nq m I;obtain⟨V,E,X,g2⟩:=wL N M (fun x Y=>C x (by simp[Y]));rw[fm];refine⟨V,fun β a v Z=>E _ _ _ (D _ _ _ Z),by simp[X],fun vs z=>?_⟩;cases vs with
    | nil=>exact z.elim
    | cons v vs =>
     obtain⟨q1,q2⟩:=z;obtain⟨r1,r2,r3⟩:=gv (C x (by simp)) q1;obtain⟨s1,s2⟩:=O _ r1;obtain⟨t1,t2,t3⟩:=g2 vs (jf.mono D (fun _ _ h=>h) q2);have B:v.cells.size=A.size:=by rw[s2,←r2,Array.length_toList]
     refine⟨by simp[t1],fun u hu=>?_,fun i hi=>?_⟩
     ·grind
     ·rw[List.flatMap_cons];cases i with
      | zero=>exact ai.mono (E _) (fun k u hk=>by rw[Nat.zero_mul,Nat.zero_add,List.getElem?_append_left (List.getElem?_eq_some_iff.1 hk).1];exact hk) s1
      | succ i =>
       refine ai.mono (fun _ _ h=>h) (fun k u hk=>?_) (t3 i (by simpa using hi));rw[List.getElem?_append_right (by rw[Array.length_toList,B,Nat.succ_mul];omega),Array.length_toList,B,←hk];congr 1;rw[Nat.succ_mul];omega
   ·cases hd
  ·cases hd
theorem pZ{A:Ty}:∀ {vs:QY},(∀v∈vs,v.cells.size=A.size)→(vs.flatMap fun v=>v.cells.toList).length=vs.length*A.size
 | [],_=>by simp
 | v::vs,h=>by
  rw[List.flatMap_cons,List.length_append,pZ (fun u hu=>h u (by simp[hu])),Array.length_toList,h v (by simp),List.length_cons,Nat.succ_mul,Nat.add_comm]
theorem pL{t e:TypeId}{ti j:TI}(ht:aO P t ti)(hk:ti.k = .sl e)(q:aO P e j){vs:QY}(D:∀v∈vs,v.cells.size=j.size)(E:vs.length*j.size≤16777216):
  (Instr.buildSlice t vs.length ((vs.zipIdx 0).map fun p=>(p.2,p.1)).toArray).run P w = .ok (.slice (some ⟨w.heap.size,0,none⟩) vs.length vs.length) (w.alloc (.cells (vs.flatMap fun v=>v.cells.toList).toArray e)):=by
 have hu:=aX ht hk;obtain⟨z,hz,_,I,_⟩:=dF q w;have f:∀B:QU,B.size=vs.length*j.size→Instr.fill (fun i=>some (i*j.size,j.size)) B ((vs.zipIdx 0).map fun p=>(p.2,p.1))=some (vs.flatMap fun v=>v.cells.toList).toArray:=fun B J=>by obtain⟨r,L,M⟩:=DD j.size vs 0 B D (by rw[J,Nat.zero_add]);rw[L];congr 1;apply Array.ext';rw[M];simp
 have u:¬(vs.length*j.size > 2 ^ 24):=by omega
 by_cases C:vs.length*j.size=0
 ·have:=f #[] (by simp[C]);simp[Instr.buildSlice,run_underlying hu,run_sizeOf q,C,Array.range_zero',this,newRow]
 ·have:=f ((Array.range (vs.length*j.size)).map (z.cells[· % z.cells.size]!)) (by simp);simp[Instr.buildSlice,run_underlying hu,run_sizeOf q,u,C,hz,this,newRow]
theorem vK(m:Mem Bw w0 ρ φ h w)(hn:ρ new=none){o:Oper}{a:Act}{t e:TypeId}{ti L:TI}(ht:aO P t ti)(hk:ti.k = .sl e)(D:aO P e L){A:Ty}(hT:L.T=some A)(h0:0<A.size)
  {parts:Array (Nat×Operand)} {len:Nat} (ho:o.op = .buildSlice t len parts) (hp:parts.toList.map (·.1)=List.range len) {xs:List ag}
  (hx:jf (Fr (own φ h) Bw w) ρ xs (parts.toList.map fun p=>a.eval p.2)) (hc:∀x∈xs,(cellsOf x).all ag.cell=true) {M:List A.den} {us:iu} (hy:DC A h xs=some (M,us)) (N:len*L.size≤16777216) :
  Good P o a w (aG Bw w0 ρ φ h w new (.sl new) (us++[(new,some (.arr e A M))])):=by
 obtain⟨O,_,_⟩:=D.hT A hT;obtain⟨m',X,hl,hg⟩:=wL m hy hc;obtain⟨g1,g2,g3⟩:=hg _ hx;have f:(parts.toList.map fun p=>a.eval p.2).length=len:=by have:=congrArg List.length hp;simpa using this
 have B:(parts.map fun p=>(p.1,a.eval p.2))=(((parts.toList.map fun p=>a.eval p.2).zipIdx 0).map fun p=>(p.2,p.1)).toArray:=by
  apply Array.ext';simp only[Array.toList_map];apply List.ext_getElem?;intro j;simp only[List.getElem?_map,List.getElem?_zipIdx,Option.map_map];have E:=congrArg (fun l=>l[j]?) hp;simp only[List.getElem?_map]at E;cases hq:parts.toList[j]? with
  | none=>simp[hq]
  | some p =>
   simp only[hq,Option.map_some]at E ⊢;have Y:j<len:=by
    grind
   rw[List.getElem?_range Y]at E;simp only[Option.some.injEq]at E;simp[E]
 have C:=pL (P:=P) (w:=w) ht hk D (vs:=parts.toList.map fun p=>a.eval p.2) (fun v Z=>by rw[(g2 v Z).1,O]) (by rw[f];exact N);rw[f,←B]at C;refine Good.aH (v:=_) (w':=_) (by simp only[execOp,ho,Sem.run_bind,C,Result.andThen_ok];rfl) ?_;refine aG.after rfl X ?_;have q:M.length=len:=by rw[hl,←g1,f]
 have I:=pZ (A:=A) (fun v Z=>(g2 v Z).1);rw[f]at I;have z:=World.ownsRow_lit (w:=w) (base:=0) (e:=e) (size:=A.size) ((parts.toList.map fun p=>a.eval p.2).flatMap fun v=>v.cells.toList).toArray len (Nat.zero_le _) (by unfold maxLen;have:len≤len*L.size:=Nat.le_mul_of_pos_right _ (by omega);omega) (by simpa using I);refine cV m' none new (.arr e A M) (.slice (some ⟨w.heap.size,0,none⟩) len len) none (World.grownBy_alloc w _ none) (fun k e=>by cases e) (.inl hn) (fun _ k hk=>?_) (fun F' a1 hF a2=>?_) (by rw[bp];rfl) (fun _=>rfl) (fun F' a1 hF a2 J=>?_)
 ·simp_all [dH]
 ·rw[←q]at z;simp only[OR];refine⟨fun _ h=>h,h0,_,by rw[q]at z ⊢;exact z,fun i hi=>ai.mono (hF _) (fun k u hk=>by simpa using hk) (g3 i hi)⟩
 ·simp only[V];exact⟨J,_,_,_,rfl⟩
theorem xZ(m:Mem Bw w0 ρ φ h w)(hn:ρ new=none){o:Oper}{a:Act}{t e:TypeId}{ti O:TI}(ht:aO P t ti)(hk:ti.k = .sl e)(C:aO P e O){A:Ty}(hT:O.T=some A)(h0:0<A.size)
  {lo co:Operand} (ho:o.op = .makeSlice t lo co) {β X:Bool} {kl kc:IntKind} {l c:Int} (hl:V (Fr (own φ h) Bw w) ρ (.p β (.int kl) l) (a.eval lo)) (hc:V (Fr (own φ h) Bw w) ρ (.p X (.int kc) c) (a.eval co))
  (h1:0≤l) (h2:l≤c) (h3:(O.bytes:Int)*c≤281474976710656) (h4:c≤9223372036854775807) :
  Good P o a w (aG Bw w0 ρ φ h w new (.sl new) [(new,some (.arr e A (List.replicate l.toNat A.zero)))]):=by
 obtain⟨i,z,hi,hz,f,q,Y,Z,a6⟩:=C.hi;obtain⟨B,a7,a1⟩:=C.hT A hT;have hu:=aX ht hk;have D:=run_make (P:=P) w t e i z hu hi hz kl kc l c h1 h2 (by rw[q];exact h3) h4;refine Good.aH (v:=_) (w':=_) (by simp only[execOp,ho,bR hl,bR hc,Sem.run_bind,D,Result.andThen_ok];rfl) ?_;have hm:(madeCells z.cells (c.toNat*i.size)).size=c.toNat*i.size:=size_madeCells _ _;have E:l.toNat≤c.toNat:=by omega
 have a5:l.toNat*A.size≤c.toNat*i.size:=by rw[f,←B];exact Nat.mul_le_mul_right _ E
 refine cV m none new (.arr e A (List.replicate l.toNat A.zero)) (.slice (some ⟨w.heap.size,0,none⟩) l.toNat c.toNat) none (World.grownBy_alloc w _ none) (fun k e=>by cases e) (.inl hn) (fun _ k hk=>?_) (fun F' I hF a2=>?_) (by rw[bp];rfl) (fun _=>rfl) (fun F' I hF a2 J=>?_)
 ·simp_all [dH]
 ·refine⟨fun _ h=>h,h0,(madeCells z.cells (c.toNat*i.size)).toList.take (l.toNat*A.size),⟨?_,.inr ⟨w.heap.size,c.toNat,madeCells z.cells (c.toNat*i.size),?_,Nat.zero_le _,heap_alloc_new w _,?_,?_,?_,?_⟩⟩,fun j hj=>?_⟩
  ·simp_all
  ·simp
  ·simpa using E
  ·unfold maxLen;omega
  ·rw[hm,f,←B]
  ·simp
  ·simp only[List.length_replicate]at hj;simp only[List.getElem_replicate];have a3:ai (F' false) A A.zero (fun k u=>z.cells.toList[k]? = some u):=by have:=gU (F:=F') (ρ:=I) z.cells.toList;rw[Y]at this;exact(cZ a1 this).1
   refine ai.gV (fun k v hk N=>?_) a3;have a8:j*A.size+A.size≤l.toNat*A.size:=by rw[←Nat.succ_mul];exact Nat.mul_le_mul_right _ hj
   have L:z.cells.size=A.size:=by rw[Z,←B]
   rw[List.getElem?_take,if_pos (by omega)];have a4:j*A.size+k<c.toNat*i.size:=by omega
   have e1:(madeCells z.cells (c.toNat*i.size)).toList[j*A.size+k]? = some (z.cells[(j*A.size+k) % z.cells.size]!):=by simp[madeCells,a4]
   rw[e1,L,Nat.mul_comm,Nat.mul_add_mod,Nat.mod_eq_of_lt hk];have M:k<z.cells.size:=by omega
   simp only[Array.getElem?_toList]at N;rw[Array.getElem?_eq_getElem M]at N;simp only[Option.some.injEq]at N;simp[M,N]
 ·simp only[V];exact⟨J,_,_,_,rfl⟩
theorem AA(m:Mem Bw w0 ρ φ h w)(hn:ρ new=none){o:Oper}{a:Act}{t e N:TypeId}{ti E:TI}(ht:aO P t ti)(hk:ti.k = .sl e)(I:aO P e E){A:Ty}(hT:E.T=some (.slice A))(hz:E.z=[.nils])(h0:0<A.size)
  {lo co:Operand} (ho:o.op = .makeSlice t lo co) {β X:Bool} {kl kc:IntKind} {l c:Int} (hl:V (Fr (own φ h) Bw w) ρ (.p β (.int kl) l) (a.eval lo)) (hc:V (Fr (own φ h) Bw w) ρ (.p X (.int kc) c) (a.eval co))
  (h1:0≤l) (h2:l≤c) (h3:(E.bytes:Int)*c≤281474976710656) (h4:c≤9223372036854775807) :
  Good P o a w (aG Bw w0 ρ φ h w new (.sl new) [(new,some (.mat e N A (List.replicate l.toNat []) none))]):=by
 obtain⟨i,z,hi,Y,C,f,Z,a1,a9⟩:=I.hi;obtain⟨a2,aa,ac⟩:=I.hT _ hT;have B:E.size=1:=by rw[←a2];rfl
 have hu:=aX ht hk;have J:=run_make (P:=P) w t e i z hu hi Y kl kc l c h1 h2 (by rw[f];exact h3) h4;refine Good.aH (v:=_) (w':=_) (by simp only[execOp,ho,bR hl,bR hc,Sem.run_bind,J,Result.andThen_ok];rfl) ?_;have hm:(madeCells z.cells (c.toNat*i.size)).size=c.toNat*i.size:=size_madeCells _ _;have a3:l.toNat≤c.toNat:=by omega
 have L:i.size=1:=by rw[C,B]
 have a4:z.cells.size=1:=by rw[a1,B]
 have a5:z.cells[0]! = .slice none 0 0:=by have:=gU (F:=fun _ _ _=>True) (ρ:=fun _=>none) z.cells.toList;rw[Z,hz]at this;simp only[VL,V]at this;obtain⟨⟨u,O,q2⟩,_⟩:=this;simp only[Array.getElem?_toList]at O;rw[q2]at O;rw[getElem!_pos z.cells 0 (by omega)];rw[Array.getElem?_eq_getElem (by omega)]at O;exact Option.some.inj O
 have D:∀j,j<l.toNat→((madeCells z.cells (c.toNat*i.size)).toList.take (l.toNat*1))[j]? = some (.slice none 0 0):=fun j hj=>by
  rw[List.getElem?_take,if_pos (by omega)];have a6:j<c.toNat*i.size:=by rw[L];omega
  have e1:(madeCells z.cells (c.toNat*i.size)).toList[j]? = some (z.cells[j % z.cells.size]!):=by simp[madeCells,a6]
  rw[e1,a4,Nat.mod_one,a5]
 refine cV m none new (.mat e N A (List.replicate l.toNat []) none) (.slice (some ⟨w.heap.size,0,none⟩) l.toNat c.toNat) none (World.grownBy_alloc w _ none) (fun k e=>by cases e) (.inl hn) (fun _ k hk=>?_) (fun F' a7 hF a8=>?_) (by rw[bp];rfl) (fun _=>rfl) (fun F' a7 hF a8 M=>?_)
 ·simp_all [dH]
 ·refine⟨fun _ h=>h,h0,fun _ _ e=>(by cases e),(madeCells z.cells (c.toNat*i.size)).toList.take (l.toNat*1),⟨?_,.inr ⟨w.heap.size,c.toNat,madeCells z.cells (c.toNat*i.size),?_,Nat.zero_le _,heap_alloc_new w _,?_,?_,?_,?_⟩⟩,fun j hj=>?_,fun r r' vr ad b _ _ _ e1 N b1=>?_⟩
  ·simp_all
  ·simp
  ·simpa using a3
  ·unfold maxLen;omega
  ·rw[hm,L]
  ·simp
  ·simp only[List.length_replicate]at hj;refine⟨_,D j hj,⟨_,_,_,rfl⟩,fun _=>⟨fun k hk=>by simp[dH]at hk,[],?_,fun q hq=>?_⟩,fun id e=>by cases e⟩
   ·simp only[List.getElem_replicate,List.length_nil];exact World.ownsRow_nil _ 0 N A.size
   ·simp at hq
  ·grind (splits:=6) (ematch:=4) [List.length_take,dH]
 ·simp only[V];exact⟨M,_,_,_,rfl⟩
end
section
variable{P:Program}{Bw:Nat→Prop}{w0:cE P}{ρ:Nat→QW}{φ:Nat→Nat→Prop}{h:Nat→Qz}{w:World}{new:Nat}
theorem CC{α β:Type}(f:α→Sem β)(g:α→β)(w:World):∀(l:List α),(∀x∈l,(f x).run P w = .ok (g x) w)→(l.mapM f).run P w = .ok (l.map g) w
 | [],_=>rfl
 | x::l,h=>by
  simp_all [List.mapM_cons,CC]
def parts(tb:bQ)(fs:List (Nat×TypeId)):List (Nat×ag)→List ag→Option (List ag)
 | [],j=>some j
 | (i,x)::r,j=>match fs[i]? with
  | some (off,q)=>match tb.find q with
   | some f=>if(cellsOf x).length=f.size∧(cellsOf x).all ag.cell∧off+f.size≤j.length then parts tb fs r (wr j off (cellsOf x))else none
   | none=>none
  | none=>none
theorem qf{tb:bQ}(B:bY P tb){F:Bool→Addr→Value→Prop}{fs:List (Nat×TypeId)}{pl:Nat→Option (Nat×Nat)}
  (C:∀i off I,fs[i]? = some (off,I)→∃L,P.info? I=some L∧pl i=some (off,L.size)) :
  ∀ {ps:List (Nat×ag)} {vs:QY} {e D:List ag} {us:QU},parts tb fs ps e=some D→jf F ρ (ps.map (·.2)) vs→us.size=e.length→VL F ρ e (fun k u=>us[k]? = some u) →
   ∃f,Instr.fill pl us ((ps.map (·.1)).zip vs)=some f∧f.size=D.length∧VL F ρ D (fun k u=>f[k]? = some u)
 | [],vs,e,D,us,h,J,E,hl=>by
  simp only[parts,Option.some.injEq]at h;subst h;cases vs with
  | nil=>exact⟨us,rfl,E,hl⟩
  | cons _ _=>exact J.elim
 | (i,x)::r,vs,e,D,us,h,J,E,hl=>by
  simp only[parts]at h;split at h
  ·rename_i off I M;split at h
   ·rename_i N O;split at h
    ·rename_i j;obtain⟨V,c2,Z⟩:=j;cases vs with
     | nil=>exact J.elim
     | cons v vs =>
      obtain⟨q1,q2⟩:=J;obtain⟨r1,r2,r3⟩:=gv c2 q1;obtain⟨L,X,hp⟩:=C i off I M;obtain⟨i2,z,e1,_,e3,_⟩:=(B.find O).hi;rw[X]at e1;cases e1;have q:v.cells.size=N.size:=by rw[←Array.length_toList,r2,V]
      have M:=uP off v us (by rw[q,E];exact Z);have A:(v.cells.zipIdx.foldl (fun(e:QU) (p:Value×Nat)=>e.setIfInBounds (off+p.2) p.1) us).size=(wr e off (cellsOf x)).length:=by
       grind (splits:=6) (ematch:=4) [Array.length_toList,Ha,List.length_append,List.length_take,List.length_drop]
      have Y:VL F ρ (wr e off (cellsOf x)) (fun k u=>(v.cells.zipIdx.foldl (fun(e:QU) (p:Value×Nat)=>e.setIfInBounds (off+p.2) p.1) us)[k]? = some u):=by have:=F2 (p:=off) (us:=us.toList) (by rw[V];exact Z) (by simpa using E) r2 (VL.mono (fun _ _ _ h=>h) (fun _ _ h=>h) (fun k u hk=>by simpa using hk) hl) r1;refine VL.mono (fun _ _ _ h=>h) (fun _ _ h=>h) (fun k u hk=>?_) this;rw[←Array.getElem?_toList,M,q,←V];exact hk
      obtain⟨f,t1,t2,t3⟩:=qf B C h q2 A Y;refine⟨f,?_,t2,t3⟩;simp only[List.map_cons,List.zip_cons_cons,Instr.fill,hp];rw[if_neg (by simp[q,e3,E];omega)];exact t1
    ·cases h
   ·cases h
  ·cases h
theorem xJ(m:Mem Bw w0 ρ φ h w){tb:bQ}(M:bY P tb){o:Oper}{a:Act}{t:TypeId}{ti:TI}(ht:aO P t ti){fs:List (Nat×TypeId)}(hk:ti.k = .st fs)
  {ps:Array (Nat×Operand)} (ho:o.op = .build t ps) {xs:List ag} (X:jf (Fr (own φ h) Bw w) ρ xs (ps.toList.map fun p=>a.eval p.2)) {Y:List ag}
  (hd:parts tb fs ((ps.toList.map (·.1)).zip xs) ti.z=some Y):Good P o a w (aG Bw w0 ρ φ h w new (.agg Y) []):=by
 obtain⟨z,hz,u,a1,a2⟩:=dF ht w;obtain⟨d,h1,Z⟩:=ht.hu;rw[hk]at Z;obtain⟨I,rfl,h3,h4⟩:=Z;have j:xs.length=ps.toList.length:=by
  have key:∀(xs:List ag) (vs:QY),jf (Fr (own φ h) Bw w) ρ xs vs→xs.length=vs.length:=fun xs=>by
   induction xs with
   | nil=>intro vs J;cases vs with | nil=>rfl | cons _ _=>exact J.elim
   | cons x xs ih=>intro vs J;cases vs with | nil=>exact J.elim | cons v vs=>simp[ih vs J.2]
  rw[key _ _ X,List.length_map]
 have N:∀f∈I.toList,(do pure (f.offset,←sizeOf f.type):Sem (Nat×Nat)).run P w = .ok (f.offset,((P.info? f.type).map (·.size)).getD 0) w:=fun f e=>by obtain⟨i,hi,_⟩:=h4 f e;simp[sizeOf,typeInfo,hi]
 have B:=CC (P:=P) (fun f:Field=>do pure (f.offset,←sizeOf f.type)) (fun f=>(f.offset,((P.info? f.type).map (·.size)).getD 0)) w I.toList N;have q:=qf (ρ:=ρ) M (F:=Fr (own φ h) Bw w) (fs:=fs) (pl:=fun i=>(I.toList.map (fun f=>(f.offset,((P.info? f.type).map (·.size)).getD 0))).toArray[i]?) (fun i off ft e=>by
  rw[←h3,List.getElem?_map]at e;cases L:I.toList[i]? with
  | none=>rw[L]at e;cases e
  | some fd =>
   rw[L]at e;simp only[Option.map_some,Option.some.injEq,Prod.mk.injEq]at e;obtain⟨i',C,_⟩:=h4 fd (List.mem_of_getElem? L);refine⟨i',by rw[←e.2];exact C,?_⟩;simp only[List.getElem?_toArray,List.getElem?_map,L,Option.map_some,C,Option.getD_some,e.1]) (ps:=(ps.toList.map (·.1)).zip xs) (vs:=ps.toList.map fun p=>a.eval p.2) (us:=z.cells) hd
  (by rw[List.map_snd_zip (by simp[j])];exact X) (by rw[←u];simp) (by rw[←u];have:=gU (F:=Fr (own φ h) Bw w) (ρ:=ρ) z.cells.toList;simpa using this)
 obtain⟨D,O,q2,q3⟩:=q;rw[List.map_fst_zip (by simp[j])]at O;have E:(ps.toList.map (·.1)).zip (ps.toList.map fun p=>a.eval p.2)=(ps.map fun p=>(p.1,a.eval p.2)).toList:=by simp[List.zip_map']
 rw[E]at O;refine Good.aH (v:= .agg D) (w':=w) ?_ (aG.pure m ?_)
 ·simp only[execOp,ho,Instr.build,Sem.run_bind,hz,Result.andThen_ok,run_underlying h1,Array.mapM_eq_mapM_toList,Sem.run_map,B,O];rfl
 ·simp only[V];exact⟨D,rfl,q2,q3⟩
theorem uO(m:Mem Bw w0 ρ φ h w){tb:bQ}(M:bY P tb){o:Oper}{a:Act}{t e:TypeId}{ti C:TI}{n:Nat}(ht:aO P t ti)(hk:ti.k = .ar n e)(N:aO P e C)
  {ps:Array (Nat×Operand)} (ho:o.op = .build t ps) {xs:List ag} (Z:jf (Fr (own φ h) Bw w) ρ xs (ps.toList.map fun p=>a.eval p.2)) {ds:List ag}
  (hd:parts tb ((List.range n).map fun i=>(i*C.size,e)) ((ps.toList.map (·.1)).zip xs) ti.z=some ds):Good P o a w (aG Bw w0 ρ φ h w new (.agg ds) []):=by
 obtain⟨z,hz,D,a1,a2⟩:=dF ht w;obtain⟨d,h1,O⟩:=ht.hu;rw[hk]at O;simp only[UK]at O;subst O;obtain⟨i,_,hi,_,f,_⟩:=N.hi;have q:xs.length=ps.toList.length:=by
  have key:∀(xs:List ag) (vs:QY),jf (Fr (own φ h) Bw w) ρ xs vs→xs.length=vs.length:=fun xs=>by
   induction xs with
   | nil=>intro vs L;cases vs with | nil=>rfl | cons _ _=>exact L.elim
   | cons x xs ih=>intro vs L;cases vs with | nil=>exact L.elim | cons v vs=>simp[ih vs L.2]
  rw[key _ _ Z,List.length_map]
 have hs:(sizeOf e).run P w = .ok C.size w:=by simp[sizeOf,typeInfo,hi,f]
 have u:=qf (ρ:=ρ) M (F:=Fr (own φ h) Bw w) (fs:=(List.range n).map fun i=>(i*C.size,e)) (pl:=fun i=>some (i*C.size,C.size)) (fun j off ft B=>by
  rw[List.getElem?_map]at B;cases X:(List.range n)[j]? with
  | none=>rw[X]at B;cases B
  | some k =>
   rw[X]at B;simp only[Option.map_some,Option.some.injEq,Prod.mk.injEq]at B;obtain⟨a3,E⟩:=List.getElem?_eq_some_iff.1 X;simp at E;refine⟨i,by rw[←B.2];exact hi,?_⟩;rw[←B.1,←E,f]) (ps:=(ps.toList.map (·.1)).zip xs) (vs:=ps.toList.map fun p=>a.eval p.2) (us:=z.cells) hd
  (by rw[List.map_snd_zip (by simp[q])];exact Z) (by rw[←D];simp) (by rw[←D];have:=gU (F:=Fr (own φ h) Bw w) (ρ:=ρ) z.cells.toList;simpa using this)
 obtain⟨I,Y,q2,q3⟩:=u;rw[List.map_fst_zip (by simp[q])]at Y;have J:(ps.toList.map (·.1)).zip (ps.toList.map fun p=>a.eval p.2)=(ps.map fun p=>(p.1,a.eval p.2)).toList:=by simp[List.zip_map']
 rw[J]at Y;refine Good.aH (v:= .agg I) (w':=w) ?_ (aG.pure m ?_)
 ·simp only[execOp,ho,Instr.build,Sem.run_bind,hz,Result.andThen_ok,run_underlying h1,hs,Y];rfl
 ·simp only[V];exact⟨I,rfl,q2,q3⟩
def lenOf(h:Nat→Qz):ag→Option Int
 | .p _ (.slice _) e=>some e.length
 | .p _ .str s=>some s.length
 | .nils=>some 0
 | .sl id=>match h id with
  | some (.arr _ _ e)=>some e.length
  | some (.fz _ e)=>some e.length
  | some (.mat _ _ _ f _)=>some f.length
  | some (.bytes _ e)=>some e.length
  | _=>none
 | _=>none
theorem DR(m:Mem Bw w0 ρ φ h w){o:Oper}{a:Act}{t:TypeId}{ti:TI}(ht:aO P t ti)(hk:(∃e,ti.k = .sl e)∨ti.k = .str){I:Operand}{x:ag}(J:V (Fr (own φ h) Bw w) ρ x (a.eval I))
  (O:o.op = .call { callee:= .builtin .len,args:= #[I],argTypes:= #[t] }) {n:Int} (hl:lenOf h x=some n) (X:ti.k = .str↔∃β s,x = .p β .str s):Good P o a w (aG Bw w0 ρ φ h w new (.p false (.int .i64) n) []):=by
 obtain⟨d,Y,z⟩:=ht.hu;have key:∀D len cap,a.eval I = .slice D len cap→(len:Int)=n→ti.k ≠ .str→Good P o a w (aG Bw w0 ρ φ h w new (.p false (.int .i64) n) []):=fun D len cap Z hn f=>by
  rcases hk with⟨e,hk⟩ | hk
  ·rw[hk]at z;simp only[UK]at z;subst z;refine Good.aH (v:= .int .i64 n) (w':=w) ?_ (aG.pure m (dM _ _ _));simp only[execOp,O,resolve,invoke,builtin,Sem.run_bind,Sem.run_pure,Result.andThen_ok,List.map_toArray,List.map_cons,List.map_nil,Z];simp[Builtin.len_,run_underlying Y,goInt,hn]
  ·exact absurd hk f
 unfold lenOf at hl;split at hl
 ·grind (splits:=6) (ematch:=4) [V,ai]
 ·rename_i s;cases hl;have B:=X.2 ⟨_,_,rfl⟩;rw[B]at z;simp only[UK]at z;subst z;refine Good.aH (v:= .int .i64 s.length) (w':=w) ?_ (aG.pure m (dM _ _ _));simp only[execOp,O,resolve,invoke,builtin,Sem.run_bind,Sem.run_pure,Result.andThen_ok,List.map_toArray,List.map_cons,List.map_nil,pQ J];have L:(⟨s.toArray⟩:ByteArray).size=s.length:=rfl;simp[Builtin.len_,run_underlying Y,goInt,L]
 ·simp_all [V]
 ·rename_i id;simp only[V]at J;obtain⟨q,aa,nn,cc,Z⟩:=J;have f:ti.k ≠ .str:=fun e=>by obtain⟨_,_,e⟩:=X.1 e;cases e
  split at hl
  ·rename_i te A xs hi;cases hl;obtain⟨u,j,M,_,cells,N,_⟩:=m.ob id _ hi;rw[q]at j;cases j;rcases N.2 with⟨e,hn⟩ | ⟨g,cap,C,e,_⟩
   ·exact key none 0 0 e (by rw[hn]) f
   ·exact key _ _ _ e rfl f
  ·rename_i A xs hi;cases hl;obtain⟨u,j,E⟩:=m.ob id _ hi;rw[q]at j;cases j;simp only[OR,V,ai]at E;obtain⟨_,D,len,cap,e,⟨hl,_⟩,_⟩:=E;exact key D len cap e.symm (by rw[hl]) f
  ·rename_i te e2 A a1 a2 hi;cases hl;obtain⟨u,j,M,_,_,cells,N,_⟩:=m.ob id _ hi;rw[q]at j;cases j;rcases N.2 with⟨e,hn⟩ | ⟨g,cap,C,e,_⟩
   ·exact key none 0 0 e (by rw[hn]) f
   ·exact key _ _ _ e rfl f
  ·rename_i te xs hi;cases hl;obtain⟨u,j,E⟩:=m.ob id _ hi;rw[q]at j;cases j;rcases E with⟨e,hn⟩ | ⟨g,cap,C,mk,e,_⟩
   ·exact key none 0 0 e (by rw[hn];rfl) f
   ·exact key _ _ _ e rfl f
  ·cases hl
 ·cases hl
theorem Bn(m:Mem Bw w0 ρ φ h w){o:Oper}{a:Act}{f:Operand}{j:List ag}(q:V (Fr (own φ h) Bw w) ρ (.tup j) (a.eval f)){i:Nat}(z:o.op = .extract f i){y:ag}(B:j[i]? = some y):
  Good P o a w (aG Bw w0 ρ φ h w new y []):=by
 simp only[V]at q;obtain⟨E,e,_,hl⟩:=q;obtain⟨u,C,D⟩:=VL.get hl B;refine Good.aH (v:=u) (w':=w) ?_ (aG.pure m D);simp[execOp,z,e,Instr.extract,C]
theorem zc(m:Mem Bw w0 ρ φ h w){o:Oper}{a:Act}{f:FuncId}{e:Array Operand}(C:o.op = .makeFunc (.func f) #[] e){xs:List ag}(D:jf (Fr (own φ h) Bw w) ρ xs (e.toList.map a.eval)):
  Good P o a w (aG Bw w0 ρ φ h w new (.fn f xs) []):=by
 refine Good.aH (v:= .func (.func f) #[] (e.map a.eval)) (w':=w) (by simp[execOp,C,Instr.makeFunc]) (aG.pure m ?_);simp only[V];have key:∀(xs:List ag) (j:QY),jf (Fr (own φ h) Bw w) ρ xs j→j.length=xs.length∧VL (Fr (own φ h) Bw w) ρ xs (fun k u=>j[k]? = some u):=fun xs=>by
  induction xs with
  | nil=>intro j q;cases j with | nil=>exact⟨rfl,by simp only[VL]⟩ | cons _ _=>exact q.elim
  | cons x xs E =>
   intro j q;cases j with
   | nil=>exact q.elim
   | cons v j =>obtain⟨z,B⟩:=E j q.2;simp only[VL];exact⟨by simp[z],⟨v,rfl,q.1⟩,VL.mono (fun _ _ _ h=>h) (fun _ _ h=>h) (fun k u hk=>by simpa using hk) B⟩
 obtain⟨z,B⟩:=key _ _ D;exact⟨_,rfl,by simpa using z,VL.mono (fun _ _ _ h=>h) (fun _ _ h=>h) (fun k u hk=>by simpa using hk) B⟩
theorem yu(m:Mem Bw w0 ρ φ h w){o:Oper}{a:Act}{t:TypeId}{ti:TI}(ht:aO P t ti)(hk:ti.k = .str){u io:Operand}{β j:Bool}{s:QX}(z:V (Fr (own φ h) Bw w) ρ (.p β .str s) (a.eval u))
  {k:IntKind} {i:Int} (hi:V (Fr (own φ h) Bw w) ρ (.p j (.int k) i) (a.eval io)) (B:o.op = .index t u io) (C:0≤i) (E:i<s.length):Good P o a w (aG Bw w0 ρ φ h w new (.p false (.int .u8) ((s.getD i.toNat 0).toNat:Int)) []):=by
 obtain⟨d,D,q⟩:=ht.hu;rw[hk]at q;simp only[UK]at q;subst q;have f:i.toNat<s.length:=by omega
 refine Good.aH (v:= .int .u8 (s.getD i.toNat 0).toNat) (w':=w) ?_ (aG.pure m (dM _ _ _));have e:(⟨s.toArray⟩:ByteArray)[i.toNat]? = some s[i.toNat]:=by rw[getElem?_pos _ _ (by simpa [ByteArray.size]using f)];simp[ByteArray.getElem_eq_getElem_data]
 simp[execOp,B,Instr.index,asIntOf,bR hi,pQ z,run_underlying D,C,e,f]
theorem zN(m:Mem Bw w0 ρ φ h w){o:Oper}{a:Act}{e:Operand}{x:ag}(j:V (Fr (own φ h) Bw w) ρ x (a.eval e))(f:o.op = .move e∨o.op = .assign e):Good P o a w (aG Bw w0 ρ φ h w new x []):=by
 rcases f with f | f <;> exact Good.aH (v:=a.eval e) (w':=w) (by simp[execOp,f]) (aG.pure m j)
theorem ue(m:Mem Bw w0 ρ φ h w){o:Oper}{a:Act}{co e f:Operand}{β b:Bool}{x:ag}(j:V (Fr (own φ h) Bw w) ρ (.p β .bool b) (a.eval co))(q:V (Fr (own φ h) Bw w) ρ x (a.eval (if b then e else f)))
  (u:o.op = .pick co e f):Good P o a w (aG Bw w0 ρ φ h w new x []):=by
 refine Good.aH (v:=a.eval (if b then e else f)) (w':=w) ?_ (aG.pure m q);cases b <;> simp[execOp,u,kL j,asBool]
end
end Go.Tv
