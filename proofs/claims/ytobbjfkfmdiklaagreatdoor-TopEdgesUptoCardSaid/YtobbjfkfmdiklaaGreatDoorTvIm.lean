import Derived.Test.YtobbjfkfmdiklaaGreatDoorTvH
import Derived.Laws.CopyRow
namespace Go.Tv
open Go Go.RowKit
theorem yk(off:Nat):∀(l:QY) (k:Nat) (j:QU),off+k+l.length≤j.size →
  ((l.zipIdx k).foldl (fun(j:QU) (p:Value×Nat)=>j.setIfInBounds (off+p.2) p.1) j).toList=j.toList.take (off+k)++l++j.toList.drop (off+k+l.length)
 | [],k,j,_=>by simp
 | v::l,k,j,h=>by
  simp only[List.zipIdx_cons,List.foldl_cons];simp only[List.length_cons]at h;rw[yk off l (k+1) _ (by simp;omega)];have:=list_seg_step j.toList (off+k) v l (by simp;omega);simpa [Array.toList_setIfInBounds,Nat.add_assoc,Nat.add_comm 1]using this
theorem uq(off:Nat)(v:Value)(j:QU)(h:off+v.cells.size≤j.size):
  (v.cells.zipIdx.foldl (fun(j:QU) (p:Value×Nat)=>j.setIfInBounds (off+p.2) p.1) j).toList=j.toList.take off++v.cells.toList++j.toList.drop (off+v.cells.size):=by
 rw[←Array.foldl_toList,Array.toList_zipIdx];have:=yk off v.cells.toList 0 j (by simpa using h);simpa using this
theorem Cl(size:Nat):∀(q:QY) (k:Nat) (j:QU),(∀v∈q,v.cells.size=size)→(k+q.length)*size=j.size →
  ∃r,Instr.fill (fun i=>some (i*size,size)) j ((q.zipIdx k).map fun p=>(p.2,p.1))=some r∧r.toList=j.toList.take (k*size)++q.flatMap (fun v=>v.cells.toList)
 | [],k,j,_,h=>⟨j,by simp[Instr.fill],by simp at h;rw[h,List.take_of_length_le (by simp)];simp⟩
 | v::q,k,j,z,h=>by
  have h1:=z v (by simp);have x:k*size+size≤j.size:=by rw[←h,List.length_cons,←Nat.succ_mul];exact Nat.mul_le_mul_right _ (by omega)
  have hf:=uq (k*size) v j (by rw[h1];exact x);obtain⟨r,A,B⟩:=Cl size q (k+1) (v.cells.zipIdx.foldl (fun(j:QU) (p:Value×Nat)=>j.setIfInBounds (k*size+p.2) p.1) j) (fun u hu=>z u (by simp[hu])) (by
   have:(v.cells.zipIdx.foldl (fun(j:QU) (p:Value×Nat)=>j.setIfInBounds (k*size+p.2) p.1) j).size=j.size:=by rw[←Array.length_toList,hf];simp only[List.length_append,List.length_take,List.length_drop,Array.length_toList,h1];omega
   rw[this,←h,List.length_cons];congr 1;omega)
  refine⟨r,?_,?_⟩
  ·simp only[List.zipIdx_cons,List.map_cons,Instr.fill];rw[if_neg (by simp[h1];omega)];exact A
  ·rw[B,hf,List.flatMap_cons];have C:(j.toList.take (k*size)).length=k*size:=by simp only[List.length_take,Array.length_toList];omega
   rw[List.take_left' (by rw[List.length_append,C,Array.length_toList,h1,Nat.succ_mul]),List.append_assoc]
def iS(F:Bool→Addr→Value→Prop)(ρ:Nat→QW):List ag→QY→Prop
 | [],[]=>True
 | x::xs,v::vs=>V F ρ x v∧iS F ρ xs vs
 | _,_=>False
theorem iS.mono{F F':Bool→Addr→Value→Prop}{ρ ρ':Nat→QW}(z:∀β a v,F β a v→F' β a v)(j:∀i u,ρ i=some u→ρ' i=some u):∀ {xs:List ag} {vs:QY},iS F ρ xs vs→iS F' ρ' xs vs
 | [],[],_=>trivial
 | _::_,_::_,h=>⟨V.mono z j h.1,iS.mono z j h.2⟩
 | [],_::_,h=>h
 | _::_,[],h=>h
theorem jw{F:Bool→Addr→Value→Prop}{ρ:Nat→QW}{n:NS}{a:Act}{s:Nat→ag}(h:fb n F ρ s a):∀(xs:List Operand),iS F ρ (xs.map (ev s)) (xs.map a.eval)
 | []=>trivial
 | x::xs=>⟨aU h x,jw h xs⟩
def BC(A:Ty)(h:Nat→Qz):List ag→Option (List A.den×gX)
 | []=>some ([],[])
 | x::xs=>match Gm A h x with
  | some (y,u)=>match BC A (apply u h) xs with
   | some (j,p)=>some (y::j,u++p)
   | none=>none
  | none=>none
section
variable{P:Program}{Bw:Nat→Prop}{w0:cC P}{ρ:Nat→QW}{φ:Nat→Nat→Prop}{h:Nat→Qz}{w:World}{new:Nat}
theorem vo{A:Ty}:∀ {p:List ag} {h:Nat→Qz} {q:List A.den} {z:gX},Mem Bw w0 ρ φ h w→BC A h p=some (q,z)→(∀x∈p,(cellsOf x).all ag.cell=true) →
  Mem Bw w0 ρ φ (apply z h) w∧(∀β a v,Fr (own φ h) Bw w β a v→Fr (own φ (apply z h)) Bw w β a v)∧q.length=p.length ∧
  ∀vs,iS (Fr (own φ h) Bw w) ρ p vs→vs.length=p.length∧(∀v∈vs,v.cells.size=A.size∧∀c∈v.cells.toList,c.oneCell'=true) ∧
   ∀i (hi:i<q.length),ai (Fr (own φ (apply z h)) Bw w false) A q[i] (fun k u=>(vs.flatMap fun v=>v.cells.toList)[i*A.size+k]? = some u)
 | [],h,q,z,m,hd,_=>by
  cases hd;refine⟨m,fun _ _ _ h=>h,rfl,fun vs B=>?_⟩;cases vs with
  | nil=>exact⟨rfl,fun v B=>by simp at B,fun i hi=>absurd hi (by simp)⟩
  | cons _ _=>exact B.elim
 | x::p,h,q,z,m,hd,hc=>by
  simp only[BC]at hd;split at hd
  ·rename_i y u h1;split at hd
   ·rename_i E I h2;cases hd;obtain⟨J,C,L⟩:=m5 m h1;obtain⟨M,D,N,g2⟩:=vo J h2 (fun x O=>hc x (by simp[O]));rw[eV];refine⟨M,fun β a v V=>D _ _ _ (C _ _ _ V),by simp[N],fun vs B=>?_⟩;cases vs with
    | nil=>exact B.elim
    | cons v vs =>
     obtain⟨X,Y⟩:=B;obtain⟨Z,r2,r3⟩:=fV (hc x (by simp)) X;obtain⟨s1,s2⟩:=L _ Z;obtain⟨t1,t2,t3⟩:=g2 vs (iS.mono C (fun _ _ h=>h) Y);have j:v.cells.size=A.size:=by rw[s2,←r2,Array.length_toList]
     refine⟨by simp[t1],fun u hu=>?_,fun i hi=>?_⟩
     ·rcases List.mem_cons.1 hu with rfl | hu
      ·exact⟨j,r3⟩
      ·exact t2 u hu
     ·rw[List.flatMap_cons];cases i with
      | zero=>exact ai.mono (D _) (fun k u hk=>by rw[Nat.zero_mul,Nat.zero_add,List.getElem?_append_left (List.getElem?_eq_some_iff.1 hk).1];exact hk) s1
      | succ i =>
       refine ai.mono (fun _ _ h=>h) (fun k u hk=>?_) (t3 i (by simpa using hi));rw[List.getElem?_append_right (by rw[Array.length_toList,j,Nat.succ_mul];omega),Array.length_toList,j,←hk];congr 1;rw[Nat.succ_mul];omega
   ·cases hd
  ·cases hd
theorem oL{A:Ty}:∀ {vs:QY},(∀v∈vs,v.cells.size=A.size)→(vs.flatMap fun v=>v.cells.toList).length=vs.length*A.size
 | [],_=>by simp
 | v::vs,h=>by
  rw[List.flatMap_cons,List.length_append,oL (fun u hu=>h u (by simp[hu])),Array.length_toList,h v (by simp),List.length_cons,Nat.succ_mul,Nat.add_comm]
theorem oJ{t e:TypeId}{ti q:TI}(ht:aN P t ti)(hk:ti.k = .sl e)(u:aN P e q){vs:QY}(D:∀v∈vs,v.cells.size=q.size)(E:vs.length*q.size≤16777216):
  (Instr.buildSlice t vs.length ((vs.zipIdx 0).map fun p=>(p.2,p.1)).toArray).run P w = .ok (.slice (some ⟨w.heap.size,0,none⟩) vs.length vs.length) (w.alloc (.cells (vs.flatMap fun v=>v.cells.toList).toArray e)):=by
 have hu:=aY ht hk;obtain⟨z,hz,_,I,_⟩:=dT u w;have j:∀B:QU,B.size=vs.length*q.size→Instr.fill (fun i=>some (i*q.size,q.size)) B ((vs.zipIdx 0).map fun p=>(p.2,p.1))=some (vs.flatMap fun v=>v.cells.toList).toArray:=fun B hc=>by obtain⟨r,J,L⟩:=Cl q.size vs 0 B D (by rw[hc,Nat.zero_add]);rw[J];congr 1;apply Array.ext';rw[L];simp
 have x:¬(vs.length*q.size > 2 ^ 24):=by omega
 by_cases C:vs.length*q.size=0
 ·have:=j #[] (by simp[C]);simp[Instr.buildSlice,run_underlying hu,run_sizeOf u,C,Array.range_zero',this,newRow]
 ·have:=j ((Array.range (vs.length*q.size)).map (z.cells[· % z.cells.size]!)) (by simp);simp[Instr.buildSlice,run_underlying hu,run_sizeOf u,x,C,hz,this,newRow]
theorem uO(m:Mem Bw w0 ρ φ h w)(hn:ρ new=none){o:Oper}{a:Act}{t e:TypeId}{ti M:TI}(ht:aN P t ti)(hk:ti.k = .sl e)(E:aN P e M){A:Ty}(hT:M.T=some A)(h0:0<A.size)
  {parts:Array (Nat×Operand)} {len:Nat} (ho:o.op = .buildSlice t len parts) (hp:parts.toList.map (·.1)=List.range len) {xs:List ag}
  (hx:iS (Fr (own φ h) Bw w) ρ xs (parts.toList.map fun p=>a.eval p.2)) (hc:∀x∈xs,(cellsOf x).all ag.cell=true) {N:List A.den} {us:gX} (hy:BC A h xs=some (N,us)) (O:len*M.size≤16777216) :
  Good P o a w (aF Bw w0 ρ φ h w new (.sl new) (us++[(new,some (.arr e A N))])):=by
 obtain⟨X,_,_⟩:=E.hT A hT;obtain⟨m',Y,hl,hg⟩:=vo m hy hc;obtain⟨g1,g2,g3⟩:=hg _ hx;have q:(parts.toList.map fun p=>a.eval p.2).length=len:=by have:=congrArg List.length hp;simpa using this
 have C:(parts.map fun p=>(p.1,a.eval p.2))=(((parts.toList.map fun p=>a.eval p.2).zipIdx 0).map fun p=>(p.2,p.1)).toArray:=by
  apply Array.ext';simp only[Array.toList_map];apply List.ext_getElem?;intro j;simp only[List.getElem?_map,List.getElem?_zipIdx,Option.map_map];have I:=congrArg (fun l=>l[j]?) hp;simp only[List.getElem?_map]at I;cases Z:parts.toList[j]? with
  | none=>simp[Z]
  | some p =>
   simp only[Z,Option.map_some]at I ⊢;have a1:j<len:=by have:=(List.getElem?_eq_some_iff.1 Z).1;have h2:=congrArg List.length hp;simp only[List.length_map,List.length_range]at h2;omega
   rw[List.getElem?_range a1]at I;simp only[Option.some.injEq]at I;simp[I]
 have D:=oJ (P:=P) (w:=w) ht hk E (vs:=parts.toList.map fun p=>a.eval p.2) (fun v hv=>by rw[(g2 v hv).1,X]) (by rw[q];exact O);rw[q,←C]at D;refine Good.aG (v:=_) (w':=_) (by simp only[execOp,ho,Sem.run_bind,D,Result.andThen_ok];rfl) ?_;refine aF.after rfl Y ?_;have z:N.length=len:=by rw[hl,←g1,q]
 have J:=oL (A:=A) (fun v hv=>(g2 v hv).1);rw[q]at J;have B:=World.ownsRow_lit (w:=w) (base:=0) (e:=e) (size:=A.size) ((parts.toList.map fun p=>a.eval p.2).flatMap fun v=>v.cells.toList).toArray len (Nat.zero_le _) (by unfold maxLen;have:len≤len*M.size:=Nat.le_mul_of_pos_right _ (by omega);omega) (by simpa using J);refine cT m' none new (.arr e A N) (.slice (some ⟨w.heap.size,0,none⟩) len len) none (World.grownBy_alloc w _ none) (fun k e=>by cases e) (.inl hn) (fun _ k hk=>?_) (fun F' a2 hF a3=>?_) (by rw[bn];rfl) (fun _=>rfl) (fun F' a2 hF a3 L=>?_)
 ·simp only[dw,Option.some.injEq]at hk;exact .inl (by omega)
 ·rw[←z]at B;simp only[OR];refine⟨fun _ h=>h,h0,_,by rw[z]at B ⊢;exact B,fun i hi=>ai.mono (hF _) (fun k u hk=>by simpa using hk) (g3 i hi)⟩
 ·simp only[V];exact⟨L,_,_,_,rfl⟩
theorem xj(m:Mem Bw w0 ρ φ h w)(hn:ρ new=none){o:Oper}{a:Act}{t e:TypeId}{ti O:TI}(ht:aN P t ti)(hk:ti.k = .sl e)(C:aN P e O){A:Ty}(hT:O.T=some A)(h0:0<A.size)
  {lo co:Operand} (ho:o.op = .makeSlice t lo co) {β X:Bool} {kl kc:IntKind} {l c:Int} (hl:V (Fr (own φ h) Bw w) ρ (.p β (.int kl) l) (a.eval lo)) (hc:V (Fr (own φ h) Bw w) ρ (.p X (.int kc) c) (a.eval co))
  (h1:0≤l) (h2:l≤c) (h3:(O.bytes:Int)*c≤281474976710656) (h4:c≤9223372036854775807) :
  Good P o a w (aF Bw w0 ρ φ h w new (.sl new) [(new,some (.arr e A (List.replicate l.toNat A.zero)))]):=by
 obtain⟨i,z,hi,hz,q,x,Y,Z,a6⟩:=C.hi;obtain⟨B,a7,a1⟩:=C.hT A hT;have hu:=aY ht hk;have D:=run_make (P:=P) w t e i z hu hi hz kl kc l c h1 h2 (by rw[x];exact h3) h4;refine Good.aG (v:=_) (w':=_) (by simp only[execOp,ho,bQ hl,bQ hc,Sem.run_bind,D,Result.andThen_ok];rfl) ?_;have hm:(madeCells z.cells (c.toNat*i.size)).size=c.toNat*i.size:=size_madeCells _ _;have E:l.toNat≤c.toNat:=by omega
 have a5:l.toNat*A.size≤c.toNat*i.size:=by rw[q,←B];exact Nat.mul_le_mul_right _ E
 refine cT m none new (.arr e A (List.replicate l.toNat A.zero)) (.slice (some ⟨w.heap.size,0,none⟩) l.toNat c.toNat) none (World.grownBy_alloc w _ none) (fun k e=>by cases e) (.inl hn) (fun _ k hk=>?_) (fun F' I hF a2=>?_) (by rw[bn];rfl) (fun _=>rfl) (fun F' I hF a2 J=>?_)
 ·simp only[dw,Option.some.injEq]at hk;exact .inl (by omega)
 ·refine⟨fun _ h=>h,h0,(madeCells z.cells (c.toNat*i.size)).toList.take (l.toNat*A.size),⟨?_,.inr ⟨w.heap.size,c.toNat,madeCells z.cells (c.toNat*i.size),?_,Nat.zero_le _,heap_alloc_new w _,?_,?_,?_,?_⟩⟩,fun j hj=>?_⟩
  ·simp only[List.length_take,Array.length_toList,hm,List.length_replicate];omega
  ·simp
  ·simpa using E
  ·unfold maxLen;omega
  ·rw[hm,q,←B]
  ·simp
  ·simp only[List.length_replicate]at hj;simp only[List.getElem_replicate];have a3:ai (F' false) A A.zero (fun k u=>z.cells.toList[k]? = some u):=by have:=gw (F:=F') (ρ:=I) z.cells.toList;rw[Y]at this;exact(cQ a1 this).1
   refine ai.gA (fun k v hk N=>?_) a3;have a8:j*A.size+A.size≤l.toNat*A.size:=by rw[←Nat.succ_mul];exact Nat.mul_le_mul_right _ hj
   have L:z.cells.size=A.size:=by rw[Z,←B]
   rw[List.getElem?_take,if_pos (by omega)];have a4:j*A.size+k<c.toNat*i.size:=by omega
   have e1:(madeCells z.cells (c.toNat*i.size)).toList[j*A.size+k]? = some (z.cells[(j*A.size+k) % z.cells.size]!):=by simp[madeCells,a4]
   rw[e1,L,Nat.mul_comm,Nat.mul_add_mod,Nat.mod_eq_of_lt hk];have M:k<z.cells.size:=by omega
   simp only[Array.getElem?_toList]at N;rw[Array.getElem?_eq_getElem M]at N;simp only[Option.some.injEq]at N;simp[M,N]
 ·simp only[V];exact⟨J,_,_,_,rfl⟩
theorem zd(m:Mem Bw w0 ρ φ h w)(hn:ρ new=none){o:Oper}{a:Act}{t e O:TypeId}{ti I:TI}(ht:aN P t ti)(hk:ti.k = .sl e)(J:aN P e I){A:Ty}(hT:I.T=some (.slice A))(hz:I.z=[.nils])(h0:0<A.size)
  {lo co:Operand} (ho:o.op = .makeSlice t lo co) {β Y:Bool} {kl kc:IntKind} {l c:Int} (hl:V (Fr (own φ h) Bw w) ρ (.p β (.int kl) l) (a.eval lo)) (hc:V (Fr (own φ h) Bw w) ρ (.p Y (.int kc) c) (a.eval co))
  (h1:0≤l) (h2:l≤c) (h3:(I.bytes:Int)*c≤281474976710656) (h4:c≤9223372036854775807) :
  Good P o a w (aF Bw w0 ρ φ h w new (.sl new) [(new,some (.mat e O A (List.replicate l.toNat []) none))]):=by
 obtain⟨i,z,hi,Z,D,B,a1,a2,aa⟩:=J.hi;obtain⟨a3,ac,ad⟩:=J.hT _ hT;have C:I.size=1:=by rw[←a3];rfl
 have hu:=aY ht hk;have L:=run_make (P:=P) w t e i z hu hi Z kl kc l c h1 h2 (by rw[B];exact h3) h4;refine Good.aG (v:=_) (w':=_) (by simp only[execOp,ho,bQ hl,bQ hc,Sem.run_bind,L,Result.andThen_ok];rfl) ?_;have hm:(madeCells z.cells (c.toNat*i.size)).size=c.toNat*i.size:=size_madeCells _ _;have a4:l.toNat≤c.toNat:=by omega
 have E:i.size=1:=by rw[D,C]
 have a5:z.cells.size=1:=by rw[a2,C]
 have a6:z.cells[0]! = .slice none 0 0:=by have:=gw (F:=fun _ _ _=>True) (ρ:=fun _=>none) z.cells.toList;rw[a1,hz]at this;simp only[VL,V]at this;obtain⟨⟨u,X,q2⟩,_⟩:=this;simp only[Array.getElem?_toList]at X;rw[q2]at X;rw[getElem!_pos z.cells 0 (by omega)];rw[Array.getElem?_eq_getElem (by omega)]at X;exact Option.some.inj X
 have x:∀j,j<l.toNat→((madeCells z.cells (c.toNat*i.size)).toList.take (l.toNat*1))[j]? = some (.slice none 0 0):=fun j hj=>by
  rw[List.getElem?_take,if_pos (by omega)];have a7:j<c.toNat*i.size:=by rw[E];omega
  have M:(madeCells z.cells (c.toNat*i.size)).toList[j]? = some (z.cells[j % z.cells.size]!):=by simp[madeCells,a7]
  rw[M,a5,Nat.mod_one,a6]
 refine cT m none new (.mat e O A (List.replicate l.toNat []) none) (.slice (some ⟨w.heap.size,0,none⟩) l.toNat c.toNat) none (World.grownBy_alloc w _ none) (fun k e=>by cases e) (.inl hn) (fun _ k hk=>?_) (fun F' a8 hF a9=>?_) (by rw[bn];rfl) (fun _=>rfl) (fun F' a8 hF a9 N=>?_)
 ·simp only[dw,Option.some.injEq]at hk;exact .inl (by omega)
 ·refine⟨fun _ h=>h,h0,fun _ _ e=>(by cases e),(madeCells z.cells (c.toNat*i.size)).toList.take (l.toNat*1),⟨?_,.inr ⟨w.heap.size,c.toNat,madeCells z.cells (c.toNat*i.size),?_,Nat.zero_le _,heap_alloc_new w _,?_,?_,?_,?_⟩⟩,fun j hj=>?_,fun r r' vr ax b _ _ _ M O b1=>?_⟩
  ·simp only[List.length_take,Array.length_toList,hm,List.length_replicate];rw[E];omega
  ·simp
  ·simpa using a4
  ·unfold maxLen;omega
  ·rw[hm,E]
  ·simp
  ·simp only[List.length_replicate]at hj;refine⟨_,x j hj,⟨_,_,_,rfl⟩,fun _=>⟨fun k hk=>by simp[dw]at hk,[],?_,fun q hq=>?_⟩,fun id e=>by cases e⟩
   ·simp only[List.getElem_replicate,List.length_nil];exact World.ownsRow_nil _ 0 O A.size
   ·simp at hq
  ·have hr:r<l.toNat:=by have:=(List.getElem?_eq_some_iff.1 M).1;simp only[List.length_take]at this;omega
   rw[x r hr]at M;cases M;simp[dw]at b1
 ·simp only[V];exact⟨N,_,_,_,rfl⟩
end
section
variable{P:Program}{Bw:Nat→Prop}{w0:cC P}{ρ:Nat→QW}{φ:Nat→Nat→Prop}{h:Nat→Qz}{w:World}{new:Nat}
theorem Ci{α β:Type}(f:α→Sem β)(g:α→β)(w:World):∀(l:List α),(∀x∈l,(f x).run P w = .ok (g x) w)→(l.mapM f).run P w = .ok (l.map g) w
 | [],_=>rfl
 | x::l,h=>by
  rw[List.mapM_cons,Sem.run_bind,h x (by simp)];simp only[Result.andThen_ok,Sem.run_bind,Ci f g w l (fun y j=>h y (by simp[j]))];rfl
def parts(tb:bT)(fs:List (Nat×TypeId)):List (Nat×ag)→List ag→Option (List ag)
 | [],q=>some q
 | (i,x)::r,q=>match fs[i]? with
  | some (off,u)=>match tb.find u with
   | some j=>if(cellsOf x).length=j.size∧(cellsOf x).all ag.cell∧off+j.size≤q.length then parts tb fs r (wr q off (cellsOf x))else none
   | none=>none
  | none=>none
theorem oC{tb:bT}(E:bX P tb){F:Bool→Addr→Value→Prop}{fs:List (Nat×TypeId)}{pl:Nat→Option (Nat×Nat)}
  (I:∀i off L,fs[i]? = some (off,L)→∃O,P.info? L=some O∧pl i=some (off,O.size)) :
  ∀ {ps:List (Nat×ag)} {vs:QY} {j J:List ag} {us:QU},parts tb fs ps j=some J→iS F ρ (ps.map (·.2)) vs→us.size=j.length→VL F ρ j (fun k u=>us[k]? = some u) →
   ∃q,Instr.fill pl us ((ps.map (·.1)).zip vs)=some q∧q.size=J.length∧VL F ρ J (fun k u=>q[k]? = some u)
 | [],vs,j,J,us,h,M,D,hl=>by
  simp only[parts,Option.some.injEq]at h;subst h;cases vs with
  | nil=>exact⟨us,rfl,D,hl⟩
  | cons _ _=>exact M.elim
 | (i,x)::r,vs,j,J,us,h,M,D,hl=>by
  simp only[parts]at h;split at h
  ·rename_i off L hf;split at h
   ·rename_i V X;split at h
    ·rename_i B;obtain⟨N,c2,Y⟩:=B;cases vs with
     | nil=>exact M.elim
     | cons v vs =>
      obtain⟨q1,q2⟩:=M;obtain⟨r1,r2,r3⟩:=fV c2 q1;obtain⟨O,Z,hp⟩:=I i off L hf;obtain⟨i2,z,e1,_,e3,_⟩:=(E.find X).hi;rw[Z]at e1;cases e1;have A:v.cells.size=V.size:=by rw[←Array.length_toList,r2,N]
      have hf:=uq off v us (by rw[A,D];exact Y);have C:(v.cells.zipIdx.foldl (fun(j:QU) (p:Value×Nat)=>j.setIfInBounds (off+p.2) p.1) us).size=(wr j off (cellsOf x)).length:=by rw[←Array.length_toList,hf,Fi (by rw[N];exact Y)];simp only[List.length_append,List.length_take,List.length_drop,Array.length_toList,A,D];omega
      have a1:VL F ρ (wr j off (cellsOf x)) (fun k u=>(v.cells.zipIdx.foldl (fun(j:QU) (p:Value×Nat)=>j.setIfInBounds (off+p.2) p.1) us)[k]? = some u):=by have:=EE (p:=off) (us:=us.toList) (by rw[N];exact Y) (by simpa using D) r2 (VL.mono (fun _ _ _ h=>h) (fun _ _ h=>h) (fun k u hk=>by simpa using hk) hl) r1;refine VL.mono (fun _ _ _ h=>h) (fun _ _ h=>h) (fun k u hk=>?_) this;rw[←Array.getElem?_toList,hf,A,←N];exact hk
      obtain⟨q,t1,t2,t3⟩:=oC E I h q2 C a1;refine⟨q,?_,t2,t3⟩;simp only[List.map_cons,List.zip_cons_cons,Instr.fill,hp];rw[if_neg (by simp[A,e3,D];omega)];exact t1
    ·cases h
   ·cases h
  ·cases h
theorem vI(m:Mem Bw w0 ρ φ h w){tb:bT}(M:bX P tb){o:Oper}{a:Act}{t:TypeId}{ti:TI}(ht:aN P t ti){fs:List (Nat×TypeId)}(hk:ti.k = .st fs)
  {ps:Array (Nat×Operand)} (ho:o.op = .build t ps) {xs:List ag} (X:iS (Fr (own φ h) Bw w) ρ xs (ps.toList.map fun p=>a.eval p.2)) {Y:List ag}
  (hd:parts tb fs ((ps.toList.map (·.1)).zip xs) ti.z=some Y):Good P o a w (aF Bw w0 ρ φ h w new (.agg Y) []):=by
 obtain⟨z,hz,u,a1,a2⟩:=dT ht w;obtain⟨d,h1,h2⟩:=ht.hu;rw[hk]at h2;obtain⟨I,rfl,h3,Z⟩:=h2;have j:xs.length=ps.toList.length:=by
  have key:∀(xs:List ag) (vs:QY),iS (Fr (own φ h) Bw w) ρ xs vs→xs.length=vs.length:=fun xs=>by
   induction xs with
   | nil=>intro vs J;cases vs with | nil=>rfl | cons _ _=>exact J.elim
   | cons x xs ih=>intro vs J;cases vs with | nil=>exact J.elim | cons v vs=>simp[ih vs J.2]
  rw[key _ _ X,List.length_map]
 have N:∀f∈I.toList,(do pure (f.offset,←sizeOf f.type):Sem (Nat×Nat)).run P w = .ok (f.offset,((P.info? f.type).map (·.size)).getD 0) w:=fun f hf=>by obtain⟨i,hi,_⟩:=Z f hf;simp[sizeOf,typeInfo,hi]
 have B:=Ci (P:=P) (fun f:Field=>do pure (f.offset,←sizeOf f.type)) (fun f=>(f.offset,((P.info? f.type).map (·.size)).getD 0)) w I.toList N;have q:=oC (ρ:=ρ) M (F:=Fr (own φ h) Bw w) (fs:=fs) (pl:=fun i=>(I.toList.map (fun f=>(f.offset,((P.info? f.type).map (·.size)).getD 0))).toArray[i]?) (fun i off ft hf=>by
  rw[←h3,List.getElem?_map]at hf;cases L:I.toList[i]? with
  | none=>rw[L]at hf;cases hf
  | some fd =>
   rw[L]at hf;simp only[Option.map_some,Option.some.injEq,Prod.mk.injEq]at hf;obtain⟨i',C,_⟩:=Z fd (List.mem_of_getElem? L);refine⟨i',by rw[←hf.2];exact C,?_⟩;simp only[List.getElem?_toArray,List.getElem?_map,L,Option.map_some,C,Option.getD_some,hf.1]) (ps:=(ps.toList.map (·.1)).zip xs) (vs:=ps.toList.map fun p=>a.eval p.2) (us:=z.cells) hd
  (by rw[List.map_snd_zip (by simp[j])];exact X) (by rw[←u];simp) (by rw[←u];have:=gw (F:=Fr (own φ h) Bw w) (ρ:=ρ) z.cells.toList;simpa using this)
 obtain⟨D,O,q2,q3⟩:=q;rw[List.map_fst_zip (by simp[j])]at O;have E:(ps.toList.map (·.1)).zip (ps.toList.map fun p=>a.eval p.2)=(ps.map fun p=>(p.1,a.eval p.2)).toList:=by simp[List.zip_map']
 rw[E]at O;refine Good.aG (v:= .agg D) (w':=w) ?_ (aF.pure m ?_)
 ·simp only[execOp,ho,Instr.build,Sem.run_bind,hz,Result.andThen_ok,run_underlying h1,Array.mapM_eq_mapM_toList,Sem.run_map,B,O];rfl
 ·simp only[V];exact⟨D,rfl,q2,q3⟩
theorem uh(m:Mem Bw w0 ρ φ h w){tb:bT}(M:bX P tb){o:Oper}{a:Act}{t e:TypeId}{ti C:TI}{n:Nat}(ht:aN P t ti)(hk:ti.k = .ar n e)(N:aN P e C)
  {ps:Array (Nat×Operand)} (ho:o.op = .build t ps) {xs:List ag} (Y:iS (Fr (own φ h) Bw w) ρ xs (ps.toList.map fun p=>a.eval p.2)) {Z:List ag}
  (hd:parts tb ((List.range n).map fun i=>(i*C.size,e)) ((ps.toList.map (·.1)).zip xs) ti.z=some Z):Good P o a w (aF Bw w0 ρ φ h w new (.agg Z) []):=by
 obtain⟨z,hz,D,a1,a2⟩:=dT ht w;obtain⟨d,h1,h2⟩:=ht.hu;rw[hk]at h2;simp only[UK]at h2;subst h2;obtain⟨i,_,hi,_,q,_⟩:=N.hi;have u:xs.length=ps.toList.length:=by
  have key:∀(xs:List ag) (vs:QY),iS (Fr (own φ h) Bw w) ρ xs vs→xs.length=vs.length:=fun xs=>by
   induction xs with
   | nil=>intro vs L;cases vs with | nil=>rfl | cons _ _=>exact L.elim
   | cons x xs ih=>intro vs L;cases vs with | nil=>exact L.elim | cons v vs=>simp[ih vs L.2]
  rw[key _ _ Y,List.length_map]
 have hs:(sizeOf e).run P w = .ok C.size w:=by simp[sizeOf,typeInfo,hi,q]
 have B:=oC (ρ:=ρ) M (F:=Fr (own φ h) Bw w) (fs:=(List.range n).map fun i=>(i*C.size,e)) (pl:=fun i=>some (i*C.size,C.size)) (fun j off ft hf=>by
  rw[List.getElem?_map]at hf;cases O:(List.range n)[j]? with
  | none=>rw[O]at hf;cases hf
  | some k =>
   rw[O]at hf;simp only[Option.map_some,Option.some.injEq,Prod.mk.injEq]at hf;obtain⟨a3,E⟩:=List.getElem?_eq_some_iff.1 O;simp at E;refine⟨i,by rw[←hf.2];exact hi,?_⟩;rw[←hf.1,←E,q]) (ps:=(ps.toList.map (·.1)).zip xs) (vs:=ps.toList.map fun p=>a.eval p.2) (us:=z.cells) hd
  (by rw[List.map_snd_zip (by simp[u])];exact Y) (by rw[←D];simp) (by rw[←D];have:=gw (F:=Fr (own φ h) Bw w) (ρ:=ρ) z.cells.toList;simpa using this)
 obtain⟨I,X,q2,q3⟩:=B;rw[List.map_fst_zip (by simp[u])]at X;have J:(ps.toList.map (·.1)).zip (ps.toList.map fun p=>a.eval p.2)=(ps.map fun p=>(p.1,a.eval p.2)).toList:=by simp[List.zip_map']
 rw[J]at X;refine Good.aG (v:= .agg I) (w':=w) ?_ (aF.pure m ?_)
 ·simp only[execOp,ho,Instr.build,Sem.run_bind,hz,Result.andThen_ok,run_underlying h1,hs,X];rfl
 ·simp only[V];exact⟨I,rfl,q2,q3⟩
def lenOf(h:Nat→Qz):ag→Option Int
 | .p _ (.slice _) j=>some j.length
 | .p _ .str s=>some s.length
 | .nils=>some 0
 | .sl id=>match h id with
  | some (.arr _ _ j)=>some j.length
  | some (.fz _ j)=>some j.length
  | some (.mat _ _ _ q _)=>some q.length
  | some (.bytes _ j)=>some j.length
  | _=>none
 | _=>none
theorem AT(m:Mem Bw w0 ρ φ h w){o:Oper}{a:Act}{t:TypeId}{ti:TI}(ht:aN P t ti)(hk:(∃e,ti.k = .sl e)∨ti.k = .str){L:Operand}{x:ag}(B:V (Fr (own φ h) Bw w) ρ x (a.eval L))
  (X:o.op = .call { callee:= .builtin .len,args:= #[L],argTypes:= #[t] }) {n:Int} (hl:lenOf h x=some n) (I:ti.k = .str↔∃β s,x = .p β .str s):Good P o a w (aF Bw w0 ρ φ h w new (.p false (.int .i64) n) []):=by
 obtain⟨d,h1,h2⟩:=ht.hu;have key:∀C len cap,a.eval L = .slice C len cap→(len:Int)=n→ti.k ≠ .str→Good P o a w (aF Bw w0 ρ φ h w new (.p false (.int .i64) n) []):=fun C len cap Y hn j=>by
  rcases hk with⟨e,hk⟩ | hk
  ·rw[hk]at h2;simp only[UK]at h2;subst h2;refine Good.aG (v:= .int .i64 n) (w':=w) ?_ (aF.pure m (dF _ _ _));simp only[execOp,X,resolve,invoke,builtin,Sem.run_bind,Sem.run_pure,Result.andThen_ok,List.map_toArray,List.map_cons,List.map_nil,Y];simp[Builtin.len_,run_underlying h1,goInt,hn]
  ·exact absurd hk j
 unfold lenOf at hl;split at hl
 ·cases hl;simp only[V,ai]at B;obtain⟨_,C,len,cap,e,⟨hl,_⟩,_⟩:=B;refine key C len cap e.symm (by rw[hl]) (fun e=>?_);obtain⟨_,_,e⟩:=I.1 e;cases e
 ·rename_i s;cases hl;have D:=I.2 ⟨_,_,rfl⟩;rw[D]at h2;simp only[UK]at h2;subst h2;refine Good.aG (v:= .int .i64 s.length) (w':=w) ?_ (aF.pure m (dF _ _ _));simp only[execOp,X,resolve,invoke,builtin,Sem.run_bind,Sem.run_pure,Result.andThen_ok,List.map_toArray,List.map_cons,List.map_nil,pw B];have M:(⟨s.toArray⟩:ByteArray).size=s.length:=rfl;simp[Builtin.len_,run_underlying h1,goInt,M]
 ·cases hl;simp only[V]at B;refine key none 0 0 B rfl (fun e=>?_);obtain⟨_,_,e⟩:=I.1 e;cases e
 ·rename_i id;simp only[V]at B;obtain⟨z,aa,nn,cc,Y⟩:=B;have j:ti.k ≠ .str:=fun e=>by obtain⟨_,_,e⟩:=I.1 e;cases e
  split at hl
  ·rename_i Z A xs hi;cases hl;obtain⟨u,q,N,_,cells,O,_⟩:=m.ob id _ hi;rw[z]at q;cases q;rcases O.2 with⟨e,hn⟩ | ⟨g,cap,E,e,_⟩
   ·exact key none 0 0 e (by rw[hn]) j
   ·exact key _ _ _ e rfl j
  ·rename_i A xs hi;cases hl;obtain⟨u,q,J⟩:=m.ob id _ hi;rw[z]at q;cases q;simp only[OR,V,ai]at J;obtain⟨_,C,len,cap,e,⟨hl,_⟩,_⟩:=J;exact key C len cap e.symm (by rw[hl]) j
  ·rename_i Z e2 A a1 a2 hi;cases hl;obtain⟨u,q,N,_,_,cells,O,_⟩:=m.ob id _ hi;rw[z]at q;cases q;rcases O.2 with⟨e,hn⟩ | ⟨g,cap,E,e,_⟩
   ·exact key none 0 0 e (by rw[hn]) j
   ·exact key _ _ _ e rfl j
  ·rename_i Z xs hi;cases hl;obtain⟨u,q,J⟩:=m.ob id _ hi;rw[z]at q;cases q;rcases J with⟨e,hn⟩ | ⟨g,cap,E,mk,e,_⟩
   ·exact key none 0 0 e (by rw[hn];rfl) j
   ·exact key _ _ _ e rfl j
  ·cases hl
 ·cases hl
theorem Ac(m:Mem Bw w0 ρ φ h w){o:Oper}{a:Act}{j:Operand}{p:List ag}(q:V (Fr (own φ h) Bw w) ρ (.tup p) (a.eval j)){i:Nat}(x:o.op = .extract j i){y:ag}(z:p[i]? = some y):
  Good P o a w (aF Bw w0 ρ φ h w new y []):=by
 simp only[V]at q;obtain⟨D,e,_,hl⟩:=q;obtain⟨u,B,C⟩:=VL.get hl z;refine Good.aG (v:=u) (w':=w) ?_ (aF.pure m C);simp[execOp,x,e,Instr.extract,B]
theorem xy(m:Mem Bw w0 ρ φ h w){o:Oper}{a:Act}{f:FuncId}{j:Array Operand}(C:o.op = .makeFunc (.func f) #[] j){xs:List ag}(D:iS (Fr (own φ h) Bw w) ρ xs (j.toList.map a.eval)):
  Good P o a w (aF Bw w0 ρ φ h w new (.fn f xs) []):=by
 refine Good.aG (v:= .func (.func f) #[] (j.map a.eval)) (w':=w) (by simp[execOp,C,Instr.makeFunc]) (aF.pure m ?_);simp only[V];have key:∀(xs:List ag) (p:QY),iS (Fr (own φ h) Bw w) ρ xs p→p.length=xs.length∧VL (Fr (own φ h) Bw w) ρ xs (fun k u=>p[k]? = some u):=fun xs=>by
  induction xs with
  | nil=>intro p q;cases p with | nil=>exact⟨rfl,by simp only[VL]⟩ | cons _ _=>exact q.elim
  | cons x xs E =>
   intro p q;cases p with
   | nil=>exact q.elim
   | cons v p =>obtain⟨z,B⟩:=E p q.2;simp only[VL];exact⟨by simp[z],⟨v,rfl,q.1⟩,VL.mono (fun _ _ _ h=>h) (fun _ _ h=>h) (fun k u hk=>by simpa using hk) B⟩
 obtain⟨z,B⟩:=key _ _ D;exact⟨_,rfl,by simpa using z,VL.mono (fun _ _ _ h=>h) (fun _ _ h=>h) (fun k u hk=>by simpa using hk) B⟩
theorem wi(m:Mem Bw w0 ρ φ h w){o:Oper}{a:Act}{t:TypeId}{ti:TI}(ht:aN P t ti)(hk:ti.k = .str){x io:Operand}{β q:Bool}{s:QX}(z:V (Fr (own φ h) Bw w) ρ (.p β .str s) (a.eval x))
  {k:IntKind} {i:Int} (hi:V (Fr (own φ h) Bw w) ρ (.p q (.int k) i) (a.eval io)) (B:o.op = .index t x io) (C:0≤i) (h1:i<s.length):Good P o a w (aF Bw w0 ρ φ h w new (.p false (.int .u8) ((s.getD i.toNat 0).toNat:Int)) []):=by
 obtain⟨d,D,u⟩:=ht.hu;rw[hk]at u;simp only[UK]at u;subst u;have j:i.toNat<s.length:=by omega
 refine Good.aG (v:= .int .u8 (s.getD i.toNat 0).toNat) (w':=w) ?_ (aF.pure m (dF _ _ _));have e:(⟨s.toArray⟩:ByteArray)[i.toNat]? = some s[i.toNat]:=by rw[getElem?_pos _ _ (by simpa [ByteArray.size]using j)];simp[ByteArray.getElem_eq_getElem_data]
 simp[execOp,B,Instr.index,asIntOf,bQ hi,pw z,run_underlying D,C,e,j]
theorem yy(m:Mem Bw w0 ρ φ h w){o:Oper}{a:Act}{j:Operand}{x:ag}(q:V (Fr (own φ h) Bw w) ρ x (a.eval j))(p:o.op = .move j∨o.op = .assign j):Good P o a w (aF Bw w0 ρ φ h w new x []):=by
 rcases p with p | p <;> exact Good.aG (v:=a.eval j) (w':=w) (by simp[execOp,p]) (aF.pure m q)
theorem tE(m:Mem Bw w0 ρ φ h w){o:Oper}{a:Act}{co j q:Operand}{β b:Bool}{x:ag}(hc:V (Fr (own φ h) Bw w) ρ (.p β .bool b) (a.eval co))(u:V (Fr (own φ h) Bw w) ρ x (a.eval (if b then j else q)))
  (z:o.op = .pick co j q):Good P o a w (aF Bw w0 ρ φ h w new x []):=by
 refine Good.aG (v:=a.eval (if b then j else q)) (w':=w) ?_ (aF.pure m u);cases b <;> simp[execOp,z,nG hc,asBool]
end
end Go.Tv
