/- Operations on memory: literals, make, parts of slices and structs. -/
import Derived.Test.YtflahpmlcfhpcaaGreatDoorTvH
import Derived.Laws.CopyRow
namespace Go.Tv
open Go Go.RowKit
theorem D5(off:Nat):∀(l:List Value) (k:Nat) (cs:Array Value),off+k+l.length≤cs.size →
  ((l.zipIdx k).foldl (fun(cs:Array Value) (p:Value×Nat)=>cs.setIfInBounds (off+p.2) p.1) cs).toList=cs.toList.take (off+k)++l++cs.toList.drop (off+k+l.length)
 | [],k,cs,_=>by simp
 | v::l,k,cs,h=>by
  simp only[List.zipIdx_cons,List.foldl_cons]
  simp only[List.length_cons]at h
  rw[D5 off l (k+1) _ (by simp;omega)]
  have:=list_seg_step cs.toList (off+k) v l (by simp;omega)
  simpa [Array.toList_setIfInBounds,Nat.add_assoc,Nat.add_comm 1]using this
theorem vS(off:Nat)(v:Value)(cs:Array Value)(h:off+v.cells.size≤cs.size):
  (v.cells.zipIdx.foldl (fun(cs:Array Value) (p:Value×Nat)=>cs.setIfInBounds (off+p.2) p.1) cs).toList=cs.toList.take off++v.cells.toList++cs.toList.drop (off+v.cells.size):=by
 rw[←Array.foldl_toList,Array.toList_zipIdx]
 have:=D5 off v.cells.toList 0 cs (by simpa using h)
 simpa using this
theorem L8(size:Nat):∀(vs:List Value) (k:Nat) (cs:Array Value),(∀v∈vs,v.cells.size=size)→(k+vs.length)*size=cs.size →
  ∃r,Instr.fill (fun i=>some (i*size,size)) cs ((vs.zipIdx k).map fun p=>(p.2,p.1))=some r∧r.toList=cs.toList.take (k*size)++vs.flatMap (fun v=>v.cells.toList)
 | [],k,cs,_,h=>⟨cs,by simp[Instr.fill],by simp at h;rw[h,List.take_of_length_le (by simp)];simp⟩
 | v::vs,k,cs,hv,h=>by
  have h1:=hv v (by simp)
  have hle:k*size+size≤cs.size:=by
   rw[←h,List.length_cons,←Nat.succ_mul];exact Nat.mul_le_mul_right _ (by omega)
  have hf:=vS (k*size) v cs (by rw[h1];exact hle)
  obtain⟨r,q1,q2⟩:=L8 size vs (k+1) (v.cells.zipIdx.foldl (fun(cs:Array Value) (p:Value×Nat)=>cs.setIfInBounds (k*size+p.2) p.1) cs) (fun u hu=>hv u (by simp[hu])) (by
   have:(v.cells.zipIdx.foldl (fun(cs:Array Value) (p:Value×Nat)=>cs.setIfInBounds (k*size+p.2) p.1) cs).size=cs.size:=by
    rw[←Array.length_toList,hf]
    simp only[List.length_append,List.length_take,List.length_drop,Array.length_toList,h1]
    omega
   rw[this,←h,List.length_cons];congr 1;omega)
  refine⟨r,?_,?_⟩
  ·simp only[List.zipIdx_cons,List.map_cons,Instr.fill]
   rw[if_neg (by simp[h1];omega)]
   exact q1
  ·rw[q2,hf,List.flatMap_cons]
   have e1:(cs.toList.take (k*size)).length=k*size:=by simp only[List.length_take,Array.length_toList];omega
   rw[List.take_left' (by rw[List.length_append,e1,Array.length_toList,h1,Nat.succ_mul]),List.append_assoc]
def VVs(F:Bool→Addr→Value→Prop)(ρ:Nat→Option Value):List AVal→List Value→Prop
 | [],[]=>True
 | x::xs,v::vs=>V F ρ x v∧VVs F ρ xs vs
 | _,_=>False
theorem VVs.mono{F F':Bool→Addr→Value→Prop}{ρ ρ':Nat→Option Value}(hF:∀β a v,F β a v→F' β a v)(hρ:∀i u,ρ i=some u→ρ' i=some u):∀ {xs:List AVal} {vs:List Value},VVs F ρ xs vs→VVs F' ρ' xs vs
 | [],[],_=>trivial
 | _::_,_::_,h=>⟨V.mono hF hρ h.1,VVs.mono hF hρ h.2⟩
 | [],_::_,h=>h
 | _::_,[],h=>h
theorem iC{F:Bool→Addr→Value→Prop}{ρ:Nat→Option Value}{n:NS}{a:Act}{s:Nat→AVal}(h:Slots n F ρ s a):∀(xs:List Operand),VVs F ρ (xs.map (ev s)) (xs.map a.eval)
 | []=>trivial
 | x::xs=>⟨bC h x,iC h xs⟩
def P7(A:Ty)(h:Nat→Option Obj):List AVal→Option (List A.den×gR)
 | []=>some ([],[])
 | x::xs=>match toT A h x with
  | some (y,u)=>match P7 A (apply u h) xs with
   | some (ys,us)=>some (y::ys,u++us)
   | none=>none
  | none=>none
section
variable{P:Program}{Bw:Nat→Prop}{w0:Base P}{ρ:Nat→Option Value}{φ:Nat→Nat→Prop}{h:Nat→Option Obj}{w:World}{new:Nat}
theorem zE{A:Ty}:∀ {xs:List AVal} {h:Nat→Option Obj} {ys:List A.den} {us:gR},Mem Bw w0 ρ φ h w→P7 A h xs=some (ys,us)→(∀x∈xs,(cellsOf x).all AVal.cell=true) →
  Mem Bw w0 ρ φ (apply us h) w∧(∀β a v,Fr (own φ h) Bw w β a v→Fr (own φ (apply us h)) Bw w β a v)∧ys.length=xs.length ∧
  ∀vs,VVs (Fr (own φ h) Bw w) ρ xs vs→vs.length=xs.length∧(∀v∈vs,v.cells.size=A.size∧∀c∈v.cells.toList,c.oneCell'=true) ∧
   ∀i (hi:i<ys.length),Vcells (Fr (own φ (apply us h)) Bw w false) A ys[i] (fun k u=>(vs.flatMap fun v=>v.cells.toList)[i*A.size+k]? = some u)
 | [],h,ys,us,m,hd,_=>by
  cases hd
  refine⟨m,fun _ _ _ h=>h,rfl,fun vs hv=> ?_⟩
  cases vs with
  | nil=>exact⟨rfl,fun v hv=>by simp at hv,fun i hi=>absurd hi (by simp)⟩
  | cons _ _=>exact hv.elim
 | x::xs,h,ys,us,m,hd,hc=>by
  simp only[P7]at hd
  split at hd
  ·rename_i y u h1
   split at hd
   ·rename_i ys' us' h2
    cases hd
    obtain⟨m1,f1,g1⟩:=mP m h1
    obtain⟨m2,f2,l2,g2⟩:=zE m1 h2 (fun x hx=>hc x (by simp[hx]))
    rw[fU]
    refine⟨m2,fun β a v hh=>f2 _ _ _ (f1 _ _ _ hh),by simp[l2],fun vs hv=> ?_⟩
    cases vs with
    | nil=>exact hv.elim
    | cons v vs =>
     obtain⟨q1,q2⟩:=hv
     obtain⟨r1,r2,r3⟩:=eW (hc x (by simp)) q1
     obtain⟨s1,s2⟩:=g1 _ r1
     obtain⟨t1,t2,t3⟩:=g2 vs (VVs.mono f1 (fun _ _ h=>h) q2)
     have hsz:v.cells.size=A.size:=by rw[s2,←r2,Array.length_toList]
     refine⟨by simp[t1],fun u hu=> ?_,fun i hi=> ?_⟩
     ·rcases List.mem_cons.1 hu with rfl | hu
      ·exact⟨hsz,r3⟩
      ·exact t2 u hu
     ·rw[List.flatMap_cons]
      cases i with
      | zero=>exact Vcells.mono (f2 _) (fun k u hk=>by rw[Nat.zero_mul,Nat.zero_add,List.getElem?_append_left (List.getElem?_eq_some_iff.1 hk).1];exact hk) s1
      | succ i =>
       refine Vcells.mono (fun _ _ h=>h) (fun k u hk=> ?_) (t3 i (by simpa using hi))
       rw[List.getElem?_append_right (by rw[Array.length_toList,hsz,Nat.succ_mul];omega),Array.length_toList,hsz,←hk]
       congr 1
       rw[Nat.succ_mul];omega
   ·cases hd
  ·cases hd
theorem pQ{A:Ty}:∀ {vs:List Value},(∀v∈vs,v.cells.size=A.size)→(vs.flatMap fun v=>v.cells.toList).length=vs.length*A.size
 | [],_=>by simp
 | v::vs,h=>by
  rw[List.flatMap_cons,List.length_append,pQ (fun u hu=>h u (by simp[hu])),Array.length_toList,h v (by simp),List.length_cons,Nat.succ_mul,Nat.add_comm]
theorem oH{t e:TypeId}{ti te:TI}(ht:TIok P t ti)(hk:ti.k = .sl e)(hte:TIok P e te){vs:List Value}(hs:∀v∈vs,v.cells.size=te.size)(h24:vs.length*te.size≤16777216):
  (Instr.buildSlice t vs.length ((vs.zipIdx 0).map fun p=>(p.2,p.1)).toArray).run P w = .ok (.slice (some ⟨w.heap.size,0,none⟩) vs.length vs.length) (w.alloc (.cells (vs.flatMap fun v=>v.cells.toList).toArray e)):=by
 have hu:=bQ ht hk
 obtain⟨z,hz,_,hz2,_⟩:=dE hte w
 have hfill:∀cs:Array Value,cs.size=vs.length*te.size→Instr.fill (fun i=>some (i*te.size,te.size)) cs ((vs.zipIdx 0).map fun p=>(p.2,p.1))=some (vs.flatMap fun v=>v.cells.toList).toArray:=fun cs hc=>by
  obtain⟨r,q1,q2⟩:=L8 te.size vs 0 cs hs (by rw[hc,Nat.zero_add])
  rw[q1]
  congr 1
  apply Array.ext'
  rw[q2]
  simp
 have h24':¬(vs.length*te.size > 2 ^ 24):=by omega
 by_cases h0:vs.length*te.size=0
 ·have:=hfill #[] (by simp[h0])
  simp[Instr.buildSlice,run_underlying hu,run_sizeOf hte,h0,Array.range_zero',this,newRow]
 ·have:=hfill ((Array.range (vs.length*te.size)).map (z.cells[· % z.cells.size]!)) (by simp)
  simp[Instr.buildSlice,run_underlying hu,run_sizeOf hte,h24',h0,hz,this,newRow]
theorem wQ(m:Mem Bw w0 ρ φ h w)(hn:ρ new=none){o:Oper}{a:Act}{t e:TypeId}{ti te:TI}(ht:TIok P t ti)(hk:ti.k = .sl e)(hte:TIok P e te){A:Ty}(hT:te.T=some A)(h0:0<A.size)
  {eA:Array (Nat×Operand)} {len:Nat} (ho:o.op = .buildSlice t len eA) (hp:eA.toList.map (·.1)=List.range len) {xs:List AVal}
  (hx:VVs (Fr (own φ h) Bw w) ρ xs (eA.toList.map fun p=>a.eval p.2)) (hc:∀x∈xs,(cellsOf x).all AVal.cell=true) {ys:List A.den} {us:gR} (hy:P7 A h xs=some (ys,us)) (h24:len*te.size≤16777216) :
  Good P o a w (Post Bw w0 ρ φ h w new (.sl new) (us++[(new,some (.arr e A ys))])):=by
 obtain⟨hT1,_,_⟩:=hte.hT A hT
 obtain⟨m',hF1,hl,hg⟩:=zE m hy hc
 obtain⟨g1,g2,g3⟩:=hg _ hx
 have hlen:(eA.toList.map fun p=>a.eval p.2).length=len:=by
  have:=congrArg List.length hp
  simpa using this
 have hparts:(eA.map fun p=>(p.1,a.eval p.2))=(((eA.toList.map fun p=>a.eval p.2).zipIdx 0).map fun p=>(p.2,p.1)).toArray:=by
  apply Array.ext'
  simp only[Array.toList_map]
  apply List.ext_getElem?
  intro j
  simp only[List.getElem?_map,List.getElem?_zipIdx,Option.map_map]
  have hj:=congrArg (fun l=>l[j]?) hp
  simp only[List.getElem?_map]at hj
  cases hq:eA.toList[j]? with
  | none=>simp[hq]
  | some p =>
   simp only[hq,Option.map_some]at hj ⊢
   have hjl:j<len:=by
    have:=(List.getElem?_eq_some_iff.1 hq).1
    have h2:=congrArg List.length hp
    simp only[List.length_map,List.length_range]at h2
    omega
   rw[List.getElem?_range hjl]at hj
   simp only[Option.some.injEq]at hj
   simp[hj]
 have hrun:=oH (P:=P) (w:=w) ht hk hte (vs:=eA.toList.map fun p=>a.eval p.2) (fun v hv=>by rw[(g2 v hv).1,hT1]) (by rw[hlen];exact h24)
 rw[hlen,←hparts]at hrun
 refine Good.of_run (v:=_) (w':=_) (by simp only[execOp,ho,Sem.run_bind,hrun,Result.andThen_ok];rfl) ?_
 refine Post.after rfl hF1 ?_
 have hylen:ys.length=len:=by rw[hl,←g1,hlen]
 have hfl:=pQ (A:=A) (fun v hv=>(g2 v hv).1)
 rw[hlen]at hfl
 have hrow:=World.ownsRow_lit (w:=w) (base:=0) (e:=e) (size:=A.size) ((eA.toList.map fun p=>a.eval p.2).flatMap fun v=>v.cells.toList).toArray len (Nat.zero_le _) (by unfold maxLen;have:len≤len*te.size:=Nat.le_mul_of_pos_right _ (by omega);omega) (by simpa using hfl)
 refine cZ m' none new (.arr e A ys) (.slice (some ⟨w.heap.size,0,none⟩) len len) none (World.grownBy_alloc w _ none) (fun k e=>by cases e) (.inl hn) (fun _ k hk=> ?_) (fun F' ρ' hF hρ=> ?_) (by rw[bP];rfl) (fun _=>rfl) (fun F' ρ' hF hρ hnew=> ?_)
 ·simp only[gS,Option.some.injEq]at hk
  exact .inl (by omega)
 ·rw[←hylen]at hrow
  simp only[OR]
  refine⟨fun _ h=>h,h0,_,by rw[hylen]at hrow ⊢;exact hrow,fun i hi=>Vcells.mono (hF _) (fun k u hk=>by simpa using hk) (g3 i hi)⟩
 ·simp only[V]
  exact⟨hnew,_,_,_,rfl⟩
theorem xO(m:Mem Bw w0 ρ φ h w)(hn:ρ new=none){o:Oper}{a:Act}{t e:TypeId}{ti te:TI}(ht:TIok P t ti)(hk:ti.k = .sl e)(hte:TIok P e te){A:Ty}(hT:te.T=some A)(h0:0<A.size)
  {lo co:Operand} (ho:o.op = .makeSlice t lo co) {β β':Bool} {kl kc:IntKind} {l c:Int} (hl:V (Fr (own φ h) Bw w) ρ (.p β (.int kl) l) (a.eval lo)) (hc:V (Fr (own φ h) Bw w) ρ (.p β' (.int kc) c) (a.eval co))
  (h1:0≤l) (h2:l≤c) (h3:(te.bytes:Int)*c≤281474976710656) (h4:c≤9223372036854775807) :
  Good P o a w (Post Bw w0 ρ φ h w new (.sl new) [(new,some (.arr e A (List.replicate l.toNat A.zero)))]):=by
 obtain⟨i,z,hi,hz,hsize,hbytes,hz1,hz2,hz3⟩:=hte.hi
 obtain⟨hT1,hT2,hT3⟩:=hte.hT A hT
 have hu:=bQ ht hk
 have hrun:=run_make (P:=P) w t e i z hu hi hz kl kc l c h1 h2 (by rw[hbytes];exact h3) h4
 refine Good.of_run (v:=_) (w':=_) (by simp only[execOp,ho,cC hl,cC hc,Sem.run_bind,hrun,Result.andThen_ok];rfl) ?_
 have hm:(madeCells z.cells (c.toNat*i.size)).size=c.toNat*i.size:=size_madeCells _ _
 have hlc:l.toNat≤c.toNat:=by omega
 have hmul:l.toNat*A.size≤c.toNat*i.size:=by rw[hsize,←hT1];exact Nat.mul_le_mul_right _ hlc
 refine cZ m none new (.arr e A (List.replicate l.toNat A.zero)) (.slice (some ⟨w.heap.size,0,none⟩) l.toNat c.toNat) none (World.grownBy_alloc w _ none) (fun k e=>by cases e) (.inl hn) (fun _ k hk=> ?_) (fun F' ρ' hF hρ=> ?_) (by rw[bP];rfl) (fun _=>rfl) (fun F' ρ' hF hρ hnew=> ?_)
 ·simp only[gS,Option.some.injEq]at hk
  exact .inl (by omega)
 ·refine⟨fun _ h=>h,h0,(madeCells z.cells (c.toNat*i.size)).toList.take (l.toNat*A.size),⟨?_,.inr ⟨w.heap.size,c.toNat,madeCells z.cells (c.toNat*i.size),?_,Nat.zero_le _,heap_alloc_new w _,?_,?_,?_,?_⟩⟩,fun j hj=> ?_⟩
  ·simp only[List.length_take,Array.length_toList,hm,List.length_replicate];omega
  ·simp
  ·simpa using hlc
  ·unfold maxLen;omega
  ·rw[hm,hsize,←hT1]
  ·simp
  ·simp only[List.length_replicate]at hj
   simp only[List.getElem_replicate]
   have hzz:Vcells (F' false) A A.zero (fun k u=>z.cells.toList[k]? = some u):=by
    have:=jB (F:=F') (ρ:=ρ') z.cells.toList
    rw[hz1]at this
    exact(cU hT3 this).1
   refine Vcells.monoLt (fun k v hk hv=> ?_) hzz
   have hjb:j*A.size+A.size≤l.toNat*A.size:=by
    rw[←Nat.succ_mul];exact Nat.mul_le_mul_right _ hj
   have hzsz:z.cells.size=A.size:=by rw[hz2,←hT1]
   rw[List.getElem?_take,if_pos (by omega)]
   have hlt:j*A.size+k<c.toNat*i.size:=by omega
   have e1:(madeCells z.cells (c.toNat*i.size)).toList[j*A.size+k]? = some (z.cells[(j*A.size+k) % z.cells.size]!):=by
    simp[madeCells,hlt]
   rw[e1,hzsz,Nat.mul_comm,Nat.mul_add_mod,Nat.mod_eq_of_lt hk]
   have hk':k<z.cells.size:=by omega
   simp only[Array.getElem?_toList]at hv
   rw[Array.getElem?_eq_getElem hk']at hv
   simp only[Option.some.injEq]at hv
   simp[hk',hv]
 ·simp only[V]
  exact⟨hnew,_,_,_,rfl⟩
theorem J3(m:Mem Bw w0 ρ φ h w)(hn:ρ new=none){o:Oper}{a:Act}{t e e2:TypeId}{ti te:TI}(ht:TIok P t ti)(hk:ti.k = .sl e)(hte:TIok P e te){A:Ty}(hT:te.T=some (.slice A))(hz:te.z=[.nils])(h0:0<A.size)
  {lo co:Operand} (ho:o.op = .makeSlice t lo co) {β β':Bool} {kl kc:IntKind} {l c:Int} (hl:V (Fr (own φ h) Bw w) ρ (.p β (.int kl) l) (a.eval lo)) (hc:V (Fr (own φ h) Bw w) ρ (.p β' (.int kc) c) (a.eval co))
  (h1:0≤l) (h2:l≤c) (h3:(te.bytes:Int)*c≤281474976710656) (h4:c≤9223372036854775807) :
  Good P o a w (Post Bw w0 ρ φ h w new (.sl new) [(new,some (.mat e e2 A (List.replicate l.toNat []) none))]):=by
 obtain⟨i,z,hi,hz0,hsize,hbytes,hz1,hz2,hz3⟩:=hte.hi
 obtain⟨hT1,hT2,hT3⟩:=hte.hT _ hT
 have hsz1:te.size=1:=by rw[←hT1];rfl
 have hu:=bQ ht hk
 have hrun:=run_make (P:=P) w t e i z hu hi hz0 kl kc l c h1 h2 (by rw[hbytes];exact h3) h4
 refine Good.of_run (v:=_) (w':=_) (by simp only[execOp,ho,cC hl,cC hc,Sem.run_bind,hrun,Result.andThen_ok];rfl) ?_
 have hm:(madeCells z.cells (c.toNat*i.size)).size=c.toNat*i.size:=size_madeCells _ _
 have hlc:l.toNat≤c.toNat:=by omega
 have his:i.size=1:=by rw[hsize,hsz1]
 have hzc:z.cells.size=1:=by rw[hz2,hsz1]
 have hzv:z.cells[0]! = .slice none 0 0:=by
  have:=jB (F:=fun _ _ _=>True) (ρ:=fun _=>none) z.cells.toList
  rw[hz1,hz]at this
  simp only[VL,V]at this
  obtain⟨⟨u,q1,q2⟩,_⟩:=this
  simp only[Array.getElem?_toList]at q1
  rw[q2]at q1
  rw[getElem!_pos z.cells 0 (by omega)]
  rw[Array.getElem?_eq_getElem (by omega)]at q1
  exact Option.some.inj q1
 have hcell:∀j,j<l.toNat→((madeCells z.cells (c.toNat*i.size)).toList.take (l.toNat*1))[j]? = some (.slice none 0 0):=fun j hj=>by
  rw[List.getElem?_take,if_pos (by omega)]
  have hlt:j<c.toNat*i.size:=by rw[his];omega
  have e1:(madeCells z.cells (c.toNat*i.size)).toList[j]? = some (z.cells[j % z.cells.size]!):=by
   simp[madeCells,hlt]
  rw[e1,hzc,Nat.mod_one,hzv]
 refine cZ m none new (.mat e e2 A (List.replicate l.toNat []) none) (.slice (some ⟨w.heap.size,0,none⟩) l.toNat c.toNat) none (World.grownBy_alloc w _ none) (fun k e=>by cases e) (.inl hn) (fun _ k hk=> ?_) (fun F' ρ' hF hρ=> ?_) (by rw[bP];rfl) (fun _=>rfl) (fun F' ρ' hF hρ hnew=> ?_)
 ·simp only[gS,Option.some.injEq]at hk
  exact .inl (by omega)
 ·refine⟨fun _ h=>h,h0,fun _ _ e=>(by cases e),(madeCells z.cells (c.toNat*i.size)).toList.take (l.toNat*1),⟨?_,.inr ⟨w.heap.size,c.toNat,madeCells z.cells (c.toNat*i.size),?_,Nat.zero_le _,heap_alloc_new w _,?_,?_,?_,?_⟩⟩,fun j hj=> ?_,fun r r' vr vr' b _ _ _ e1 e2 b1=> ?_⟩
  ·simp only[List.length_take,Array.length_toList,hm,List.length_replicate]
   rw[his]
   omega
  ·simp
  ·simpa using hlc
  ·unfold maxLen;omega
  ·rw[hm,his]
  ·simp
  ·simp only[List.length_replicate]at hj
   refine⟨_,hcell j hj,⟨_,_,_,rfl⟩,fun _=>⟨fun k hk=>by simp[gS]at hk,[],?_,fun q hq=> ?_⟩,fun id e=>by cases e⟩
   ·simp only[List.getElem_replicate,List.length_nil]
    exact World.ownsRow_nil _ 0 e2 A.size
   ·simp at hq
  ·have hr:r<l.toNat:=by
    have:=(List.getElem?_eq_some_iff.1 e1).1
    simp only[List.length_take]at this
    omega
   rw[hcell r hr]at e1
   cases e1
   simp[gS]at b1
 ·simp only[V]
  exact⟨hnew,_,_,_,rfl⟩
end
end Go.Tv
