/- Operations on memory: literals, make, parts of slices and structs. -/
import Derived.Test.YtbedjpdfkmfplaaGreatDoorTvH
import Derived.Laws.CopyRow
namespace Go.Tv
open Go Go.RowKit
theorem aAZ(off:Nat):∀(l:List Value) (k:Nat) (cs:Array Value),off+k+l.length≤cs.size →
  ((l.zipIdx k).foldl (fun(cs:Array Value) (p:Value×Nat)=>cs.setIfInBounds (off+p.2) p.1) cs).toList=cs.toList.take (off+k)++l++cs.toList.drop (off+k+l.length)
 | [],k,cs,_=>by simp
 | v::l,k,cs,h=>by
  simp only[List.zipIdx_cons,List.foldl_cons]
  simp only[List.length_cons]at h
  rw[aAZ off l (k+1) _ (by simp;omega)]
  have:=list_seg_step cs.toList (off+k) v l (by simp;omega)
  simpa [Array.toList_setIfInBounds,Nat.add_assoc,Nat.add_comm 1]using this
theorem I6(off:Nat)(v:Value)(cs:Array Value)(h:off+v.cells.size≤cs.size):
  (v.cells.zipIdx.foldl (fun(cs:Array Value) (p:Value×Nat)=>cs.setIfInBounds (off+p.2) p.1) cs).toList=cs.toList.take off++v.cells.toList++cs.toList.drop (off+v.cells.size):=by
 rw[←Array.foldl_toList,Array.toList_zipIdx]
 have:=aAZ off v.cells.toList 0 cs (by simpa using h)
 simpa using this
theorem aCM(size:Nat):∀(vs:List Value) (k:Nat) (cs:Array Value),(∀v∈vs,v.cells.size=size)→(k+vs.length)*size=cs.size →
  ∃r,Instr.fill (fun i=>some (i*size,size)) cs ((vs.zipIdx k).map fun p=>(p.2,p.1))=some r∧r.toList=cs.toList.take (k*size)++vs.flatMap (fun v=>v.cells.toList)
 | [],k,cs,_,h=>⟨cs,by simp[Instr.fill],by simp at h;rw[h,List.take_of_length_le (by simp)];simp⟩
 | v::vs,k,cs,hv,h=>by
  have h1:=hv v (by simp)
  have hle:k*size+size≤cs.size:=by
   rw[←h,List.length_cons,←Nat.succ_mul];exact Nat.mul_le_mul_right _ (by omega)
  have hf:=I6 (k*size) v cs (by rw[h1];exact hle)
  obtain⟨r,q1,q2⟩:=aCM size vs (k+1) (v.cells.zipIdx.foldl (fun(cs:Array Value) (p:Value×Nat)=>cs.setIfInBounds (k*size+p.2) p.1) cs) (fun u hu=>hv u (by simp[hu])) (by
   have:(v.cells.zipIdx.foldl (fun(cs:Array Value) (p:Value×Nat)=>cs.setIfInBounds (k*size+p.2) p.1) cs).size=cs.size:=by
    rw[←Array.length_toList,hf]
    simp only[List.length_append,List.length_take,List.length_drop,Array.length_toList,h1]
    omega
   rw[this,←h,List.length_cons];congr 1;omega)
  refine⟨r,?_,?_⟩
  ·simp only[List.zipIdx_cons,List.map_cons,Instr.fill]
   rw[if_neg (by simp[h1];omega)]
   exact q1
  ·rw[q2,hf,List.flatMap_cons]
   have e1:(cs.toList.take (k*size)).length=k*size:=by simp only[List.length_take,Array.length_toList];omega
   rw[List.take_left' (by rw[List.length_append,e1,Array.length_toList,h1,Nat.succ_mul]),List.append_assoc]
def VVs(F:Bool→Addr→Value→Prop)(ρ:Nat→Option Value):List AVal→List Value→Prop
 | [],[]=>True
 | x::xs,v::vs=>V F ρ x v∧VVs F ρ xs vs
 | _,_=>False
theorem VVs.mono{F F':Bool→Addr→Value→Prop}{ρ ρ':Nat→Option Value}(hF:∀β a v,F β a v→F' β a v)(hρ:∀i u,ρ i=some u→ρ' i=some u):∀ {xs:List AVal} {vs:List Value},VVs F ρ xs vs→VVs F' ρ' xs vs
 | [],[],_=>trivial
 | _::_,_::_,h=>⟨V.mono hF hρ h.1,VVs.mono hF hρ h.2⟩
 | [],_::_,h=>h
 | _::_,[],h=>h
theorem kO{F:Bool→Addr→Value→Prop}{ρ:Nat→Option Value}{n:NS}{a:Act}{s:Nat→AVal}(h:Slots n F ρ s a):∀(xs:List Operand),VVs F ρ (xs.map (ev s)) (xs.map a.eval)
 | []=>trivial
 | x::xs=>⟨bD h x,kO h xs⟩
def aCs(A:Ty)(h:Nat→Option Obj):List AVal→Option (List A.den×jJ)
 | []=>some ([],[])
 | x::xs=>match toT A h x with
  | some (y,u)=>match aCs A (apply u h) xs with
   | some (ys,us)=>some (y::ys,u++us)
   | none=>none
  | none=>none
section
variable{P:Program}{Bw:Nat→Prop}{w0:Base P}{ρ:Nat→Option Value}{φ:Nat→Nat→Prop}{h:Nat→Option Obj}{w:World}{new:Nat}
theorem R2{A:Ty}:∀ {xs:List AVal} {h:Nat→Option Obj} {ys:List A.den} {us:jJ},Mem Bw w0 ρ φ h w→aCs A h xs=some (ys,us)→(∀x∈xs,(cellsOf x).all AVal.cell=true) →
  Mem Bw w0 ρ φ (apply us h) w∧(∀β a v,Fr (own φ h) Bw w β a v→Fr (own φ (apply us h)) Bw w β a v)∧ys.length=xs.length ∧
  ∀vs,VVs (Fr (own φ h) Bw w) ρ xs vs→vs.length=xs.length∧(∀v∈vs,v.cells.size=A.size∧∀c∈v.cells.toList,c.oneCell'=true) ∧
   ∀i (hi:i<ys.length),Vcells (Fr (own φ (apply us h)) Bw w false) A ys[i] (fun k u=>(vs.flatMap fun v=>v.cells.toList)[i*A.size+k]? = some u)
 | [],h,ys,us,m,hd,_=>by
  cases hd
  refine⟨m,fun _ _ _ h=>h,rfl,fun vs hv=> ?_⟩
  cases vs with
  | nil=>exact⟨rfl,fun v hv=>by simp at hv,fun i hi=>absurd hi (by simp)⟩
  | cons _ _=>exact hv.elim
 | x::xs,h,ys,us,m,hd,hc=>by
  simp only[aCs]at hd
  split at hd
  ·rename_i y u h1
   split at hd
   ·rename_i ys' us' h2
    cases hd
    obtain⟨m1,f1,g1⟩:=qC m h1
    obtain⟨m2,f2,l2,g2⟩:=R2 m1 h2 (fun x hx=>hc x (by simp[hx]))
    rw[iJ]
    refine⟨m2,fun β a v hh=>f2 _ _ _ (f1 _ _ _ hh),by simp[l2],fun vs hv=> ?_⟩
    cases vs with
    | nil=>exact hv.elim
    | cons v vs =>
     obtain⟨q1,q2⟩:=hv
     obtain⟨r1,r2,r3⟩:=gW (hc x (by simp)) q1
     obtain⟨s1,s2⟩:=g1 _ r1
     obtain⟨t1,t2,t3⟩:=g2 vs (VVs.mono f1 (fun _ _ h=>h) q2)
     have hsz:v.cells.size=A.size:=by rw[s2,←r2,Array.length_toList]
     refine⟨by simp[t1],fun u hu=> ?_,fun i hi=> ?_⟩
     ·rcases List.mem_cons.1 hu with rfl | hu
      ·exact⟨hsz,r3⟩
      ·exact t2 u hu
     ·rw[List.flatMap_cons]
      cases i with
      | zero=>exact Vcells.mono (f2 _) (fun k u hk=>by rw[Nat.zero_mul,Nat.zero_add,List.getElem?_append_left (List.getElem?_eq_some_iff.1 hk).1];exact hk) s1
      | succ i =>
       refine Vcells.mono (fun _ _ h=>h) (fun k u hk=> ?_) (t3 i (by simpa using hi))
       rw[List.getElem?_append_right (by rw[Array.length_toList,hsz,Nat.succ_mul];omega),Array.length_toList,hsz,←hk]
       congr 1
       rw[Nat.succ_mul];omega
   ·cases hd
  ·cases hd
theorem vM{A:Ty}:∀ {vs:List Value},(∀v∈vs,v.cells.size=A.size)→(vs.flatMap fun v=>v.cells.toList).length=vs.length*A.size
 | [],_=>by simp
 | v::vs,h=>by
  rw[List.flatMap_cons,List.length_append,vM (fun u hu=>h u (by simp[hu])),Array.length_toList,h v (by simp),List.length_cons,Nat.succ_mul,Nat.add_comm]
theorem uM{t e:TypeId}{ti te:TI}(ht:TIok P t ti)(hk:ti.k = .sl e)(hte:TIok P e te){vs:List Value}(hs:∀v∈vs,v.cells.size=te.size)(h24:vs.length*te.size≤16777216):
  (Instr.buildSlice t vs.length ((vs.zipIdx 0).map fun p=>(p.2,p.1)).toArray).run P w = .ok (.slice (some ⟨w.heap.size,0,none⟩) vs.length vs.length) (w.alloc (.cells (vs.flatMap fun v=>v.cells.toList).toArray e)):=by
 have hu:=bK ht hk
 obtain⟨z,hz,_,hz2,_⟩:=eC hte w
 have hfill:∀cs:Array Value,cs.size=vs.length*te.size→Instr.fill (fun i=>some (i*te.size,te.size)) cs ((vs.zipIdx 0).map fun p=>(p.2,p.1))=some (vs.flatMap fun v=>v.cells.toList).toArray:=fun cs hc=>by
  obtain⟨r,q1,q2⟩:=aCM te.size vs 0 cs hs (by rw[hc,Nat.zero_add])
  rw[q1]
  congr 1
  apply Array.ext'
  rw[q2]
  simp
 have h24':¬(vs.length*te.size > 2 ^ 24):=by omega
 by_cases h0:vs.length*te.size=0
 ·have:=hfill #[] (by simp[h0])
  simp[Instr.buildSlice,run_underlying hu,run_sizeOf hte,h0,Array.range_zero',this,newRow]
 ·have:=hfill ((Array.range (vs.length*te.size)).map (z.cells[· % z.cells.size]!)) (by simp)
  simp[Instr.buildSlice,run_underlying hu,run_sizeOf hte,h24',h0,hz,this,newRow]
theorem L9(m:Mem Bw w0 ρ φ h w)(hn:ρ new=none){o:Oper}{a:Act}{t e:TypeId}{ti te:TI}(ht:TIok P t ti)(hk:ti.k = .sl e)(hte:TIok P e te){A:Ty}(hT:te.T=some A)(h0:0<A.size)
  {fS:Array (Nat×Operand)} {len:Nat} (ho:o.op = .buildSlice t len fS) (hp:fS.toList.map (·.1)=List.range len) {xs:List AVal}
  (hx:VVs (Fr (own φ h) Bw w) ρ xs (fS.toList.map fun p=>a.eval p.2)) (hc:∀x∈xs,(cellsOf x).all AVal.cell=true) {ys:List A.den} {us:jJ} (hy:aCs A h xs=some (ys,us)) (h24:len*te.size≤16777216) :
  Good P o a w (Post Bw w0 ρ φ h w new (.sl new) (us++[(new,some (.arr e A ys))])):=by
 obtain⟨hT1,_,_⟩:=hte.hT A hT
 obtain⟨m',hF1,hl,hg⟩:=R2 m hy hc
 obtain⟨g1,g2,g3⟩:=hg _ hx
 have hlen:(fS.toList.map fun p=>a.eval p.2).length=len:=by
  have:=congrArg List.length hp
  simpa using this
 have hparts:(fS.map fun p=>(p.1,a.eval p.2))=(((fS.toList.map fun p=>a.eval p.2).zipIdx 0).map fun p=>(p.2,p.1)).toArray:=by
  apply Array.ext'
  simp only[Array.toList_map]
  apply List.ext_getElem?
  intro j
  simp only[List.getElem?_map,List.getElem?_zipIdx,Option.map_map]
  have hj:=congrArg (fun l=>l[j]?) hp
  simp only[List.getElem?_map]at hj
  cases hq:fS.toList[j]? with
  | none=>simp[hq]
  | some p =>
   simp only[hq,Option.map_some]at hj ⊢
   have hjl:j<len:=by
    have:=(List.getElem?_eq_some_iff.1 hq).1
    have h2:=congrArg List.length hp
    simp only[List.length_map,List.length_range]at h2
    omega
   rw[List.getElem?_range hjl]at hj
   simp only[Option.some.injEq]at hj
   simp[hj]
 have hrun:=uM (P:=P) (w:=w) ht hk hte (vs:=fS.toList.map fun p=>a.eval p.2) (fun v hv=>by rw[(g2 v hv).1,hT1]) (by rw[hlen];exact h24)
 rw[hlen,←hparts]at hrun
 refine Good.of_run (v:=_) (w':=_) (by simp only[execOp,ho,Sem.run_bind,hrun,Result.andThen_ok];rfl) ?_
 refine Post.after rfl hF1 ?_
 have hylen:ys.length=len:=by rw[hl,←g1,hlen]
 have hfl:=vM (A:=A) (fun v hv=>(g2 v hv).1)
 rw[hlen]at hfl
 have hrow:=World.ownsRow_lit (w:=w) (base:=0) (e:=e) (size:=A.size) ((fS.toList.map fun p=>a.eval p.2).flatMap fun v=>v.cells.toList).toArray len (Nat.zero_le _) (by unfold maxLen;have:len≤len*te.size:=Nat.le_mul_of_pos_right _ (by omega);omega) (by simpa using hfl)
 refine dT m' none new (.arr e A ys) (.slice (some ⟨w.heap.size,0,none⟩) len len) none (World.grownBy_alloc w _ none) (fun k e=>by cases e) (.inl hn) (fun _ k hk=> ?_) (fun F' ρ' hF hρ=> ?_) (by rw[bQ];rfl) (fun _=>rfl) (fun F' ρ' hF hρ hnew=> ?_)
 ·simp only[jT,Option.some.injEq]at hk
  exact .inl (by omega)
 ·rw[←hylen]at hrow
  simp only[OR]
  refine⟨fun _ h=>h,h0,_,by rw[hylen]at hrow ⊢;exact hrow,fun i hi=>Vcells.mono (hF _) (fun k u hk=>by simpa using hk) (g3 i hi)⟩
 ·simp only[V]
  exact⟨hnew,_,_,_,rfl⟩
theorem O2(m:Mem Bw w0 ρ φ h w)(hn:ρ new=none){o:Oper}{a:Act}{t e:TypeId}{ti te:TI}(ht:TIok P t ti)(hk:ti.k = .sl e)(hte:TIok P e te){A:Ty}(hT:te.T=some A)(h0:0<A.size)
  {lo co:Operand} (ho:o.op = .makeSlice t lo co) {β β':Bool} {kl kc:IntKind} {l c:Int} (hl:V (Fr (own φ h) Bw w) ρ (.p β (.int kl) l) (a.eval lo)) (hc:V (Fr (own φ h) Bw w) ρ (.p β' (.int kc) c) (a.eval co))
  (h1:0≤l) (h2:l≤c) (h3:(te.bytes:Int)*c≤281474976710656) (h4:c≤9223372036854775807) :
  Good P o a w (Post Bw w0 ρ φ h w new (.sl new) [(new,some (.arr e A (List.replicate l.toNat A.zero)))]):=by
 obtain⟨i,z,hi,hz,hsize,hbytes,hz1,hz2,hz3⟩:=hte.hi
 obtain⟨hT1,hT2,hT3⟩:=hte.hT A hT
 have hu:=bK ht hk
 have hrun:=run_make (P:=P) w t e i z hu hi hz kl kc l c h1 h2 (by rw[hbytes];exact h3) h4
 refine Good.of_run (v:=_) (w':=_) (by simp only[execOp,ho,cN hl,cN hc,Sem.run_bind,hrun,Result.andThen_ok];rfl) ?_
 have hm:(madeCells z.cells (c.toNat*i.size)).size=c.toNat*i.size:=size_madeCells _ _
 have hlc:l.toNat≤c.toNat:=by omega
 have hmul:l.toNat*A.size≤c.toNat*i.size:=by rw[hsize,←hT1];exact Nat.mul_le_mul_right _ hlc
 refine dT m none new (.arr e A (List.replicate l.toNat A.zero)) (.slice (some ⟨w.heap.size,0,none⟩) l.toNat c.toNat) none (World.grownBy_alloc w _ none) (fun k e=>by cases e) (.inl hn) (fun _ k hk=> ?_) (fun F' ρ' hF hρ=> ?_) (by rw[bQ];rfl) (fun _=>rfl) (fun F' ρ' hF hρ hnew=> ?_)
 ·simp only[jT,Option.some.injEq]at hk
  exact .inl (by omega)
 ·refine⟨fun _ h=>h,h0,(madeCells z.cells (c.toNat*i.size)).toList.take (l.toNat*A.size),⟨?_,.inr ⟨w.heap.size,c.toNat,madeCells z.cells (c.toNat*i.size),?_,Nat.zero_le _,heap_alloc_new w _,?_,?_,?_,?_⟩⟩,fun j hj=> ?_⟩
  ·simp only[List.length_take,Array.length_toList,hm,List.length_replicate];omega
  ·simp
  ·simpa using hlc
  ·unfold maxLen;omega
  ·rw[hm,hsize,←hT1]
  ·simp
  ·simp only[List.length_replicate]at hj
   simp only[List.getElem_replicate]
   have hzz:Vcells (F' false) A A.zero (fun k u=>z.cells.toList[k]? = some u):=by
    have:=jU (F:=F') (ρ:=ρ') z.cells.toList
    rw[hz1]at this
    exact(dK hT3 this).1
   refine Vcells.monoLt (fun k v hk hv=> ?_) hzz
   have hjb:j*A.size+A.size≤l.toNat*A.size:=by
    rw[←Nat.succ_mul];exact Nat.mul_le_mul_right _ hj
   have hzsz:z.cells.size=A.size:=by rw[hz2,←hT1]
   rw[List.getElem?_take,if_pos (by omega)]
   have hlt:j*A.size+k<c.toNat*i.size:=by omega
   have e1:(madeCells z.cells (c.toNat*i.size)).toList[j*A.size+k]? = some (z.cells[(j*A.size+k) % z.cells.size]!):=by
    simp[madeCells,hlt]
   rw[e1,hzsz,Nat.mul_comm,Nat.mul_add_mod,Nat.mod_eq_of_lt hk]
   have hk':k<z.cells.size:=by omega
   simp only[Array.getElem?_toList]at hv
   rw[Array.getElem?_eq_getElem hk']at hv
   simp only[Option.some.injEq]at hv
   simp[hk',hv]
 ·simp only[V]
  exact⟨hnew,_,_,_,rfl⟩
theorem aB8(m:Mem Bw w0 ρ φ h w)(hn:ρ new=none){o:Oper}{a:Act}{t e e2:TypeId}{ti te:TI}(ht:TIok P t ti)(hk:ti.k = .sl e)(hte:TIok P e te){A:Ty}(hT:te.T=some (.slice A))(hz:te.z=[.nils])(h0:0<A.size)
  {lo co:Operand} (ho:o.op = .makeSlice t lo co) {β β':Bool} {kl kc:IntKind} {l c:Int} (hl:V (Fr (own φ h) Bw w) ρ (.p β (.int kl) l) (a.eval lo)) (hc:V (Fr (own φ h) Bw w) ρ (.p β' (.int kc) c) (a.eval co))
  (h1:0≤l) (h2:l≤c) (h3:(te.bytes:Int)*c≤281474976710656) (h4:c≤9223372036854775807) :
  Good P o a w (Post Bw w0 ρ φ h w new (.sl new) [(new,some (.mat e e2 A (List.replicate l.toNat []) none))]):=by
 obtain⟨i,z,hi,hz0,hsize,hbytes,hz1,hz2,hz3⟩:=hte.hi
 obtain⟨hT1,hT2,hT3⟩:=hte.hT _ hT
 have hsz1:te.size=1:=by rw[←hT1];rfl
 have hu:=bK ht hk
 have hrun:=run_make (P:=P) w t e i z hu hi hz0 kl kc l c h1 h2 (by rw[hbytes];exact h3) h4
 refine Good.of_run (v:=_) (w':=_) (by simp only[execOp,ho,cN hl,cN hc,Sem.run_bind,hrun,Result.andThen_ok];rfl) ?_
 have hm:(madeCells z.cells (c.toNat*i.size)).size=c.toNat*i.size:=size_madeCells _ _
 have hlc:l.toNat≤c.toNat:=by omega
 have his:i.size=1:=by rw[hsize,hsz1]
 have hzc:z.cells.size=1:=by rw[hz2,hsz1]
 have hzv:z.cells[0]! = .slice none 0 0:=by
  have:=jU (F:=fun _ _ _=>True) (ρ:=fun _=>none) z.cells.toList
  rw[hz1,hz]at this
  simp only[VL,V]at this
  obtain⟨⟨u,q1,q2⟩,_⟩:=this
  simp only[Array.getElem?_toList]at q1
  rw[q2]at q1
  rw[getElem!_pos z.cells 0 (by omega)]
  rw[Array.getElem?_eq_getElem (by omega)]at q1
  exact Option.some.inj q1
 have hcell:∀j,j<l.toNat→((madeCells z.cells (c.toNat*i.size)).toList.take (l.toNat*1))[j]? = some (.slice none 0 0):=fun j hj=>by
  rw[List.getElem?_take,if_pos (by omega)]
  have hlt:j<c.toNat*i.size:=by rw[his];omega
  have e1:(madeCells z.cells (c.toNat*i.size)).toList[j]? = some (z.cells[j % z.cells.size]!):=by
   simp[madeCells,hlt]
  rw[e1,hzc,Nat.mod_one,hzv]
 refine dT m none new (.mat e e2 A (List.replicate l.toNat []) none) (.slice (some ⟨w.heap.size,0,none⟩) l.toNat c.toNat) none (World.grownBy_alloc w _ none) (fun k e=>by cases e) (.inl hn) (fun _ k hk=> ?_) (fun F' ρ' hF hρ=> ?_) (by rw[bQ];rfl) (fun _=>rfl) (fun F' ρ' hF hρ hnew=> ?_)
 ·simp only[jT,Option.some.injEq]at hk
  exact .inl (by omega)
 ·refine⟨fun _ h=>h,h0,fun _ _ e=>(by cases e),(madeCells z.cells (c.toNat*i.size)).toList.take (l.toNat*1),⟨?_,.inr ⟨w.heap.size,c.toNat,madeCells z.cells (c.toNat*i.size),?_,Nat.zero_le _,heap_alloc_new w _,?_,?_,?_,?_⟩⟩,fun j hj=> ?_,fun r r' vr vr' b _ _ _ e1 e2 b1=> ?_⟩
  ·simp only[List.length_take,Array.length_toList,hm,List.length_replicate]
   rw[his]
   omega
  ·simp
  ·simpa using hlc
  ·unfold maxLen;omega
  ·rw[hm,his]
  ·simp
  ·simp only[List.length_replicate]at hj
   refine⟨_,hcell j hj,⟨_,_,_,rfl⟩,fun _=>⟨fun k hk=>by simp[jT]at hk,[],?_,fun q hq=> ?_⟩,fun id e=>by cases e⟩
   ·simp only[List.getElem_replicate,List.length_nil]
    exact World.ownsRow_nil _ 0 e2 A.size
   ·simp at hq
  ·have hr:r<l.toNat:=by
    have:=(List.getElem?_eq_some_iff.1 e1).1
    simp only[List.length_take]at this
    omega
   rw[hcell r hr]at e1
   cases e1
   simp[jT]at b1
 ·simp only[V]
  exact⟨hnew,_,_,_,rfl⟩
end
end Go.Tv
namespace Go.Tv
open Go Go.RowKit
section
variable{P:Program}{Bw:Nat→Prop}{w0:Base P}{ρ:Nat→Option Value}{φ:Nat→Nat→Prop}{h:Nat→Option Obj}{w:World}{new:Nat}
theorem aDT{α β:Type}(f:α→Sem β)(g:α→β)(w:World):∀(l:List α),(∀x∈l,(f x).run P w = .ok (g x) w)→(l.mapM f).run P w = .ok (l.map g) w
 | [],_=>rfl
 | x::l,h=>by
  rw[List.mapM_cons,Sem.run_bind,h x (by simp)]
  simp only[Result.andThen_ok,Sem.run_bind,aDT f g w l (fun y hy=>h y (by simp[hy]))]
  rfl
def fS(tb:Tab)(fs:List (Nat×TypeId)):List (Nat×AVal)→List AVal→Option (List AVal)
 | [],cs=>some cs
 | (i,x)::r,cs=>match fs[i]? with
  | some (off,ft)=>match tb.find ft with
   | some fti=>if(cellsOf x).length=fti.size∧(cellsOf x).all AVal.cell∧off+fti.size≤cs.length then fS tb fs r (wr cs off (cellsOf x))else none
   | none=>none
  | none=>none
theorem uW{tb:Tab}(htb:TabOK P tb){F:Bool→Addr→Value→Prop}{fs:List (Nat×TypeId)}{pl:Nat→Option (Nat×Nat)}
  (hpl:∀i off ft,fs[i]? = some (off,ft)→∃i',P.info? ft=some i'∧pl i=some (off,i'.size)) :
  ∀ {ps:List (Nat×AVal)} {vs:List Value} {cs ds:List AVal} {us:Array Value},fS tb fs ps cs=some ds→VVs F ρ (ps.map (·.2)) vs→us.size=cs.length→VL F ρ cs (fun k u=>us[k]? = some u) →
   ∃us',Instr.fill pl us ((ps.map (·.1)).zip vs)=some us'∧us'.size=ds.length∧VL F ρ ds (fun k u=>us'[k]? = some u)
 | [],vs,cs,ds,us,h,hv,hs,hl=>by
  simp only[fS,Option.some.injEq]at h
  subst h
  cases vs with
  | nil=>exact⟨us,rfl,hs,hl⟩
  | cons _ _=>exact hv.elim
 | (i,x)::r,vs,cs,ds,us,h,hv,hs,hl=>by
  simp only[fS]at h
  split at h
  ·rename_i off ft hf
   split at h
   ·rename_i fti hft
    split at h
    ·rename_i hcond
     obtain⟨c1,c2,c3⟩:=hcond
     cases vs with
     | nil=>exact hv.elim
     | cons v vs =>
      obtain⟨q1,q2⟩:=hv
      obtain⟨r1,r2,r3⟩:=gW c2 q1
      obtain⟨i',hi',hp⟩:=hpl i off ft hf
      obtain⟨i2,z,e1,_,e3,_⟩:=(htb.find hft).hi
      rw[hi']at e1
      cases e1
      have hsz:v.cells.size=fti.size:=by rw[←Array.length_toList,r2,c1]
      have hf:=I6 off v us (by rw[hsz,hs];exact c3)
      have hsize:(v.cells.zipIdx.foldl (fun(cs:Array Value) (p:Value×Nat)=>cs.setIfInBounds (off+p.2) p.1) us).size=(wr cs off (cellsOf x)).length:=by
       rw[←Array.length_toList,hf,aGu (by rw[c1];exact c3)]
       simp only[List.length_append,List.length_take,List.length_drop,Array.length_toList,hsz,hs];omega
      have hvl:VL F ρ (wr cs off (cellsOf x)) (fun k u=>(v.cells.zipIdx.foldl (fun(cs:Array Value) (p:Value×Nat)=>cs.setIfInBounds (off+p.2) p.1) us)[k]? = some u):=by
       have:=aFj (p:=off) (us:=us.toList) (by rw[c1];exact c3) (by simpa using hs) r2 (VL.mono (fun _ _ _ h=>h) (fun _ _ h=>h) (fun k u hk=>by simpa using hk) hl) r1
       refine VL.mono (fun _ _ _ h=>h) (fun _ _ h=>h) (fun k u hk=> ?_) this
       rw[←Array.getElem?_toList,hf,hsz,←c1]
       exact hk
      obtain⟨us',t1,t2,t3⟩:=uW htb hpl h q2 hsize hvl
      refine⟨us',?_,t2,t3⟩
      simp only[List.map_cons,List.zip_cons_cons,Instr.fill,hp]
      rw[if_neg (by simp[hsz,e3,hs];omega)]
      exact t1
    ·cases h
   ·cases h
  ·cases h
theorem W5(m:Mem Bw w0 ρ φ h w){tb:Tab}(htb:TabOK P tb){o:Oper}{a:Act}{t:TypeId}{ti:TI}(ht:TIok P t ti){fs:List (Nat×TypeId)}(hk:ti.k = .st fs)
  {ps:Array (Nat×Operand)} (ho:o.op = .build t ps) {xs:List AVal} (hx:VVs (Fr (own φ h) Bw w) ρ xs (ps.toList.map fun p=>a.eval p.2)) {ds:List AVal}
  (hd:fS tb fs ((ps.toList.map (·.1)).zip xs) ti.z=some ds):Good P o a w (Post Bw w0 ρ φ h w new (.agg ds) []):=by
 obtain⟨z,hz,hz1,hz2,hz3⟩:=eC ht w
 obtain⟨d,h1,h2⟩:=ht.hu
 rw[hk]at h2
 obtain⟨fa,rfl,h3,h4⟩:=h2
 have hlen:xs.length=ps.toList.length:=by
  have key:∀(xs:List AVal) (vs:List Value),VVs (Fr (own φ h) Bw w) ρ xs vs→xs.length=vs.length:=fun xs=>by
   induction xs with
   | nil=>intro vs hv;cases vs with | nil=>rfl | cons _ _=>exact hv.elim
   | cons x xs ih=>intro vs hv;cases vs with | nil=>exact hv.elim | cons v vs=>simp[ih vs hv.2]
  rw[key _ _ hx,List.length_map]
 have hsz:∀f∈fa.toList,(do pure (f.offset,←sizeOf f.type):Sem (Nat×Nat)).run P w = .ok (f.offset,((P.info? f.type).map (·.size)).getD 0) w:=fun f hf=>by
  obtain⟨i,hi,_⟩:=h4 f hf
  simp[sizeOf,typeInfo,hi]
 have hmap:=aDT (P:=P) (fun f:Field=>do pure (f.offset,←sizeOf f.type)) (fun f=>(f.offset,((P.info? f.type).map (·.size)).getD 0)) w fa.toList hsz
 have hfill:=uW (ρ:=ρ) htb (F:=Fr (own φ h) Bw w) (fs:=fs) (pl:=fun i=>(fa.toList.map (fun f=>(f.offset,((P.info? f.type).map (·.size)).getD 0))).toArray[i]?) (fun i off ft hf=>by
  rw[←h3,List.getElem?_map]at hf
  cases hq:fa.toList[i]? with
  | none=>rw[hq]at hf;cases hf
  | some fd =>
   rw[hq]at hf
   simp only[Option.map_some,Option.some.injEq,Prod.mk.injEq]at hf
   obtain⟨i',hi',_⟩:=h4 fd (List.mem_of_getElem? hq)
   refine⟨i',by rw[←hf.2];exact hi',?_⟩
   simp only[List.getElem?_toArray,List.getElem?_map,hq,Option.map_some,hi',Option.getD_some,hf.1]) (ps:=(ps.toList.map (·.1)).zip xs) (vs:=ps.toList.map fun p=>a.eval p.2) (us:=z.cells) hd
  (by rw[List.map_snd_zip (by simp[hlen])];exact hx) (by rw[←hz1];simp) (by rw[←hz1];have:=jU (F:=Fr (own φ h) Bw w) (ρ:=ρ) z.cells.toList;simpa using this)
 obtain⟨us',q1,q2,q3⟩:=hfill
 rw[List.map_fst_zip (by simp[hlen])]at q1
 have hzip:(ps.toList.map (·.1)).zip (ps.toList.map fun p=>a.eval p.2)=(ps.map fun p=>(p.1,a.eval p.2)).toList:=by
  simp[List.zip_map']
 rw[hzip]at q1
 refine Good.of_run (v:= .agg us') (w':=w) ?_ (Post.pure m ?_)
 ·simp only[execOp,ho,Instr.build,Sem.run_bind,hz,Result.andThen_ok,run_underlying h1,Array.mapM_eq_mapM_toList,Sem.run_map,hmap,q1]
  rfl
 ·simp only[V]
  exact⟨us',rfl,q2,q3⟩
theorem H6(m:Mem Bw w0 ρ φ h w){tb:Tab}(htb:TabOK P tb){o:Oper}{a:Act}{t e:TypeId}{ti te:TI}{n:Nat}(ht:TIok P t ti)(hk:ti.k = .ar n e)(hte:TIok P e te)
  {ps:Array (Nat×Operand)} (ho:o.op = .build t ps) {xs:List AVal} (hx:VVs (Fr (own φ h) Bw w) ρ xs (ps.toList.map fun p=>a.eval p.2)) {ds:List AVal}
  (hd:fS tb ((List.range n).map fun i=>(i*te.size,e)) ((ps.toList.map (·.1)).zip xs) ti.z=some ds):Good P o a w (Post Bw w0 ρ φ h w new (.agg ds) []):=by
 obtain⟨z,hz,hz1,hz2,hz3⟩:=eC ht w
 obtain⟨d,h1,h2⟩:=ht.hu
 rw[hk]at h2
 simp only[UK]at h2
 subst h2
 obtain⟨i,_,hi,_,hisz,_⟩:=hte.hi
 have hlen:xs.length=ps.toList.length:=by
  have key:∀(xs:List AVal) (vs:List Value),VVs (Fr (own φ h) Bw w) ρ xs vs→xs.length=vs.length:=fun xs=>by
   induction xs with
   | nil=>intro vs hv;cases vs with | nil=>rfl | cons _ _=>exact hv.elim
   | cons x xs ih=>intro vs hv;cases vs with | nil=>exact hv.elim | cons v vs=>simp[ih vs hv.2]
  rw[key _ _ hx,List.length_map]
 have hs:(sizeOf e).run P w = .ok te.size w:=by simp[sizeOf,typeInfo,hi,hisz]
 have hfill:=uW (ρ:=ρ) htb (F:=Fr (own φ h) Bw w) (fs:=(List.range n).map fun i=>(i*te.size,e)) (pl:=fun i=>some (i*te.size,te.size)) (fun j off ft hf=>by
  rw[List.getElem?_map]at hf
  cases hq:(List.range n)[j]? with
  | none=>rw[hq]at hf;cases hf
  | some k =>
   rw[hq]at hf
   simp only[Option.map_some,Option.some.injEq,Prod.mk.injEq]at hf
   obtain⟨hq1,hq2⟩:=List.getElem?_eq_some_iff.1 hq
   simp at hq2
   refine⟨i,by rw[←hf.2];exact hi,?_⟩
   rw[←hf.1,←hq2,hisz]) (ps:=(ps.toList.map (·.1)).zip xs) (vs:=ps.toList.map fun p=>a.eval p.2) (us:=z.cells) hd
  (by rw[List.map_snd_zip (by simp[hlen])];exact hx) (by rw[←hz1];simp) (by rw[←hz1];have:=jU (F:=Fr (own φ h) Bw w) (ρ:=ρ) z.cells.toList;simpa using this)
 obtain⟨us',q1,q2,q3⟩:=hfill
 rw[List.map_fst_zip (by simp[hlen])]at q1
 have hzip:(ps.toList.map (·.1)).zip (ps.toList.map fun p=>a.eval p.2)=(ps.map fun p=>(p.1,a.eval p.2)).toList:=by
  simp[List.zip_map']
 rw[hzip]at q1
 refine Good.of_run (v:= .agg us') (w':=w) ?_ (Post.pure m ?_)
 ·simp only[execOp,ho,Instr.build,Sem.run_bind,hz,Result.andThen_ok,run_underlying h1,hs,q1]
  rfl
 ·simp only[V]
  exact⟨us',rfl,q2,q3⟩
def lenOf(h:Nat→Option Obj):AVal→Option Int
 | .p _ (.slice _) xs=>some xs.length
 | .p _ .str s=>some s.length
 | .nils=>some 0
 | .sl id=>match h id with
  | some (.arr _ _ xs)=>some xs.length
  | some (.fz _ xs)=>some xs.length
  | some (.mat _ _ _ xss _)=>some xss.length
  | some (.bytes _ xs)=>some xs.length
  | _=>none
 | _=>none
theorem aD2(m:Mem Bw w0 ρ φ h w){o:Oper}{a:Act}{t:TypeId}{ti:TI}(ht:TIok P t ti)(hk:(∃e,ti.k = .sl e)∨ti.k = .str){xo:Operand}{x:AVal}(hx:V (Fr (own φ h) Bw w) ρ x (a.eval xo))
  (ho:o.op = .call { callee:= .builtin .len,args:= #[xo],argTypes:= #[t] }) {n:Int} (hl:lenOf h x=some n) (hs:ti.k = .str↔∃β s,x = .p β .str s):Good P o a w (Post Bw w0 ρ φ h w new (.p false (.int .i64) n) []):=by
 obtain⟨d,h1,h2⟩:=ht.hu
 have key:∀ad len cap,a.eval xo = .slice ad len cap→(len:Int)=n→ti.k ≠ .str→Good P o a w (Post Bw w0 ρ φ h w new (.p false (.int .i64) n) []):=fun ad len cap he hn hne=>by
  rcases hk with⟨e,hk⟩ | hk
  ·rw[hk]at h2
   simp only[UK]at h2
   subst h2
   refine Good.of_run (v:= .int .i64 n) (w':=w) ?_ (Post.pure m (eQ _ _ _))
   simp only[execOp,ho,resolve,invoke,builtin,Sem.run_bind,Sem.run_pure,Result.andThen_ok,List.map_toArray,List.map_cons,List.map_nil,he]
   simp[Builtin.len_,run_underlying h1,goInt,hn]
  ·exact absurd hk hne
 unfold lenOf at hl
 split at hl
 ·cases hl
  simp only[V,Vcells]at hx
  obtain⟨_,ad,len,cap,e,⟨hl,_⟩,_⟩:=hx
  refine key ad len cap e.symm (by rw[hl]) (fun e=> ?_)
  obtain⟨_,_,e⟩:=hs.1 e
  cases e
 ·rename_i s
  cases hl
  have hstr:=hs.2 ⟨_,_,rfl⟩
  rw[hstr]at h2
  simp only[UK]at h2
  subst h2
  refine Good.of_run (v:= .int .i64 s.length) (w':=w) ?_ (Post.pure m (eQ _ _ _))
  simp only[execOp,ho,resolve,invoke,builtin,Sem.run_bind,Sem.run_pure,Result.andThen_ok,List.map_toArray,List.map_cons,List.map_nil,vT hx]
  have hsz:(⟨s.toArray⟩:ByteArray).size=s.length:=rfl
  simp[Builtin.len_,run_underlying h1,goInt,hsz]
 ·cases hl
  simp only[V]at hx
  refine key none 0 0 hx rfl (fun e=> ?_)
  obtain⟨_,_,e⟩:=hs.1 e
  cases e
 ·rename_i id
  simp only[V]at hx
  obtain⟨hρ,aa,nn,cc,he⟩:=hx
  have hne:ti.k ≠ .str:=fun e=>by
   obtain⟨_,_,e⟩:=hs.1 e
   cases e
  split at hl
  ·rename_i te A xs hi
   cases hl
   obtain⟨u,q1,hsa,_,cells,r1,_⟩:=m.ob id _ hi
   rw[hρ]at q1
   cases q1
   rcases r1.2 with⟨e,hn⟩ | ⟨g,cap,cur,e,_⟩
   ·exact key none 0 0 e (by rw[hn]) hne
   ·exact key _ _ _ e rfl hne
  ·rename_i A xs hi
   cases hl
   obtain⟨u,q1,q2⟩:=m.ob id _ hi
   rw[hρ]at q1
   cases q1
   simp only[OR,V,Vcells]at q2
   obtain⟨_,ad,len,cap,e,⟨hl,_⟩,_⟩:=q2
   exact key ad len cap e.symm (by rw[hl]) hne
  ·rename_i te e2 A xss ho' hi
   cases hl
   obtain⟨u,q1,hsa,_,_,cells,r1,_⟩:=m.ob id _ hi
   rw[hρ]at q1
   cases q1
   rcases r1.2 with⟨e,hn⟩ | ⟨g,cap,cur,e,_⟩
   ·exact key none 0 0 e (by rw[hn]) hne
   ·exact key _ _ _ e rfl hne
  ·rename_i te xs hi
   cases hl
   obtain⟨u,q1,q2⟩:=m.ob id _ hi
   rw[hρ]at q1
   cases q1
   rcases q2 with⟨e,hn⟩ | ⟨g,cap,cur,mk,e,_⟩
   ·exact key none 0 0 e (by rw[hn];rfl) hne
   ·exact key _ _ _ e rfl hne
  ·cases hl
 ·cases hl
theorem aBV(m:Mem Bw w0 ρ φ h w){o:Oper}{a:Act}{xo:Operand}{cs:List AVal}(hx:V (Fr (own φ h) Bw w) ρ (.tup cs) (a.eval xo)){i:Nat}(ho:o.op = .extract xo i){y:AVal}(hy:cs[i]? = some y):
  Good P o a w (Post Bw w0 ρ φ h w new y []):=by
 simp only[V]at hx
 obtain⟨vs,e,_,hl⟩:=hx
 obtain⟨u,q1,q2⟩:=VL.get hl hy
 refine Good.of_run (v:=u) (w':=w) ?_ (Post.pure m q2)
 simp[execOp,ho,e,Instr.extract,q1]
theorem aAp(m:Mem Bw w0 ρ φ h w){o:Oper}{a:Act}{f:FuncId}{caps:Array Operand}(ho:o.op = .makeFunc (.func f) #[] caps){xs:List AVal}(hx:VVs (Fr (own φ h) Bw w) ρ xs (caps.toList.map a.eval)):
  Good P o a w (Post Bw w0 ρ φ h w new (.fn f xs) []):=by
 refine Good.of_run (v:= .func (.func f) #[] (caps.map a.eval)) (w':=w) (by simp[execOp,ho,Instr.makeFunc]) (Post.pure m ?_)
 simp only[V]
 have key:∀(xs:List AVal) (vs:List Value),VVs (Fr (own φ h) Bw w) ρ xs vs→vs.length=xs.length∧VL (Fr (own φ h) Bw w) ρ xs (fun k u=>vs[k]? = some u):=fun xs=>by
  induction xs with
  | nil=>intro vs hv;cases vs with | nil=>exact⟨rfl,by simp only[VL]⟩ | cons _ _=>exact hv.elim
  | cons x xs ih =>
   intro vs hv
   cases vs with
   | nil=>exact hv.elim
   | cons v vs =>
    obtain⟨q1,q2⟩:=ih vs hv.2
    simp only[VL]
    exact⟨by simp[q1],⟨v,rfl,hv.1⟩,VL.mono (fun _ _ _ h=>h) (fun _ _ h=>h) (fun k u hk=>by simpa using hk) q2⟩
 obtain⟨q1,q2⟩:=key _ _ hx
 exact⟨_,rfl,by simpa using q1,VL.mono (fun _ _ _ h=>h) (fun _ _ h=>h) (fun k u hk=>by simpa using hk) q2⟩
theorem P1(m:Mem Bw w0 ρ φ h w){o:Oper}{a:Act}{t:TypeId}{ti:TI}(ht:TIok P t ti)(hk:ti.k = .str){xo io:Operand}{β β':Bool}{s:List UInt8}(hx:V (Fr (own φ h) Bw w) ρ (.p β .str s) (a.eval xo))
  {k:IntKind} {i:Int} (hi:V (Fr (own φ h) Bw w) ρ (.p β' (.int k) i) (a.eval io)) (ho:o.op = .index t xo io) (h0:0≤i) (h1:i<s.length):Good P o a w (Post Bw w0 ρ φ h w new (.p false (.int .u8) ((s.getD i.toNat 0).toNat:Int)) []):=by
 obtain⟨d,q1,q2⟩:=ht.hu
 rw[hk]at q2
 simp only[UK]at q2
 subst q2
 have hlt:i.toNat<s.length:=by omega
 refine Good.of_run (v:= .int .u8 (s.getD i.toNat 0).toNat) (w':=w) ?_ (Post.pure m (eQ _ _ _))
 have e:(⟨s.toArray⟩:ByteArray)[i.toNat]? = some s[i.toNat]:=by
  rw[getElem?_pos _ _ (by simpa [ByteArray.size]using hlt)]
  simp[ByteArray.getElem_eq_getElem_data]
 simp[execOp,ho,Instr.index,asIntOf,cN hi,vT hx,run_underlying q1,h0,e,hlt]
theorem aAO(m:Mem Bw w0 ρ φ h w){o:Oper}{a:Act}{xo:Operand}{x:AVal}(hx:V (Fr (own φ h) Bw w) ρ x (a.eval xo))(ho:o.op = .move xo∨o.op = .assign xo):Good P o a w (Post Bw w0 ρ φ h w new x []):=by
 rcases ho with ho | ho <;> exact Good.of_run (v:=a.eval xo) (w':=w) (by simp[execOp,ho]) (Post.pure m hx)
theorem G0(m:Mem Bw w0 ρ φ h w){o:Oper}{a:Act}{co xo yo:Operand}{β b:Bool}{x:AVal}(hc:V (Fr (own φ h) Bw w) ρ (.p β .bool b) (a.eval co))(hx:V (Fr (own φ h) Bw w) ρ x (a.eval (if b then xo else yo)))
  (ho:o.op = .pick co xo yo):Good P o a w (Post Bw w0 ρ φ h w new x []):=by
 refine Good.of_run (v:=a.eval (if b then xo else yo)) (w':=w) ?_ (Post.pure m hx)
 cases b <;> simp[execOp,ho,l4 hc,asBool]
end
end Go.Tv
