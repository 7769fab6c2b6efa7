/- Parts of own rows to copy into; functions with bound arguments; == on arrays of numbers. -/
import Derived.Test.YtbedjpdfkmfplaaGreatDoorTvKj
namespace Go.Tv
open Go Go.RowKit
theorem zB{P:Program}{w:World}{t t2 ty e:TypeId}{i:TypeInfo}(ht:P.underlying t=some (.slice e))(hi:P.info? e=some i){g off n cap:Nat}{cur:Array Value}{te:TypeId}
  (hg:w.heap[g]? = some (.cells cur te (0,0))) {ad:Option Addr} {len c:Nat} {cs:List Value} (hcs:cs.length=min len n*i.size) (hnil:ad=none→cs=[])
  (hsrc:∀b,ad=some b→∀j v,cs[j]? = some v→w.cell? (b.add j)=some v) (hfit:off+cs.length≤cur.size) (h1:∀v∈cs,v.oneCell'=true) :
  (Builtin.copy_ #[t,t2] ty #[.slice (some ⟨g,off,none⟩) n cap,.slice ad len c]).run P w =
   .ok (goInt (min len n:Nat)) (w.setRow g (cur.toList.take off++cs++cur.toList.drop (off+cs.length)).toArray):=by
 have hst:=run_storeCells_at P g off te cs 0 cur w hg (by omega) h1
 simp only[Nat.add_zero]at hst
 have hm:Nat.min len n=min len n:=rfl
 cases ad with
 | none =>
  have:=hnil rfl
  subst this
  simp[Builtin.copy_,run_underlying ht,Builtin.lenOf,Builtin.firstCells,sizeOf,typeInfo,hi,hst,hm]
 | some b =>
  have hl:=run_loadCells_list (P:=P) w b cs (hsrc b rfl)
  rw[hcs]at hl
  simp[Builtin.copy_,run_underlying ht,Builtin.lenOf,Builtin.firstCells,sizeOf,typeInfo,hi,hl,hst,hm]
section
variable{P:Program}{Bw:Nat→Prop}{w0:Base P}{ρ:Nat→Option Value}{φ:Nat→Nat→Prop}{h:Nat→Option Obj}{w:World}{new:Nat}
theorem aHm(m:Mem Bw w0 ρ φ h w){id:Nat}{be:TypeId}{A:Ty}{xs:List A.den}(hid:h id=some (.arr be A xs)){v:Value}(hx:V (Fr (own φ h) Bw w) ρ (.sl id) v):∃ad cap,v = .slice ad xs.length cap∧xs.length≤cap:=by
 obtain⟨u,q1,hsa,hA,cells,r1,r2⟩:=m.ob id _ hid
 simp only[V]at hx
 rw[hx.1]at q1
 cases q1
 rcases r1.2 with⟨e,hn0⟩ | ⟨g,cap,cur,e,hb,hg,hnc,_⟩
 ·exact⟨none,0,by rw[e,hn0],by omega⟩
 ·exact⟨_,cap,e,hnc⟩
theorem aCj(m:Mem Bw w0 ρ φ h w){o:Oper}{a:Act}{t e:TypeId}{ti te:TI}(ht:TIok P t ti)(hk:ti.k = .sl e)(hte:TIok P e te){A:Ty}{xo lo:Operand}(ho:o.op = .slice t xo (some lo) none none)
  {id:Nat} {be:TypeId} {xs:List A.den} (hid:h id=some (.arr be A xs)) (hx:V (Fr (own φ h) Bw w) ρ (.sl id) (a.eval xo)) {β:Bool} {k:IntKind} {l:Int} (hl:V (Fr (own φ h) Bw w) ρ (.p β (.int k) l) (a.eval lo))
  (h0:0≤l) (h1:l≤xs.length):Good P o a w (Post Bw w0 ρ φ h w new (.suf id l.toNat te.size) []):=by
 obtain⟨ad,cap,he,hc⟩:=aHm m hid hx
 simp only[V]at hx
 have hrun:=oZ (P:=P) (w:=w) (F:=Fr (own φ h) Bw w) (ρ:=ρ) (a:=a) ht hk hte (ad:=ad) (len:=xs.length) (cap:=cap) (lo:=some lo) (hi:=none) (l:=some l) (r:=none) ⟨β,k,hl⟩ trivial (by simpa using h0) (by simpa using h1) (by simp) hc
 simp only[Option.map_none,Option.map_some,Option.getD_none,Option.getD_some]at hrun
 refine Good.of_run (v:=_) (w':=w) (by simp only[execOp,ho,he,Option.map_none,Option.map_some,Sem.run_bind]at hrun ⊢;rw[hrun];rfl) (Post.pure m ?_)
 simp only[V]
 exact⟨ad,xs.length,cap,by rw[hx.1,he],by omega,hc,by simp⟩
theorem aBJ(m:Mem Bw w0 ρ φ h w){o:Oper}{a:Act}{t t2 e:TypeId}{ti te:TI}(ht:TIok P t ti)(hk:ti.k = .sl e)(hte:TIok P e te){A:Ty}(hT:te.T=some A)
  {xo yo:Operand} {id lo:Nat} {y:AVal} (hx:V (Fr (own φ h) Bw w) ρ (.suf id lo te.size) (a.eval xo)) (hy:V (Fr (own φ h) Bw w) ρ y (a.eval yo)) (ho:o.op = .call { callee:= .builtin .copy,args:= #[xo,yo],argTypes:= #[t,t2] })
  {e':TypeId} {xs ys:List A.den} (hid:h id=some (.arr e' A xs)) (hys:fI h A y=some ys) :
  Good P o a w (Post Bw w0 ρ φ h w new (.p false (.int .i64) ((min ys.length (xs.length - lo):Nat):Int)) [(id,some (.arr e' A (xs.take lo++(ys.take (xs.length - lo)++xs.drop (lo+ys.length)))))]):=by
 obtain⟨i,z,hi,hz,hsize,hbytes,hz1,hz2,hz3⟩:=hte.hi
 obtain⟨hT1,hT2,hT3⟩:=hte.hT A hT
 have hu:=bK ht hk
 have hisz:i.size=A.size:=by rw[hsize,hT1]
 obtain⟨ad,len,c,hve,hlen,hyr,hnil⟩:=jB m hys hy
 obtain⟨u,q1,hsa,hA,cells,r1,r2⟩:=m.ob id _ hid
 simp only[V]at hx
 obtain⟨ax,nx,cx,hx1,hx2,hx3,hx4⟩:=hx
 rw[q1]at hx1
 cases hx1
 subst hlen
 have hnx:nx=xs.length:=by
  rcases r1.2 with⟨hxe,hn⟩ | ⟨g,cap,cur,hxe,_⟩
  ·simp only[Value.slice.injEq]at hxe;omega
  ·simp only[Value.slice.injEq]at hxe;exact hxe.2.1
 subst hnx
 by_cases hcount:min ys.length (xs.length - lo)=0
 ·-- nothing to copy
  have hsame:xs.take lo++(ys.take (xs.length - lo)++xs.drop (lo+ys.length))=xs:=by
   rcases Nat.eq_zero_or_pos ys.length with e0 | e0
   ·have:ys=[]:=List.eq_nil_of_length_eq_zero e0
    subst this
    simp
   ·have:xs.length - lo=0:=by omega
    rw[this,List.take_of_length_le (by omega),List.drop_of_length_le (by omega)]
    simp
  have hrun:(Builtin.copy_ #[t,t2] o.type #[a.eval xo,a.eval yo]).run P w = .ok (goInt (min ys.length (xs.length - lo):Nat)) w:=by
   rw[hx4,hve]
   have key:∀(d:Option Addr),(Builtin.copy_ #[t,t2] o.type #[.slice d (xs.length - lo) (cx - lo),.slice ad ys.length c]).run P w = .ok (goInt (min ys.length (xs.length - lo):Nat)) w:=fun d=>by
    have hm:Nat.min ys.length (xs.length - lo)=0:=hcount
    have hl0:∀b:Addr,(loadCells b 0).run P w = .ok #[] w:=fun b=>by
     have:=run_loadCells_list (P:=P) w b [] (fun j v hj=>by simp at hj)
     simpa using this
    cases d <;> cases ad <;> simp[Builtin.copy_,run_underlying hu,Builtin.lenOf,Builtin.firstCells,sizeOf,typeInfo,hi,hm,hcount,hl0,storeCells]
   exact key _
  refine Good.of_run (v:=goInt (min ys.length (xs.length - lo):Nat)) (w':=w) (by simp only[execOp,ho,resolve,invoke,builtin,Sem.run_bind,Sem.run_pure,Result.andThen_ok,List.map_toArray,List.map_cons,List.map_nil,hrun]) ?_
  have hself:apply [(id,some (Obj.arr e' A (xs.take lo++(ys.take (xs.length - lo)++xs.drop (lo+ys.length)))))] h=h:=by
   rw[hsame]
   funext k
   simp only[apply,upd]
   split
   ·rename_i e2;rw[e2,hid]
   ·rfl
  have hv:V (Fr (own φ h) Bw w) ρ (.p false (.int .i64) ((min ys.length (xs.length - lo):Nat):Int)) (goInt (min ys.length (xs.length - lo):Nat)):=by
   simp only[V,Vcells]
   exact⟨rfl,rfl⟩
  refine⟨ρ,φ,by rw[hself];exact m,by rw[hself];exact fun _ _ _ h=>h,fun _ _ h=>h,fun _ _ h=> .inl h,?_⟩
  rw[hself]
  exact hv
 ·rcases r1.2 with⟨hxe,hn⟩ | ⟨g,cap,cur,hxe,_,hheap,hncap,hcapm,hcsz,htake⟩
  ·omega
  simp only[Value.slice.injEq]at hxe
  obtain⟨rfl,_,rfl⟩:=hxe
  have hyl:0<ys.length:=by omega
  obtain⟨b,hb1,_⟩:=hyr 0 hyl
  subst hb1
  obtain⟨news,n1,n2,n3⟩:=mY (g:=fun k v=>w.cell? (b.add k)=some v) (fun i hi'=>by
   obtain⟨b',e1,e2⟩:=hyr i hi'
   cases e1
   exact e2)
  have hone:=qW n1 n3
  have hcl:cells.length=xs.length*A.size:=r1.1
  have hcapb:xs.length*A.size≤cx*A.size:=Nat.mul_le_mul_right _ hncap
  generalize hcnt:min ys.length (xs.length - lo)=cnt at *
  have hc1:cnt≤ys.length:=by omega
  have hc2:lo+cnt≤xs.length:=by omega
  have hm1:cnt*A.size≤ys.length*A.size:=Nat.mul_le_mul_right _ hc1
  have hm2:lo*A.size+cnt*A.size≤xs.length*A.size:=by rw[←Nat.add_mul];exact Nat.mul_le_mul_right _ hc2
  let cs:=news.take (cnt*A.size)
  have hcs:cs.length=cnt*A.size:=by
   simp only[cs,List.length_take,n1];omega
  have hax:a.eval xo = .slice (some ⟨g,lo*A.size,none⟩) (xs.length - lo) (cx - lo):=by
   rw[hx4,if_neg (by omega)]
   simp only[Option.map_some]
   rw[dA,Nat.zero_add,hT1]
  have hrun:=zB (P:=P) (w:=w) (t2:=t2) (ty:=o.type) hu hi hheap (off:=lo*A.size) (n:=xs.length - lo) (cap:=cx - lo) (ad:=some b) (len:=ys.length) (c:=c) (cs:=cs) (by rw[hcs,hisz,hcnt])
   (fun e1=>by cases e1)
   (fun b' e1 j v hj=>by
    cases e1
    refine n2 j v ?_
    simp only[cs,List.getElem?_take]at hj
    split at hj
    ·exact hj
    ·cases hj) (by rw[hcs,hcsz];omega) (fun v hv=>hone v (List.mem_of_mem_take hv))
  refine Good.of_run (v:=_) (w':=_) (by simp only[execOp,ho,resolve,invoke,builtin,Sem.run_bind,Sem.run_pure,Result.andThen_ok,List.map_toArray,List.map_cons,List.map_nil,hax,hve,hrun];rfl) ?_
  have hlen2:(xs.take lo++(ys.take (xs.length - lo)++xs.drop (lo+ys.length))).length=xs.length:=by simp only[List.length_append,List.length_take,List.length_drop];omega
  rw[hcnt]
  refine dT m (some id) id (.arr e' A (xs.take lo++(ys.take (xs.length - lo)++xs.drop (lo+ys.length)))) (.slice (some ⟨g,0,none⟩) xs.length cx) (some g) (bL w g _) (fun k e1=>⟨id,_,rfl,hid,rfl,hsa _ (by simpa [jT]using e1)⟩) (.inr ⟨rfl,q1⟩)
   (fun _ k hk'=> .inr (by simpa [jT]using hk')) (fun F' ρ' hF hρ=> ?_) (by rw[bE];rfl) (fun e1=>by rw[q1]at e1;cases e1) (fun F' ρ' hF hρ hnew=>by simp only[V,Vcells];exact⟨rfl,rfl⟩)
  refine⟨fun _ h=>h,hA,cells.take (lo*A.size)++cs++cells.drop (lo*A.size+cs.length),⟨?_,.inr ⟨g,cx,_,?_,Nat.zero_le _,setRow_heap w g cur _ e' _ hheap,?_,hcapm,?_,?_⟩⟩,fun j hj=> ?_⟩
  ·simp only[List.length_append,List.length_take,List.length_drop,hcs,hcl,hlen2];omega
  ·rw[hlen2]
  ·rw[hlen2];exact hncap
  ·simp only[List.size_toArray,List.length_append,List.length_take,List.length_drop,Array.length_toList,hcs];omega
  ·rw[hlen2,←htake]
   have:=I7 (l:=cur.toList) (vs:=cs) (p:=lo*A.size) (m:=cs.length) (n:=xs.length*A.size) rfl (by omega) (by simp only[Array.length_toList];omega)
   simpa using this
  ·rw[hlen2]at hj
   have hjb:j*A.size+A.size≤xs.length*A.size:=by rw[←Nat.succ_mul];exact Nat.mul_le_mul_right _ hj
   by_cases hj1:j<lo
   ·have hjlo:j*A.size+A.size≤lo*A.size:=by rw[←Nat.succ_mul];exact Nat.mul_le_mul_right _ hj1
    have e1:(xs.take lo++(ys.take (xs.length - lo)++xs.drop (lo+ys.length)))[j]'(by rw[hlen2];exact hj)=xs[j]:=by
     rw[List.getElem_append_left (by simp only[List.length_take];omega)]
     simp
    rw[e1]
    refine Vcells.mono (hF _) (fun _ _ h=>h) (Vcells.monoLt (fun k v hk' hv=> ?_) (r2 j hj))
    rw[getElem?_splice_ne (n:=cs.length) (by omega) rfl (.inl (by omega))]
    exact hv
   ·by_cases hj2:j<lo+cnt
    ·have e1:(xs.take lo++(ys.take (xs.length - lo)++xs.drop (lo+ys.length)))[j]'(by rw[hlen2];exact hj)=ys[j - lo]'(by omega):=by
      rw[List.getElem_append_right (by simp only[List.length_take];omega),List.getElem_append_left (by simp only[List.length_take];omega)]
      simp only[List.length_take,List.getElem_take]
      congr 1
      omega
     rw[e1]
     refine Vcells.mono (hF _) (fun _ _ h=>h) (Vcells.monoLt (fun k v hk' hv=> ?_) (n3 (j - lo) (by omega)))
     have hb1:lo*A.size≤j*A.size:=Nat.mul_le_mul_right _ (by omega)
     have hb2:(j - lo)*A.size=j*A.size - lo*A.size:=Nat.sub_mul _ _ _
     have hb3:(j - lo)*A.size+A.size≤cnt*A.size:=by rw[←Nat.succ_mul];exact Nat.mul_le_mul_right _ (by omega)
     rw[List.append_assoc,List.getElem?_append_right (by simp only[List.length_take];omega),List.getElem?_append_left (by simp only[List.length_take,hcs,hcl];omega)]
     simp only[cs,List.getElem?_take,List.length_take,hcl]
     rw[if_pos (by omega),←hv]
     congr 1
     omega
    ·have hcy:cnt=ys.length:=by omega
     have e1:(xs.take lo++(ys.take (xs.length - lo)++xs.drop (lo+ys.length)))[j]'(by rw[hlen2];exact hj)=xs[j]:=by
      rw[List.getElem_append_right (by simp only[List.length_take];omega),List.getElem_append_right (by simp only[List.length_take];omega)]
      simp only[List.length_take,List.getElem_drop]
      congr 1
      omega
     rw[e1]
     refine Vcells.mono (hF _) (fun _ _ h=>h) (Vcells.monoLt (fun k v hk' hv=> ?_) (r2 j hj))
     have hb1:(lo+cnt)*A.size≤j*A.size:=Nat.mul_le_mul_right _ (by omega)
     rw[Nat.add_mul]at hb1
     rw[getElem?_splice_ne (n:=cs.length) (by omega) rfl (.inr (by rw[hcs];omega))]
     exact hv
theorem aAE(m:Mem Bw w0 ρ φ h w){o:Oper}{a:Act}{f:FuncId}{fs:Array Operand}(ho:o.op = .makeFunc (.func f) fs #[]){xs:List AVal}(hx:VVs (Fr (own φ h) Bw w) ρ xs (fs.toList.map a.eval)):
  Good P o a w (Post Bw w0 ρ φ h w new (.bfn f xs) []):=by
 refine Good.of_run (v:= .func (.func f) (fs.map a.eval) #[]) (w':=w) (by simp[execOp,ho,Instr.makeFunc]) (Post.pure m ?_)
 simp only[V]
 have key:∀(xs:List AVal) (vs:List Value),VVs (Fr (own φ h) Bw w) ρ xs vs→vs.length=xs.length∧VL (Fr (own φ h) Bw w) ρ xs (fun k u=>vs[k]? = some u):=fun xs=>by
  induction xs with
  | nil=>intro vs hv;cases vs with | nil=>exact⟨rfl,by simp only[VL]⟩ | cons _ _=>exact hv.elim
  | cons x xs ih =>
   intro vs hv
   cases vs with
   | nil=>exact hv.elim
   | cons v vs =>
    obtain⟨q1,q2⟩:=ih vs hv.2
    simp only[VL]
    exact⟨by simp[q1],⟨v,rfl,hv.1⟩,VL.mono (fun _ _ _ h=>h) (fun _ _ h=>h) (fun k u hk=>by simpa using hk) q2⟩
 obtain⟨q1,q2⟩:=key _ _ hx
 exact⟨_,rfl,by simpa using q1,VL.mono (fun _ _ _ h=>h) (fun _ _ h=>h) (fun k u hk=>by simpa using hk) q2⟩
theorem aEE(m:Mem Bw w0 ρ φ h w){o:Oper}{a:Act}{fo:Operand}{argo:Array Operand}{tys:Array TypeId}(ho:o.op = .call { callee:= .value fo,args:=argo,argTypes:=tys })
  {f:FuncId} {fs:List AVal} (hf:V (Fr (own φ h) Bw w) ρ (.bfn f fs) (a.eval fo)) {xs:List AVal} (hx:VVs (Fr (own φ h) Bw w) ρ xs (argo.toList.map a.eval)) {args:List AVal} (hl:sP h (fs++xs)=some args)
  {r:AVal} (hp:Pure P f args r):Good P o a w (Post Bw w0 ρ φ h w new r []):=by
 simp only[V]at hf
 obtain⟨vs,hfe,hvs,hfs⟩:=hf
 obtain⟨fn,hfn,hname,hbody⟩:=hp.fn
 have hlist:∀(cs:List AVal) (us:List Value) (ys:List AVal) (ws:List Value),us.length=cs.length→VL (Fr (own φ h) Bw w) ρ cs (fun k u=>us[k]? = some u)→VVs (Fr (own φ h) Bw w) ρ ys ws→VVs (Fr (own φ h) Bw w) ρ (cs++ys) (us++ws):=fun cs=>by
  induction cs with
  | nil=>intro us ys ws hl _ hv;cases us with | nil=>exact hv | cons _ _=>simp at hl
  | cons c cs ih =>
   intro us ys ws hl hv hy
   cases us with
   | nil=>simp at hl
   | cons u us =>
    simp only[VL]at hv
    obtain⟨⟨u',q1,q2⟩,q3⟩:=hv
    simp at q1
    subst q1
    exact⟨q2,ih us ys ws (by simpa using hl) (VL.mono (fun _ _ _ h=>h) (fun _ _ h=>h) (fun k u hk=>by simpa using hk) q3) hy⟩
 have hargs:=vJ m Lends.all hl (hlist fs vs.toList xs _ (by simpa using hvs) (VL.mono (fun _ _ _ h=>h) (fun _ _ h=>h) (fun k u hk=>by simpa using hk) hfs) hx)
 have hbw:∀k,wK φ h Bw k→k<w.heap.size:=fun k hk=>by
  rcases hk with hk | hk
  ·exact m.own_lt hk
  ·exact Nat.lt_of_lt_of_le (w0.lt k (m.bw k hk)) m.kp.size
 have hcall:=hp.calls (wK φ h Bw) w (vs++argo.map a.eval) m.kp.laid hbw (by simpa using hargs)
 refine Good.of_call (f:=f) (args:=vs++argo.map a.eval) (w':=w) ?_ (hcall.mono fun e w' ⟨v,he,hb,hv⟩=>⟨v,he,ρ,φ,?_,?_,fun _ _ h=>h,fun _ _ h=> .inl h,?_⟩)
 ·have n1:¬fn.name = "runtime.NumGoroutine" :=by simpa using hname
  have n2:¬fn.body=none:=fun e=>by rw[e]at hbody;cases hbody
  simp[execOp,ho,resolve,hfe,Deferred.ofValue,invoke,callFunc,hfn,n1,n2]
 ·have hF:∀β a v,Fr (own φ h) Bw w β a v→Fr (own φ h) Bw w' β a v:=fun β a v=>Fr.evo (fun k hk _=>hb.block k hk) (fun k hk=> .inl hk) β a v
  refine⟨fun id ob hid=> ?_,fun id o k h1 h2 h3=>Nat.lt_of_lt_of_le (m.lt id o k h1 h2 h3) hb.size,m.dj,m.bw,m.ow,m.kp.ofBelow hb,m.pin⟩
  obtain⟨u,q1,q2⟩:=m.ob id ob hid
  exact⟨u,q1,OR.mono hF (fun _ _ h=>h) (fun _ h=>h) (fun hl k hk=>hb.block k (m.lt id ob k hid hl hk)) q2⟩
 ·exact fun β a v=>Fr.evo (fun k hk _=>hb.block k hk) (fun k hk=> .inl hk) β a v
 ·refine V.mono (fun β a u hu=> ?_) (fun _ _ h=>by cases h) hv
  exact⟨fun e=>hu.2.1 rfl (.inl e),fun _ e=>hu.2.1 rfl (.inr e),hu.2.2⟩
theorem aGw{t e:TypeId}{ti te:TI}{n:Nat}{k:IntKind}(ht:TIok P t ti)(hk:ti.k = .ar n e)(hte:TIok P e te)(hek:te.k = .int k)(a b:Arr n):
  (Op.equal t (.agg (a.1.map (Value.int k)).toArray) (.agg (b.1.map (Value.int k)).toArray)).run P w = .ok (aeq a b) w:=by
 obtain⟨d,hd1,hd2⟩:=ht.hu
 rw[hk]at hd2
 simp only[UK]at hd2
 subst hd2
 obtain⟨d2,he1,he2⟩:=hte.hu
 rw[hek]at he2
 simp only[UK]at he2
 subst he2
 obtain⟨i,z,hi,_,hsz,_⟩:=hte.hi
 have hs1:te.size=1:=hte.ha (by rw[hek];rfl)
 have hc:P.cellsOf e=1:=by simp[Program.cellsOf,hi,hsz,hs1]
 obtain⟨r,r1,r2⟩:=sB (P:=P) he1 9998 w (l1:=a.1) (l2:=b.1) (List.range n) (fun i hi=>by simp at hi;rw[a.2,b.2];omega)
 have hr:r=aeq a b:=by
  rw[Bool.eq_iff_iff,r2]
  unfold aeq
  rw[beq_iff_eq]
  constructor
  ·intro hh
   refine List.ext_getElem? fun i=> ?_
   rcases Nat.lt_or_ge i n with h1 | h1
   ·exact hh i (by simpa using h1)
   ·rw[List.getElem?_eq_none (by rw[a.2];exact h1),List.getElem?_eq_none (by rw[b.2];exact h1)]
  ·intro hh i _
   rw[hh]
 unfold Op.equal Op.maxDepth
 rw[show(10000:Nat)=9999+1 from rfl,run_equalIn_array w 9999 _ _ hd1 hi,hc,←hr]
 exact r1
end
end Go.Tv
