/- Maps that are cleared; room of nothing; noughts put behind nothing. -/
import Derived.Test.YtbedjpdfkmfplaaGreatDoorTvKl
import Derived.Lib.AppendZerosOnto
namespace Go.Tv
open Go Go.RowKit
open Go.MapKept (run_setObj_map heap_set)
section
variable{P:Program}{tb:Tab}{Bw:Nat→Prop}{w0:Base P}{ρ:Nat→Option Value}{φ:Nat→Nat→Prop}{h:Nat→Option Obj}{w:World}{new:Nat}
theorem aEZ(m:Mem Bw w0 ρ φ h w){o:Oper}{a:Act}{t kt et:TypeId}{ti:TI}(ht:TIok P t ti)(hk:ti.k = .mp kt et){xo:Operand}(ho:o.op = .call { callee:= .builtin .clear,args:= #[xo],argTypes:= #[t] })
  {id:Nat} {K A:Ty} {kv:List (K.den×A.den)} (hi:h id=some (.mpo K A kv)) (hx:V (Fr (own φ h) Bw w) ρ (.mp id) (a.eval xo)) :
  Good P o a w (Post Bw w0 ρ φ h w new (.tup []) [(id,some (.mpo K A []))]):=by
 obtain⟨r,es,clock,e1,hρ,hφ,hb,⟨hK,hB⟩,hkeys,hnd,hvals⟩:=F5 m hi hx
 obtain⟨dm,hm,hmk⟩:=ht.hu
 rw[hk]at hmk
 simp only[UK]at hmk
 subst hmk
 refine Good.of_run (v:= .tuple #[]) (w':= { w with heap:=w.heap.setIfInBounds r (.map #[] clock) }) ?_ ?_
 ·simp only[execOp,ho,resolve,invoke,builtin,Sem.run_bind,Sem.run_pure,Result.andThen_ok,List.map_toArray,List.map_cons,List.map_nil,e1]
  simp[Builtin.clear_,run_underlying hm,Go.MapKept.run_getObj_map hb,run_setObj_map _ hb,Result.andThen]
 ·refine fT m (some id) id (.mpo K A []) (.map (some r)) (φ id) (some r) (iF w r _) (fun k e=>⟨id,_,rfl,hi,rfl,by cases e;exact hφ⟩) (.inr ⟨rfl,hρ⟩)
   (fun _ k hk=>Nat.lt_of_lt_of_le (m.lt id _ k hi rfl hk) (iF w r _).size) (fun _ k hk=> .inr ⟨id,_,rfl,hi,rfl,hk⟩) (fun F' ρ' hF hρ'=> ?_) (by rw[bE];rfl) (fun e=>by rw[hρ]at e;cases e) (fun F' ρ' hF hρ hnew=> ?_)
  ·exact⟨r,#[],clock,rfl,hφ,(heap_set hb).1,⟨hK,List.nodup_nil,fun e he=>by cases he⟩,rfl,List.nodup_nil,fun i hi=>absurd hi (by simp)⟩
  ·simp only[V,VL]
   exact⟨#[],rfl,rfl,trivial⟩
theorem aC6(m:Mem Bw w0 ρ φ h w){o:Oper}{a:Act}{t e:TypeId}{ti:TI}(ht:TIok P t ti)(hk:ti.k = .sl e){xo:Operand}(ho:o.op = .call { callee:= .builtin .cap,args:= #[xo],argTypes:= #[t] })
  (hx:V (Fr (own φ h) Bw w) ρ .nils (a.eval xo)):Good P o a w (Post Bw w0 ρ φ h w new (.p false (.int .i64) (0:Int)) []):=by
 have hu:=bK ht hk
 simp only[V]at hx
 refine Good.of_run (v:= .int .i64 0) (w':=w) ?_ (Post.pure m (eQ _ _ _))
 simp only[execOp,ho,resolve,invoke,builtin,Sem.run_bind,Sem.run_pure,Result.andThen_ok,List.map_toArray,List.map_cons,List.map_nil,hx]
 simp[Builtin.cap_,run_underlying hu,goInt]
theorem T3{G:Addr→Value→Prop}{A:Ty}{z:Array Value}(hz:z.size=A.size)(h:Vcells G A A.zero (fun k u=>z.toList[k]? = some u)){n:Nat}:∀j (hj:j<(List.replicate n A.zero).length),Vcells G A (List.replicate n A.zero)[j] (fun k v=>(Builtin.zeroCells z n).toList[j*A.size+k]? = some v):=fun j hj=>by
 simp only[List.length_replicate]at hj
 simp only[List.getElem_replicate]
 refine Vcells.monoLt (fun k v hk hv=> ?_) h
 have hjb:j*A.size+A.size≤n*A.size:=by
  rw[←Nat.succ_mul];exact Nat.mul_le_mul_right _ hj
 rw[Array.getElem?_toList]
 have e1:(Builtin.zeroCells z n)[j*A.size+k]? = some (z[(j*A.size+k) % z.size]!):=by
  have:j*A.size+k<n*z.size:=by rw[hz];omega
  simp[Builtin.zeroCells,this]
 rw[e1,hz,Nat.mul_comm,Nat.mul_add_mod,Nat.mod_eq_of_lt hk]
 have hk':k<z.size:=by omega
 simp only[Array.getElem?_toList]at hv
 rw[Array.getElem?_eq_getElem hk']at hv
 simp only[Option.some.injEq]at hv
 simp[hk',hv]
theorem G6{t u ty e:TypeId}{i:TypeInfo}{z:Value}{k0 kl:IntKind}(ht:P.underlying t=some (.slice e))(hu:P.underlying u=some (.int k0))(hi:P.info? e=some i)(hz:i.zero=some z)
  (hzs:z.cells.size=i.size) (hsz:0<i.size) (hz1:∀c∈z.cells.toList,c.oneCell'=true) {v:Value} {n:Nat} {xs:List Value} (hown:w.ownsRow 0 e i.size v n xs) (k:Nat)
  (h63:n+k≤maxLen) (hbytes:(n+k)*i.bytes≤140737488355328) :
  ∃v' w',(Builtin.append_ #[t,u] ty #[v,.int kl k]).run P w = .ok v' w'∧w'.ownsRow 0 e i.size v' (n+k) (xs++(Builtin.zeroCells z.cells k).toList)∧w.grownBy w' v.ownBlock ∧
   ∀b,v'.ownBlock=some b→w.heap.size≤b∨v.ownBlock=some b:=by
 have hsmall:n+k≤9223372036854775807:=by simp only[maxLen]at h63;omega
 have hw:IntKind.i64.wrap (k:Int)=k:=by rw[IntKind.wrap_i64];omega
 have hneg:¬((k:Int)<0):=by omega
 have hkb:k*i.bytes≤140737488355328:=Nat.le_trans (Nat.mul_le_mul_right _ (by omega)) hbytes
 have h48i:¬(281474976710656<(k:Int)*(i.bytes:Int)):=by
  rw[←Int.natCast_mul]
  omega
 have hzc:(Builtin.zeroCells z.cells k).toList.length=k*i.size:=by rw[Array.length_toList,size_zeroCells,hzs]
 by_cases hk:k=0
 ·subst hk
  have hw0:IntKind.i64.wrap 0=0:=rfl
  have e0:(Builtin.zeroCells z.cells 0).toList=[]:=List.eq_nil_of_length_eq_zero (by rw[hzc];omega)
  refine⟨v,w,?_,by rw[e0,List.append_nil];exact hown,⟨rfl,rfl,rfl,Nat.le_refl _,fun _ _ _=>rfl⟩,fun b hb=> .inr hb⟩
  rcases hown.2 with⟨rfl,rfl⟩ | ⟨g,cap,cur,rfl,_,hg,hnc,_⟩
  ·simp[Builtin.append_,run_underlying ht,run_underlying hu,sizeOf,typeInfo,hi,asInt,asIntOf,hw0]
  ·simp[Builtin.append_,run_underlying ht,run_underlying hu,sizeOf,typeInfo,hi,asInt,asIntOf,hw0,hnc,storeCells]
 have hns:¬(k*i.size=0):=Nat.mul_ne_zero hk (by omega)
 have hlen:(xs++(Builtin.zeroCells z.cells k).toList).length=(n+k)*i.size:=by rw[List.length_append,hown.1,hzc,Nat.add_mul]
 have grown:∀(old:Nat) (row:Option Nat) (w':World),w'=w.drew.alloc (.cells (xs.toArray++Builtin.zeroCells z.cells k++Builtin.zeroCells z.cells (grownCap w (n+k) old e - (n+k))) e) →
   w'.ownsRow 0 e i.size (.slice (some ⟨w.heap.size,0,none⟩) (n+k) (grownCap w (n+k) old e)) (n+k) (xs++(Builtin.zeroCells z.cells k).toList)∧w.grownBy w' row:=by
  rintro old row w' rfl
  have hge:=grownCap_ge w (n+k) old e
  have hcm:grownCap w (n+k) old e≤maxLen:=grownCap_le_maxLen w (n+k) old e h63
  refine⟨⟨hlen,.inr ⟨w.heap.size,_,_,rfl,Nat.zero_le _,heap_alloc_new w.drew _,hge,hcm,?_,?_⟩⟩,⟨rfl,rfl,rfl,by simp,fun k hk _=>heap_alloc_old w.drew _ hk⟩⟩
  ·simp only[Array.size_append,List.size_toArray,size_zeroCells,hzs,hown.1,←Nat.add_mul]
   congr 1
   omega
  ·simp only[Array.toList_append]
   rw[←hlen]
   exact List.take_left
 rcases hown.2 with⟨rfl,rfl⟩ | ⟨g,cap,cur,rfl,_,hg,hnc,hcm,hcs,htake⟩
 ·have hx:xs=[]:=List.eq_nil_of_length_eq_zero (by simpa using hown.1)
  subst hx
  have hr:=Lib.run_append_nil_zeros (P:=P) w t u ty e i z kl k0 ht hu hi hz k (by omega) hsz (by omega) (by omega)
  have hgr:=grown 0 (Value.ownBlock (.slice none 0 0)) _ rfl
  simp only[Nat.zero_add,List.nil_append,Array.empty_append]at hgr ⊢
  exact⟨_,_,hr,hgr.1,hgr.2,fun b hb=> .inl (by simp only[Value.ownBlock,Option.some.injEq]at hb;omega)⟩
 ·by_cases hroom:n+k≤cap
  ·have hfit:n*i.size+(Builtin.zeroCells z.cells k).toList.length≤cur.size:=by rw[hzc,hcs,←Nat.add_mul];exact Nat.mul_le_mul_right _ hroom
   have hst:=run_storeCells_at P g (n*i.size) e (Builtin.zeroCells z.cells k).toList 0 cur w hg (by simpa using hfit) (fun c hc=>by
    simp only[Builtin.zeroCells,Array.toList_map,List.mem_map]at hc
    obtain⟨j,_,rfl⟩:=hc
    have hlt:j % z.cells.size<z.cells.size:=Nat.mod_lt _ (by omega)
    rw[getElem!_pos z.cells (j % z.cells.size) hlt]
    exact hz1 _ (by simp))
   simp only[Nat.add_zero]at hst
   refine⟨.slice (some ⟨g,0,none⟩) (n+k) cap,_,?_,⟨hlen,.inr ⟨g,cap,_,rfl,Nat.zero_le _,setRow_heap w g cur (cur.toList.take (n*i.size)++(Builtin.zeroCells z.cells k).toList++cur.toList.drop (n*i.size+(Builtin.zeroCells z.cells k).toList.length)).toArray e _ hg,hroom,hcm,?_,?_⟩⟩,⟨rfl,rfl,rfl,by simp,fun k _ hk=>setRow_other w g k _ (fun e=>hk (by simp[Value.ownBlock,e]))⟩,fun b hb=> .inr hb⟩
   ·simp[Builtin.append_,run_underlying ht,run_underlying hu,sizeOf,typeInfo,zeroValue,hi,hz,asInt,asIntOf,hw,hneg,h48i,hns,hroom,Addr.add_lit,hst]
   ·simp only[List.size_toArray,List.length_append,List.length_take,List.length_drop,Array.length_toList]at hfit ⊢
    omega
   ·rw[htake,←hlen]
    exact List.take_left
  ·have holds:∀j u,xs[j]? = some u→w.cell? ((⟨g,0,none⟩:Addr).add j)=some u:=hown.cells (g:=g) rfl
   have hfo:=run_firstCells_some (P:=P) w.drew i.size n ⟨g,0,none⟩ n cap xs hown.1 (by simpa using holds)
   have hr:=Lib.run_append_grow_zeros (P:=P) w t u ty e i z kl k0 ht hu hi hz (some ⟨g,0,none⟩) n cap xs hfo k (by omega) hsz (by omega) (by omega) (by omega) (growslice_fits (by omega) hbytes)
   have hgr:=grown cap (Value.ownBlock (.slice (some ⟨g,0,none⟩) n cap)) _ rfl
   exact⟨_,_,hr,hgr.1,hgr.2,fun b hb=> .inl (by simp only[Value.ownBlock,Option.some.injEq]at hb;omega)⟩
theorem aBj(m:Mem Bw w0 ρ φ h w)(hn:ρ new=none){o:Oper}{a:Act}{t e u:TypeId}{ti te tu:TI}(ht:TIok P t ti)(hk:ti.k = .sl e)(hte:TIok P e te){A:Ty}(hT:te.T=some A)(h0:0<A.size)
  (htu:TIok P u tu) {k0:IntKind} (hku:tu.k = .int k0) {xo yo:Operand} (ho:o.op = .call { callee:= .builtin .append,args:= #[xo,yo],argTypes:= #[t,u] })
  {x:AVal} (hx:V (Fr (own φ h) Bw w) ρ x (a.eval xo)) {β:Bool} {kl:IntKind} {l:Int} (hl:V (Fr (own φ h) Bw w) ρ (.p β (.int kl) l) (a.eval yo)) {xs:List A.den} {i0:Option Nat} {us:jJ}
  (hxs:(x = .nils∧xs=[]∧i0=none∧us=[(new,some (.arr e A (xs++List.replicate l.toNat A.zero)))])∨(∃id,x = .sl id∧h id=some (.arr e A xs)∧i0=some id∧us=[(id,none),(new,some (.arr e A (xs++List.replicate l.toNat A.zero)))]))
  (h1:0≤l) (hb:(xs.length+l.toNat)*te.bytes≤140737488355328) (hb':xs.length+l.toNat≤9223372036854775807) :
  Good P o a w (Post Bw w0 ρ φ h w new (.sl new) us):=by
 obtain⟨i,z,hi,hz,hsize,hbytes,hz1,hz2,hz3⟩:=hte.hi
 obtain⟨hT1,hT2,hT3⟩:=hte.hT A hT
 have hu:=bK ht hk
 have hisz:i.size=A.size:=by rw[hsize,hT1]
 obtain⟨du,hud,hukd⟩:=htu.hu
 rw[hku]at hukd
 simp only[UK]at hukd
 subst hukd
 obtain⟨n,rfl⟩:∃n:Nat,l=(n:Int):=⟨l.toNat,by omega⟩
 rw[Int.toNat_natCast]at hb hb' hxs
 obtain⟨cells,v,hv,hrow,hrows,hI0⟩:∃cells v,a.eval xo=v∧w.ownsRow 0 e A.size v xs.length cells ∧
   (∀i (h':i<xs.length),Vcells (Fr (own φ h) Bw w false) A xs[i] (fun k v=>cells[i*A.size+k]? = some v)) ∧
   ∀k,v.ownBlock=some k→∃i o,i0=some i∧h i=some o∧o.live=true∧φ i k:=by
  rcases hxs with⟨rfl,rfl,rfl,_⟩ | ⟨id,rfl,hid,rfl,_⟩
  ·simp only[V]at hx
   exact⟨[],_,hx,World.ownsRow_nil w 0 e _,fun i hi=>absurd hi (by simp),fun k hk=>by cases hk⟩
  ·simp only[V]at hx
   obtain⟨u,q1,hsa,_,cells,r1,r2⟩:=m.ob id _ hid
   rw[hx.1]at q1
   cases q1
   obtain⟨_,aa,nn,cc,he⟩:=hx
   exact⟨cells,_,rfl,r1,r2,fun k hk'=>⟨id,_,rfl,hid,rfl,hsa _ (by rw[iS he];exact hk')⟩⟩
 have happ:apply us h=upd (fun i=>if i0=some i then none else h i) new (some (.arr e A (xs++List.replicate n A.zero))):=by
  rcases hxs with⟨_,rfl,rfl,rfl⟩ | ⟨id,_,_,rfl,rfl⟩
  ·rw[bQ];rfl
  ·rw[M8];rfl
 have hrow':w.ownsRow 0 e i.size v xs.length cells:=by rw[hisz];exact hrow
 have hzsz:z.cells.size=A.size:=by rw[hz2,←hT1]
 obtain⟨v',w',hr,h2,h3,h4⟩:=G6 (P:=P) (t:=t) (u:=u) (ty:=o.type) (kl:=kl) (k0:=k0) hu hud hi hz (by rw[hzsz,hisz]) (by omega) hz3 hrow' n (by unfold maxLen;omega) (by rw[hbytes];exact hb)
 have hvs:∃aa nn cc,v' = .slice aa nn cc:=by
  rcases h2.2 with⟨e,_⟩ | ⟨g,cap,cur,e,_⟩ <;> exact⟨_,_,_,e⟩
 have hy:=cN hl
 refine Good.of_run (v:=v') (w':=w') ?_ ?_
 ·simp only[execOp,ho,resolve,invoke,builtin,Sem.run_bind,Sem.run_pure,Result.andThen_ok,List.map_toArray,List.map_cons,List.map_nil,hv,hy,hr]
 ·obtain⟨aa,nn,cc,hve'⟩:=hvs
  refine dT m i0 new (.arr e A (xs++List.replicate n A.zero)) v' v.ownBlock h3 hI0 (.inl hn) (fun _ k hk'=>h4 k (by rw[←iS hve'];exact hk')) (fun F' ρ' hF hρ=> ?_) happ (fun _=>rfl) (fun F' ρ' hF hρ hnew=> ?_)
  ·have hzz:Vcells (F' false) A A.zero (fun k u=>z.cells.toList[k]? = some u):=by
    have:=jU (F:=F') (ρ:=ρ') z.cells.toList
    rw[hz1]at this
    exact(dK hT3 this).1
   refine⟨fun _ h=>h,h0,cells++(Builtin.zeroCells z.cells n).toList,by rw[List.length_append,List.length_replicate,←hisz];exact h2,fun i hi=>tJ hrow.1 (fun i hi=>Vcells.mono (hF _) (fun _ _ h=>h) (hrows i hi)) (T3 hzsz hzz) i hi⟩
  ·simp only[V]
   exact⟨hnew,_,_,_,hve'⟩
theorem aEW(m:Mem Bw w0 ρ φ h w){o:Oper}{a:Act}{t:TypeId}{ti fi:TI}(ht:TIok P t ti){xo:Operand}{cs:List AVal}(hx:V (Fr (own φ h) Bw w) ρ (.agg cs) (a.eval xo)){f:Nat}(ho:o.op = .field t xo f)
  {fs:List (Nat×TypeId)} (hk:ti.k = .st fs) {off:Nat} {ft:TypeId} (hf:fs[f]? = some (off,ft)) (hfi:TIok P ft fi) {y:AVal} (hy:fN fi cs off=some y):Good P o a w (Post Bw w0 ρ φ h w new y []):=by
 obtain⟨d,h1,h2⟩:=ht.hu
 rw[hk]at h2
 obtain⟨fa,rfl,h3,h4⟩:=h2
 subst h3
 rw[List.getElem?_map]at hf
 obtain⟨fd,hfd,hfe⟩:∃fd,fa.toList[f]? = some fd∧(fd.offset,fd.type)=(off,ft):=by
  cases hq:fa.toList[f]? with
  | none=>rw[hq]at hf;cases hf
  | some fd=>rw[hq]at hf;exact⟨fd,rfl,by simpa using hf⟩
 cases hfe
 have hfa:fa[f]? = some fd:=by simpa using hfd
 simp only[V]at hx
 obtain⟨vs,hv,hvs,hcs⟩:=hx
 obtain⟨v,hr,hvv⟩:∃v,(part fd.type vs fd.offset).run P w = .ok v w∧V (Fr (own φ h) Bw w) ρ y v:=by
  unfold fN at hy
  unfold part
  rw[Sem.run_bind,qG hfi]
  simp only[Result.andThen_ok]
  split at hy
  ·rename_i hagg
   split at hy
   ·rename_i hle
    cases hy
    refine⟨.agg (vs.extract fd.offset (fd.offset+fi.size)),?_,?_⟩
    ·rw[if_pos hagg,Sem.run_bind,run_sizeOf hfi]
     rfl
    ·simp only[V]
     refine⟨_,rfl,by simp only[Array.size_extract,List.length_take,List.length_drop];omega,VL.mono (fun _ _ _ h=>h) (fun _ _ h=>h) (fun k u hk=>hk) (VL.mk fun k x hkx=> ?_)⟩
     rw[List.getElem?_take]at hkx
     split at hkx
     ·rename_i hlt
      rw[List.getElem?_drop]at hkx
      obtain⟨u,q1,q2⟩:=VL.get hcs hkx
      exact⟨u,by rw[Array.getElem?_extract,if_pos (by omega)];exact q1,q2⟩
     ·cases hkx
   ·cases hy
  ·rename_i hagg
   obtain⟨u,q1,q2⟩:=VL.get hcs hy
   refine⟨u,?_,q2⟩
   rw[if_neg (by simpa using hagg),q1]
   rfl
 refine Good.of_run (v:=v) (w':=w) ?_ (Post.pure m hvv)
 simp[execOp,ho,Instr.field,run_underlying h1,hfa,hv,asAgg,hr]
end
end Go.Tv
