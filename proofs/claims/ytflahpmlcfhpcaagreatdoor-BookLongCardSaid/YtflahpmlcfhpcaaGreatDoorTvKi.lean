/- To copy into an own row. -/
import Derived.Test.YtflahpmlcfhpcaaGreatDoorTvKh
namespace Go.Tv
open Go Go.RowKit
theorem xI{P:Program}{w:World}{t t2 ty e:TypeId}{i:TypeInfo}(ht:P.underlying t=some (.slice e))(hi:P.info? e=some i){g n cap:Nat}{cur:Array Value}{te:TypeId}
  (hg:w.heap[g]? = some (.cells cur te (0,0))) {ad:Option Addr} {len c:Nat} {cs:List Value} (hcs:cs.length=min len n*i.size) (hnil:ad=none→cs=[])
  (hsrc:∀b,ad=some b→∀j v,cs[j]? = some v→w.cell? (b.add j)=some v) (hfit:cs.length≤cur.size) (h1:∀v∈cs,v.oneCell'=true) :
  (Builtin.copy_ #[t,t2] ty #[.slice (some ⟨g,0,none⟩) n cap,.slice ad len c]).run P w =
   .ok (goInt (min len n:Nat)) (w.setRow g (cs++cur.toList.drop cs.length).toArray):=by
 have hst:=run_storeCells_at P g 0 te cs 0 cur w hg (by omega) h1
 simp only[Nat.add_zero,Nat.zero_add,List.take_zero,List.nil_append]at hst
 have hm:Nat.min len n=min len n:=rfl
 cases ad with
 | none =>
  have:=hnil rfl
  subst this
  simp[Builtin.copy_,run_underlying ht,Builtin.lenOf,Builtin.firstCells,sizeOf,typeInfo,hi,hst,hm]
 | some b =>
  have hl:=run_loadCells_list (P:=P) w b cs (hsrc b rfl)
  rw[hcs]at hl
  simp[Builtin.copy_,run_underlying ht,Builtin.lenOf,Builtin.firstCells,sizeOf,typeInfo,hi,hl,hst,hm]
section
variable{P:Program}{Bw:Nat→Prop}{w0:Base P}{ρ:Nat→Option Value}{φ:Nat→Nat→Prop}{h:Nat→Option Obj}{w:World}{new:Nat}
theorem aAJ(m:Mem Bw w0 ρ φ h w){o:Oper}{a:Act}{t t2 e:TypeId}{ti te:TI}(ht:TIok P t ti)(hk:ti.k = .sl e)(hte:TIok P e te){A:Ty}(hT:te.T=some A)
  {xo yo:Operand} {id:Nat} {y:AVal} (hx:V (Fr (own φ h) Bw w) ρ (.sl id) (a.eval xo)) (hy:V (Fr (own φ h) Bw w) ρ y (a.eval yo)) (ho:o.op = .call { callee:= .builtin .copy,args:= #[xo,yo],argTypes:= #[t,t2] })
  {e':TypeId} {xs ys:List A.den} (hid:h id=some (.arr e' A xs)) (hys:dR h A y=some ys) :
  Good P o a w (Post Bw w0 ρ φ h w new (.p false (.int .i64) ((min ys.length xs.length:Nat):Int)) [(id,some (.arr e' A (ys.take xs.length++xs.drop ys.length)))]):=by
 obtain⟨i,z,hi,hz,hsize,hbytes,hz1,hz2,hz3⟩:=hte.hi
 obtain⟨hT1,hT2,hT3⟩:=hte.hT A hT
 have hu:=bQ ht hk
 have hisz:i.size=A.size:=by rw[hsize,hT1]
 obtain⟨ad,len,c,hve,hlen,hyr,hnil⟩:=gC m hys hy
 obtain⟨u,q1,hsa,hA,cells,r1,r2⟩:=m.ob id _ hid
 simp only[V]at hx
 obtain⟨hx1,aa,nn,cc,hx2⟩:=hx
 rw[hx1]at q1
 cases q1
 subst hlen
 rcases r1.2 with⟨hxe,hn⟩ | ⟨g,cap,cur,hxe,_,hheap,hncap,hcapm,hcsz,htake⟩
 ·-- nothing to copy into
  have hxs:xs=[]:=List.eq_nil_of_length_eq_zero hn
  subst hxs
  have hrun:(Builtin.copy_ #[t,t2] o.type #[.slice none 0 0,.slice ad ys.length c]).run P w = .ok (goInt 0) w:=by
   cases ad with
   | none=>simp[Builtin.copy_,run_underlying hu,Builtin.lenOf,Builtin.firstCells,sizeOf,typeInfo,hi]
   | some b =>
    have hl:=run_loadCells_list (P:=P) w b [] (fun j v hj=>by simp at hj)
    simp only[List.length_nil]at hl
    simp[Builtin.copy_,run_underlying hu,Builtin.lenOf,Builtin.firstCells,sizeOf,typeInfo,hi,hl]
  refine Good.of_run (v:=goInt 0) (w':=w) (by simp only[execOp,ho,resolve,invoke,builtin,Sem.run_bind,Sem.run_pure,Result.andThen_ok,List.map_toArray,List.map_cons,List.map_nil,hxe,hve,hrun]) ?_
  have hself:apply [(id,some (.arr e' A (ys.take ([]:List A.den).length++([]:List A.den).drop ys.length)))] h=h:=by
   funext k
   simp only[apply,upd,List.length_nil,List.take_zero,List.drop_nil,List.append_nil]
   split
   ·rename_i e2;rw[e2,hid]
   ·rfl
  have hv:V (Fr (own φ h) Bw w) ρ (.p false (.int .i64) ((min ys.length ([]:List A.den).length:Nat):Int)) (goInt 0):=by
   simp only[V,Vcells,List.length_nil,Nat.min_zero]
   exact⟨rfl,rfl⟩
  refine⟨ρ,φ,by rw[hself];exact m,by rw[hself];exact fun _ _ _ h=>h,fun _ _ h=>h,fun _ _ h=> .inl h,?_⟩
  rw[hself]
  exact hv
 ·-- what is copied
  obtain⟨news,n1,n2,n3⟩:∃news:List Value,news.length=ys.length*A.size∧(∀b,ad=some b→∀j v,news[j]? = some v→w.cell? (b.add j)=some v) ∧
    (∀i (h':i<ys.length),Vcells (Fr (own φ h) Bw w false) A ys[i] (fun k v=>news[i*A.size+k]? = some v)):=by
   cases had:ad with
   | none =>
    have hl0:ys.length=0:=by
     rcases hnil had with e1 | e1
     ·rw[e1]at hve;simp only[Value.slice.injEq]at hve;omega
     ·exact e1
    exact⟨[],by simp[hl0],fun b e1=>(by cases e1),fun i hi'=>absurd hi' (by omega)⟩
   | some b =>
    obtain⟨news,p1,p2,p3⟩:=kC (g:=fun k v=>w.cell? (b.add k)=some v) (fun i hi'=>by
     obtain⟨b',e1,e2⟩:=hyr i hi'
     rw[had]at e1
     cases e1
     exact e2)
    exact⟨news,p1,fun b' e1=>(by cases e1;exact p2),p3⟩
  have hone:=nF n1 n3
  have hcl:cells.length=xs.length*A.size:=r1.1
  have hmin:min ys.length xs.length*A.size≤xs.length*A.size:=Nat.mul_le_mul_right _ (Nat.min_le_right _ _)
  have hmin':min ys.length xs.length*A.size≤ys.length*A.size:=Nat.mul_le_mul_right _ (Nat.min_le_left _ _)
  have hcapb:xs.length*A.size≤cap*A.size:=Nat.mul_le_mul_right _ hncap
  let cs:=news.take (min ys.length xs.length*A.size)
  have hcs:cs.length=min ys.length xs.length*A.size:=by
   simp only[cs,List.length_take,n1];omega
  have hrun:=xI (P:=P) (w:=w) (t2:=t2) (ty:=o.type) hu hi hheap (n:=xs.length) (cap:=cap) (ad:=ad) (len:=ys.length) (c:=c) (cs:=cs) (by rw[hcs,hisz])
   (fun e1=>by
    have hl0:ys.length=0:=by
     rcases hnil e1 with e2 | e2
     ·rw[e2]at hve;simp only[Value.slice.injEq]at hve;omega
     ·exact e2
    exact List.eq_nil_of_length_eq_zero (by rw[hcs,hl0];simp))
   (fun b e1 j v hj=>n2 b e1 j v (by
    simp only[cs,List.getElem?_take]at hj
    split at hj
    ·exact hj
    ·cases hj)) (by rw[hcs,hcsz];omega) (fun v hv=>hone v (List.mem_of_mem_take hv))
  refine Good.of_run (v:=_) (w':=_) (by simp only[execOp,ho,resolve,invoke,builtin,Sem.run_bind,Sem.run_pure,Result.andThen_ok,List.map_toArray,List.map_cons,List.map_nil,hxe,hve,hrun];rfl) ?_
  have hlen2:(ys.take xs.length++xs.drop ys.length).length=xs.length:=by simp only[List.length_append,List.length_take,List.length_drop];omega
  refine cZ m (some id) id (.arr e' A (ys.take xs.length++xs.drop ys.length)) (a.eval xo) (some g) (bE w g _) (fun k e1=>⟨id,_,rfl,hid,rfl,hsa _ (by rw[hxe];simpa [gS]using e1)⟩) (.inr ⟨rfl,hx1⟩)
   (fun _ k hk'=> .inr (by rw[hxe]at hk';simpa [gS]using hk')) (fun F' ρ' hF hρ=> ?_) (by rw[bK];rfl) (fun e1=>by rw[hx1]at e1;cases e1) (fun F' ρ' hF hρ hnew=>by simp only[V,Vcells];exact⟨rfl,rfl⟩)
  refine⟨fun _ h=>h,hA,cs++cells.drop cs.length,⟨?_,.inr ⟨g,cap,_,?_,Nat.zero_le _,setRow_heap w g cur _ e' _ hheap,?_,hcapm,?_,?_⟩⟩,fun j hj=> ?_⟩
  ·simp only[List.length_append,List.length_drop,hcs,hcl,hlen2];omega
  ·rw[hlen2,hxe]
  ·rw[hlen2];exact hncap
  ·simp only[List.size_toArray,List.length_append,List.length_drop,Array.length_toList,hcs];omega
  ·rw[hlen2,←htake]
   simp only[List.take_append,hcs,List.drop_take]
   rw[List.take_of_length_le (by rw[hcs];omega)]
  ·rw[hlen2]at hj
   by_cases hjy:j<ys.length
   ·have e1:(ys.take xs.length++xs.drop ys.length)[j]'(by rw[hlen2];exact hj)=ys[j]:=by
     rw[List.getElem_append_left (by simp only[List.length_take];omega)]
     simp
    rw[e1]
    refine Vcells.mono (hF _) (fun _ _ h=>h) (Vcells.monoLt (fun k v hk' hv=> ?_) (n3 j hjy))
    have hjb:j*A.size+A.size≤min ys.length xs.length*A.size:=by
     rw[←Nat.succ_mul];exact Nat.mul_le_mul_right _ (by omega)
    rw[List.getElem?_append_left (by rw[hcs];omega)]
    simp only[cs,List.getElem?_take]
    rw[if_pos (by omega)]
    exact hv
   ·have e1:(ys.take xs.length++xs.drop ys.length)[j]'(by rw[hlen2];exact hj)=xs[j]:=by
     rw[List.getElem_append_right (by simp only[List.length_take];omega)]
     simp only[List.length_take,List.getElem_drop]
     congr 1
     omega
    rw[e1]
    refine Vcells.mono (hF _) (fun _ _ h=>h) (Vcells.monoLt (fun k v hk' hv=> ?_) (r2 j hj))
    have hmm:min ys.length xs.length=ys.length:=Nat.min_eq_left (by omega)
    have hjb:ys.length*A.size≤j*A.size:=Nat.mul_le_mul_right _ (by omega)
    rw[List.getElem?_append_right (by rw[hcs,hmm];omega),List.getElem?_drop]
    rw[←hv]
    congr 1
    rw[hcs,hmm]
    omega
end
end Go.Tv
