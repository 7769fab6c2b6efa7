/- Maps that are cleared; room of nothing; noughts put behind nothing. -/
import Derived.Test.YtmcemnfjddoejaaGreatDoorTvKl
import Derived.Lib.AppendZerosOnto
namespace Go.Tv
open Go Go.RowKit
open Go.MapKept (run_setObj_map heap_set)
section
variable{P:Program}{tb:bR}{Bw:Nat→Prop}{w0:b9 P}{ρ:Nat→Option Value}{φ:Nat→Nat→Prop}{h:Nat→Option Obj}{w:World}{new:Nat}
theorem Dh(m:Mem Bw w0 ρ φ h w){o:Oper}{a:Act}{t C D:TypeId}{ti:TI}(E:aQ P t ti)(j:ti.k = .mp C D){xo:Operand}(I:o.op = .call { callee:= .builtin .clear,args:= #[xo],argTypes:= #[t] })
  {id:Nat} {K A:Ty} {J:List (K.den×A.den)} (hi:h id=some (.mpo K A J)) (L:V (Fr (own φ h) Bw w) ρ (.mp id) (a.eval xo)) :
  Good P o a w (aE Bw w0 ρ φ h w new (.tup []) [(id,some (.mpo K A []))]):=by
 obtain⟨r,Z,clock,M,c,p,hb,⟨N,hB⟩,q,O,u⟩:=tD m hi L;obtain⟨dm,R,f⟩:=E.hu;rw[j]at f;simp only[UK]at f;subst f;refine Good.aH (v:= .tuple #[]) (w':= { w with heap:=w.heap.setIfInBounds r (.map #[] clock) }) ?_ ?_
 ·simp only[execOp,I,resolve,invoke,builtin,Sem.run_bind,Sem.run_pure,Result.andThen_ok,List.map_toArray,List.map_cons,List.map_nil,M];simp[Builtin.clear_,run_underlying R,Go.MapKept.run_getObj_map hb,run_setObj_map _ hb,Result.andThen]
 ·refine eH m (some id) id (.mpo K A []) (.map (some r)) (φ id) (some r) (fY w r _) (fun k e=>⟨id,_,rfl,hi,rfl,by cases e;exact p⟩) (.inr ⟨rfl,c⟩)
   (fun _ k j=>Nat.lt_of_lt_of_le (m.lt id _ k hi rfl j) (fY w r _).size) (fun _ k j=> .inr ⟨id,_,rfl,hi,rfl,j⟩) (fun F' x X z=> ?_) (by rw[aZ];rfl) (fun e=>by rw[c]at e;cases e) (fun F' x X c B=> ?_)
  ·exact⟨r,#[],clock,rfl,p,(heap_set hb).1,⟨N,List.nodup_nil,fun e Y=>by cases Y⟩,rfl,List.nodup_nil,fun i hi=>absurd hi (by simp)⟩
  ·simp only[V,VL];exact⟨#[],rfl,rfl,trivial⟩
theorem AL(m:Mem Bw w0 ρ φ h w){o:Oper}{a:Act}{t e:TypeId}{ti:TI}(f:aQ P t ti)(j:ti.k = .sl e){xo:Operand}(q:o.op = .call { callee:= .builtin .cap,args:= #[xo],argTypes:= #[t] })
  (c:V (Fr (own φ h) Bw w) ρ .nils (a.eval xo)):Good P o a w (aE Bw w0 ρ φ h w new (.p false (.int .i64) (0:Int)) []):=by
 have hu:=bd f j;simp only[V]at c;refine Good.aH (v:= .int .i64 0) (w':=w) ?_ (aE.pure m (dB _ _ _));simp only[execOp,q,resolve,invoke,builtin,Sem.run_bind,Sem.run_pure,Result.andThen_ok,List.map_toArray,List.map_cons,List.map_nil,c];simp[Builtin.cap_,run_underlying hu,goInt]
theorem wa{G:Addr→Value→Prop}{A:Ty}{z:Array Value}(hz:z.size=A.size)(h:ai G A A.zero (fun k u=>z.toList[k]? = some u)){n:Nat}:∀j (f:j<(List.replicate n A.zero).length),ai G A (List.replicate n A.zero)[j] (fun k v=>(Builtin.zeroCells z n).toList[j*A.size+k]? = some v):=fun j f=>by
 simp only[List.length_replicate]at f;simp only[List.getElem_replicate];refine ai.fR (fun k v m e=> ?_) h;have p:j*A.size+A.size≤n*A.size:=by rw[←Nat.succ_mul];exact Nat.mul_le_mul_right _ f
 rw[Array.getElem?_toList];have q:(Builtin.zeroCells z n)[j*A.size+k]? = some (z[(j*A.size+k) % z.size]!):=by
  have:j*A.size+k<n*z.size:=by rw[hz];omega
  simp[Builtin.zeroCells,this]
 rw[q,hz,Nat.mul_comm,Nat.mul_add_mod,Nat.mod_eq_of_lt m];have c:k<z.size:=by omega
 simp only[Array.getElem?_toList]at e;rw[Array.getElem?_eq_getElem c]at e;simp only[Option.some.injEq]at e;simp[c,e]
theorem tC{t u ty e:TypeId}{i:TypeInfo}{z:Value}{k0 kl:IntKind}(N:P.underlying t=some (.slice e))(hu:P.underlying u=some (.int k0))(hi:P.info? e=some i)(hz:i.zero=some z)
  (O:z.cells.size=i.size) (R:0<i.size) (a4:∀c∈z.cells.toList,c.oneCell'=true) {v:Value} {n:Nat} {C:List Value} (f:w.ownsRow 0 e i.size v n C) (k:Nat)
  (V:n+k≤maxLen) (p:(n+k)*i.bytes≤140737488355328) :
  ∃v' w',(Builtin.append_ #[t,u] ty #[v,.int kl k]).run P w = .ok v' w'∧w'.ownsRow 0 e i.size v' (n+k) (C++(Builtin.zeroCells z.cells k).toList)∧w.grownBy w' v.ownBlock ∧
   ∀b,v'.ownBlock=some b→w.heap.size≤b∨v.ownBlock=some b:=by
 have a3:n+k≤9223372036854775807:=by simp only[maxLen]at V;omega
 have hw:IntKind.i64.wrap (k:Int)=k:=by rw[IntKind.wrap_i64];omega
 have X:¬((k:Int)<0):=by omega
 have aa:k*i.bytes≤140737488355328:=Nat.le_trans (Nat.mul_le_mul_right _ (by omega)) p;have Y:¬(281474976710656<(k:Int)*(i.bytes:Int)):=by rw[←Int.natCast_mul];omega
 have E:(Builtin.zeroCells z.cells k).toList.length=k*i.size:=by rw[Array.length_toList,size_zeroCells,O]
 by_cases M:k=0
 ·subst M;have Z:IntKind.i64.wrap 0=0:=rfl;have e0:(Builtin.zeroCells z.cells 0).toList=[]:=List.eq_nil_of_length_eq_zero (by rw[E];omega);refine⟨v,w,?_,by rw[e0,List.append_nil];exact f,⟨rfl,rfl,rfl,Nat.le_refl _,fun _ _ _=>rfl⟩,fun b hb=> .inr hb⟩;rcases f.2 with⟨rfl,rfl⟩ | ⟨g,cap,x,rfl,_,hg,a1,_⟩
  ·simp[Builtin.append_,run_underlying N,run_underlying hu,sizeOf,typeInfo,hi,asInt,asIntOf,Z]
  ·simp[Builtin.append_,run_underlying N,run_underlying hu,sizeOf,typeInfo,hi,asInt,asIntOf,Z,a1,storeCells]
 have a5:¬(k*i.size=0):=Nat.mul_ne_zero M (by omega);have q:(C++(Builtin.zeroCells z.cells k).toList).length=(n+k)*i.size:=by rw[List.length_append,f.1,E,Nat.add_mul]
 have grown:∀(A:Nat) (row:Option Nat) (w':World),w'=w.drew.alloc (.cells (C.toArray++Builtin.zeroCells z.cells k++Builtin.zeroCells z.cells (grownCap w (n+k) A e - (n+k))) e) →
   w'.ownsRow 0 e i.size (.slice (some ⟨w.heap.size,0,none⟩) (n+k) (grownCap w (n+k) A e)) (n+k) (C++(Builtin.zeroCells z.cells k).toList)∧w.grownBy w' row:=by
  rintro A row w' rfl;have a6:=grownCap_ge w (n+k) A e;have I:grownCap w (n+k) A e≤maxLen:=grownCap_le_maxLen w (n+k) A e V;refine⟨⟨q,.inr ⟨w.heap.size,_,_,rfl,Nat.zero_le _,heap_alloc_new w.drew _,a6,I,?_,?_⟩⟩,⟨rfl,rfl,rfl,by simp,fun k M _=>heap_alloc_old w.drew _ M⟩⟩
  ·simp only[Array.size_append,List.size_toArray,size_zeroCells,O,f.1,←Nat.add_mul];congr 1;omega
  ·simp only[Array.toList_append];rw[←q];exact List.take_left
 rcases f.2 with⟨rfl,rfl⟩ | ⟨g,cap,x,rfl,_,hg,a1,I,a7,J⟩
 ·have hx:C=[]:=List.eq_nil_of_length_eq_zero (by simpa using f.1);subst hx;have hr:=Lib.run_append_nil_zeros (P:=P) w t u ty e i z kl k0 N hu hi hz k (by omega) R (by omega) (by omega);have B:=grown 0 (Value.ownBlock (.slice none 0 0)) _ rfl;simp only[Nat.zero_add,List.nil_append,Array.empty_append]at B ⊢;exact⟨_,_,hr,B.1,B.2,fun b hb=> .inl (by simp only[Value.ownBlock,Option.some.injEq]at hb;omega)⟩
 ·by_cases m:n+k≤cap
  ·have D:n*i.size+(Builtin.zeroCells z.cells k).toList.length≤x.size:=by rw[E,a7,←Nat.add_mul];exact Nat.mul_le_mul_right _ m
   have a2:=run_storeCells_at P g (n*i.size) e (Builtin.zeroCells z.cells k).toList 0 x w hg (by simpa using D) (fun c hc=>by
    simp only[Builtin.zeroCells,Array.toList_map,List.mem_map]at hc;obtain⟨j,_,rfl⟩:=hc;have a8:j % z.cells.size<z.cells.size:=Nat.mod_lt _ (by omega);rw[getElem!_pos z.cells (j % z.cells.size) a8];exact a4 _ (by simp))
   simp only[Nat.add_zero]at a2;refine⟨.slice (some ⟨g,0,none⟩) (n+k) cap,_,?_,⟨q,.inr ⟨g,cap,_,rfl,Nat.zero_le _,setRow_heap w g x (x.toList.take (n*i.size)++(Builtin.zeroCells z.cells k).toList++x.toList.drop (n*i.size+(Builtin.zeroCells z.cells k).toList.length)).toArray e _ hg,m,I,?_,?_⟩⟩,⟨rfl,rfl,rfl,by simp,fun k _ M=>setRow_other w g k _ (fun e=>M (by simp[Value.ownBlock,e]))⟩,fun b hb=> .inr hb⟩
   ·simp[Builtin.append_,run_underlying N,run_underlying hu,sizeOf,typeInfo,zeroValue,hi,hz,asInt,asIntOf,hw,X,Y,a5,m,Addr.add_lit,a2]
   ·simp only[List.size_toArray,List.length_append,List.length_take,List.length_drop,Array.length_toList]at D ⊢;omega
   ·rw[J,←q];exact List.take_left
  ·have L:∀j u,C[j]? = some u→w.cell? ((⟨g,0,none⟩:Addr).add j)=some u:=f.cells (g:=g) rfl;have a9:=run_firstCells_some (P:=P) w.drew i.size n ⟨g,0,none⟩ n cap C f.1 (by simpa using L);have hr:=Lib.run_append_grow_zeros (P:=P) w t u ty e i z kl k0 N hu hi hz (some ⟨g,0,none⟩) n cap C a9 k (by omega) R (by omega) (by omega) (by omega) (growslice_fits (by omega) p);have B:=grown cap (Value.ownBlock (.slice (some ⟨g,0,none⟩) n cap)) _ rfl;exact⟨_,_,hr,B.1,B.2,fun b hb=> .inl (by simp only[Value.ownBlock,Option.some.injEq]at hb;omega)⟩
theorem yM(m:Mem Bw w0 ρ φ h w)(hn:ρ new=none){o:Oper}{a:Act}{t e u:TypeId}{ti te tu:TI}(ht:aQ P t ti)(hk:ti.k = .sl e)(N:aQ P e te){A:Ty}(hT:te.T=some A)(h0:0<A.size)
  (a3:aQ P u tu) {k0:IntKind} (a4:tu.k = .int k0) {xo yo:Operand} (ho:o.op = .call { callee:= .builtin .append,args:= #[xo,yo],argTypes:= #[t,u] })
  {x:ag} (O:V (Fr (own φ h) Bw w) ρ x (a.eval xo)) {β:Bool} {kl:IntKind} {l:Int} (hl:V (Fr (own φ h) Bw w) ρ (.p β (.int kl) l) (a.eval yo)) {c:List A.den} {R:Option Nat} {us:hZ}
  (E:(x = .nils∧c=[]∧R=none∧us=[(new,some (.arr e A (c++List.replicate l.toNat A.zero)))])∨(∃id,x = .sl id∧h id=some (.arr e A c)∧R=some id∧us=[(id,none),(new,some (.arr e A (c++List.replicate l.toNat A.zero)))]))
  (h1:0≤l) (hb:(c.length+l.toNat)*te.bytes≤140737488355328) (a5:c.length+l.toNat≤9223372036854775807) :
  Good P o a w (aE Bw w0 ρ φ h w new (.sl new) us):=by
 obtain⟨i,z,hi,hz,I,q,a6,a7,a8⟩:=N.hi;obtain⟨X,b4,a9⟩:=N.hT A hT;have hu:=bd ht hk;have f:i.size=A.size:=by rw[I,X]
 obtain⟨du,ac,j⟩:=a3.hu;rw[a4]at j;simp only[UK]at j;subst j;obtain⟨n,rfl⟩:∃n:Nat,l=(n:Int):=⟨l.toNat,by omega⟩;rw[Int.toNat_natCast]at hb a5 E;obtain⟨cells,v,hv,B,J,ad⟩:∃cells v,a.eval xo=v∧w.ownsRow 0 e A.size v c.length cells ∧
   (∀i (h':i<c.length),ai (Fr (own φ h) Bw w false) A c[i] (fun k v=>cells[i*A.size+k]? = some v)) ∧
   ∀k,v.ownBlock=some k→∃i o,R=some i∧h i=some o∧o.live=true∧φ i k:=by
  rcases E with⟨rfl,rfl,rfl,_⟩ | ⟨id,rfl,Y,rfl,_⟩
  ·simp only[V]at O;exact⟨[],_,O,World.ownsRow_nil w 0 e _,fun i hi=>absurd hi (by simp),fun k hk=>by cases hk⟩
  ·simp only[V]at O;obtain⟨u,q1,ax,_,cells,r1,r2⟩:=m.ob id _ Y;rw[O.1]at q1;cases q1;obtain⟨_,aa,nn,cc,he⟩:=O;exact⟨cells,_,rfl,r1,r2,fun k L=>⟨id,_,rfl,Y,rfl,ax _ (by rw[gF he];exact L)⟩⟩
 have Z:apply us h=bH (fun i=>if R=some i then none else h i) new (some (.arr e A (c++List.replicate n A.zero))):=by
  rcases E with⟨_,rfl,rfl,rfl⟩ | ⟨id,_,_,rfl,rfl⟩
  ·rw[bn];rfl
  ·rw[vz];rfl
 have M:w.ownsRow 0 e i.size v c.length cells:=by rw[f];exact B
 have C:z.cells.size=A.size:=by rw[a7,←X]
 obtain⟨v',w',hr,h2,h3,h4⟩:=tC (P:=P) (t:=t) (u:=u) (ty:=o.type) (kl:=kl) (k0:=k0) hu ac hi hz (by rw[C,f]) (by omega) a8 M n (by unfold maxLen;omega) (by rw[q];exact hb);have b1:∃aa nn cc,v' = .slice aa nn cc:=by rcases h2.2 with⟨e,_⟩ | ⟨g,cap,b5,e,_⟩ <;> exact⟨_,_,_,e⟩
 have hy:=bV hl;refine Good.aH (v:=v') (w':=w') ?_ ?_
 ·simp only[execOp,ho,resolve,invoke,builtin,Sem.run_bind,Sem.run_pure,Result.andThen_ok,List.map_toArray,List.map_cons,List.map_nil,hv,hy,hr]
 ·obtain⟨aa,nn,cc,D⟩:=b1;refine cQ m R new (.arr e A (c++List.replicate n A.zero)) v' v.ownBlock h3 ad (.inl hn) (fun _ k L=>h4 k (by rw[←gF D];exact L)) (fun F' a1 hF b2=> ?_) Z (fun _=>rfl) (fun F' a1 hF b2 a2=> ?_)
  ·have b3:ai (F' false) A A.zero (fun k u=>z.cells.toList[k]? = some u):=by have:=g9 (F:=F') (ρ:=a1) z.cells.toList;rw[a6]at this;exact(cy a9 this).1
   refine⟨fun _ h=>h,h0,cells++(Builtin.zeroCells z.cells n).toList,by rw[List.length_append,List.length_replicate,←f];exact h2,fun i hi=>oK B.1 (fun i hi=>ai.mono (hF _) (fun _ _ h=>h) (J i hi)) (wa C b3) i hi⟩
  ·simp only[V];exact⟨a2,_,_,_,D⟩
theorem C3(m:Mem Bw w0 ρ φ h w){o:Oper}{a:Act}{t:TypeId}{ti B:TI}(ht:aQ P t ti){xo:Operand}{R:List ag}(X:V (Fr (own φ h) Bw w) ρ (.agg R) (a.eval xo)){f:Nat}(ho:o.op = .field t xo f)
  {Y:List (Nat×TypeId)} (C:ti.k = .st Y) {off:Nat} {D:TypeId} (q:Y[f]? = some (off,D)) (z:aQ P D B) {y:ag} (p:dV B R off=some y):Good P o a w (aE Bw w0 ρ φ h w new y []):=by
 obtain⟨d,h1,Z⟩:=ht.hu;rw[C]at Z;obtain⟨E,rfl,h3,h4⟩:=Z;subst h3;rw[List.getElem?_map]at q;obtain⟨c,I,J⟩:∃c,E.toList[f]? = some c∧(c.offset,c.type)=(off,D):=by
  cases hq:E.toList[f]? with
  | none=>rw[hq]at q;cases q
  | some c=>rw[hq]at q;exact⟨c,rfl,by simpa using q⟩
 cases J;have L:E[f]? = some c:=by simpa using I
 simp only[V]at X;obtain⟨vs,hv,a1,A⟩:=X;obtain⟨v,hr,M⟩:∃v,(part c.type vs c.offset).run P w = .ok v w∧V (Fr (own φ h) Bw w) ρ y v:=by
  unfold dV at p;unfold part;rw[Sem.run_bind,mH z];simp only[Result.andThen_ok];split at p
  ·rename_i e;split at p
   ·rename_i a2;cases p;refine⟨.agg (vs.extract c.offset (c.offset+B.size)),?_,?_⟩
    ·rw[if_pos e,Sem.run_bind,run_sizeOf z];rfl
    ·simp only[V];refine⟨_,rfl,by simp only[Array.size_extract,List.length_take,List.length_drop];omega,VL.mono (fun _ _ _ h=>h) (fun _ _ h=>h) (fun k u C=>C) (VL.mk fun k x j=> ?_)⟩;rw[List.getElem?_take]at j;split at j
     ·rename_i a3;rw[List.getElem?_drop]at j;obtain⟨u,N,O⟩:=VL.get A j;exact⟨u,by rw[Array.getElem?_extract,if_pos (by omega)];exact N,O⟩
     ·cases j
   ·cases p
  ·rename_i e;obtain⟨u,N,O⟩:=VL.get A p;refine⟨u,?_,O⟩;rw[if_neg (by simpa using e),N];rfl
 refine Good.aH (v:=v) (w':=w) ?_ (aE.pure m M);simp[execOp,ho,Instr.field,run_underlying h1,L,hv,asAgg,hr]
end
end Go.Tv
