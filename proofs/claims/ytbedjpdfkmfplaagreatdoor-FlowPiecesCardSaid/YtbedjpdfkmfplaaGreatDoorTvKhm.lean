import Derived.Test.YtbedjpdfkmfplaaGreatDoorTvKdm
namespace Go.Tv
open Go Go.RowKit
def sB(k:IntKind):List ag→Option QK
 | []=>some []
 | .p _ (.int e) x::r=>if e=k then(match sB k r with
  | some l=>some ((show Int from x)::l)
  | none=>none)else none
 | _::_=>none
theorem qD{k:IntKind}{F:Bool→Addr→Value→Prop}{ρ:Nat→QW}:∀ {f:List ag} {l:QK} {g:Nat→Value→Prop},sB k f=some l→VL F ρ f g→l.length=f.length∧∀i,i<f.length→g i (.int k (l.getD i 0))
 | [],l,g,h,_=>by cases h;exact⟨rfl,fun i hi=>absurd hi (by simp)⟩
 | c::f,l,g,h,q=>by
  unfold sB at h;split at h
  ·rename_i e;cases e
  ·rename_i β D x r e;cases e;split at h
   ·rename_i hk;subst hk;split at h
    ·rename_i E hl;cases h;simp only[VL]at q;obtain⟨⟨u,z,A⟩,j⟩:=q;obtain⟨B,C⟩:=qD hl j;refine⟨by simp[B],fun i hi=>?_⟩;cases i with
     | zero=>rw[bR A]at z;exact z
     | succ i=>exact C i (by simpa using hi)
    ·cases h
   ·cases h
  ·cases h
section
variable{P:Program}{Bw:Nat→Prop}{w0:cE P}{ρ:Nat→QW}{φ:Nat→Nat→Prop}{h:Nat→Qz}{w:World}{new:Nat}
theorem yV(m:Mem Bw w0 ρ φ h w){o:Oper}{a:Act}{t e:TypeId}{ti f:TI}(ht:aO P t ti){n:Nat}(hk:ti.k = .ar n e)(q:aO P e f)(J:f.size=1){C io:Operand}{id i sz off:Nat}(D:V (Fr (own φ h) Bw w) ρ (.adr id i sz off) (a.eval C))
  {L:List ag} (hb:h id=some (.box L)) {β:Bool} {k:IntKind} {j:Int} (M:V (Fr (own φ h) Bw w) ρ (.p β (.int k) j) (a.eval io)) (N:o.op = .indexAddr t C io) (E:0≤j∧j<(n:Int)) :
  Good P o a w (aG Bw w0 ρ φ h w new (.ada id (i*sz+off) n j.toNat) []):=by
 obtain⟨d,O,z⟩:=ht.hu;rw[hk]at z;simp only[UK]at z;subst z;obtain⟨u,X,I,Y,cells,rfl,_⟩:=m.ob id _ hb;simp only[V]at D;obtain⟨g,Z,he⟩:=D;rw[X]at Z;have A:I=g:=by simp_all
 subst A;have B:=bR M;refine Good.aH (v:= .pointer (some ((⟨I,i*sz+off,none⟩:Addr).add (j.toNat*f.size)))) (w':=w) ?_ (aG.pure m ?_)
 ·simp[execOp,N,Instr.indexAt,asIntOf,B,he,run_underlying O,Instr.sureAddr,run_sizeOf q,E.1,E.2]
 ·simp_all [V,cu,Nat.mul_one]
theorem wu(m:Mem Bw w0 ρ φ h w){o:Oper}{a:Act}{t e:TypeId}{ti f:TI}(ht:aO P t ti){n:Nat}(hk:ti.k = .ar n e)(q:aO P e f)(J:0<f.size){C io:Operand}{id i sz off:Nat}(D:V (Fr (own φ h) Bw w) ρ (.adr id i sz off) (a.eval C))
  {L:List ag} (hb:h id=some (.box L)) {β:Bool} {k:IntKind} {j:Int} (M:V (Fr (own φ h) Bw w) ρ (.p β (.int k) j) (a.eval io)) (N:o.op = .indexAddr t C io) (E:0≤j∧j<(n:Int)) :
  Good P o a w (aG Bw w0 ρ φ h w new (.ada id (i*sz+off) (n*f.size) (j.toNat*f.size)) []):=by
 obtain⟨d,O,z⟩:=ht.hu;rw[hk]at z;simp only[UK]at z;subst z;obtain⟨u,X,I,Y,cells,rfl,_⟩:=m.ob id _ hb;simp only[V]at D;obtain⟨g,Z,he⟩:=D;rw[X]at Z;have A:I=g:=by simp_all
 subst A;have B:=bR M;refine Good.aH (v:= .pointer (some ((⟨I,i*sz+off,none⟩:Addr).add (j.toNat*f.size)))) (w':=w) ?_ (aG.pure m ?_)
 ·simp[execOp,N,Instr.indexAt,asIntOf,B,he,run_underlying O,Instr.sureAddr,run_sizeOf q,E.1,E.2]
 ·simp_all [V,cu,Nat.mul_lt_mul_of_pos_right]
theorem wv(m:Mem Bw w0 ρ φ h w){o:Oper}{a:Act}{t e:TypeId}{ti f:TI}(ht:aO P t ti){n:Nat}(hk:ti.k = .ar n e)(q:aO P e f)(D:f.size=1){A io:Operand}{id b N p:Nat}(B:V (Fr (own φ h) Bw w) ρ (.ada id b N p) (a.eval A))
  {β:Bool} {k:IntKind} {j:Int} (E:V (Fr (own φ h) Bw w) ρ (.p β (.int k) j) (a.eval io)) (I:o.op = .indexAddr t A io) (C:(0≤j∧j<(n:Int))∧p+j.toNat<N) :
  Good P o a w (aG Bw w0 ρ φ h w new (.ada id b N (p+j.toNat)) []):=by
 obtain⟨d,J,u⟩:=ht.hu;rw[hk]at u;simp only[UK]at u;subst u;simp only[V]at B;obtain⟨g,M,L,_⟩:=B;have z:=bR E;refine Good.aH (v:= .pointer (some ((⟨g,b+p,none⟩:Addr).add (j.toNat*f.size)))) (w':=w) ?_ (aG.pure m ?_)
 ·simp[execOp,I,Instr.indexAt,asIntOf,z,L,run_underlying J,Instr.sureAddr,run_sizeOf q,C.1.1,C.1.2]
 ·simp_all [V,cu,Nat.mul_one,Nat.add_assoc]
theorem Af(m:Mem Bw w0 ρ φ h w){o:Oper}{a:Act}{t:TypeId}{ti:TI}(ht:aO P t ti){k:IntKind}(hk:ti.k = .int k){z:Operand}{id b n i:Nat}(A:V (Fr (own φ h) Bw w) ρ (.ada id b n i) (a.eval z))
  (D:o.op = .load t z) {f:List ag} (hb:h id=some (.box f)) {l:QK} (hl:sB k ((f.drop b).take n)=some l) (hn:b+n≤f.length) :
  Good P o a w (aG Bw w0 ρ φ h w new (.p false (.int k) (l.getD i 0)) []):=by
 obtain⟨u,E,j,q,cells,rfl,_,I,X,J⟩:=m.ob id _ hb;simp only[V]at A;obtain⟨g,B,L,hi⟩:=A;rw[E]at B;obtain rfl:j=g:=by simpa using B
 have M:=VL.take (n:=n) (VL.drop (n:=b) J);obtain⟨Y,N⟩:=qD hl M;have C:((f.drop b).take n).length=n:=by rw[List.length_take,List.length_drop];omega
 have e:=N i (by omega);refine Good.aH (v:= .int k (l.getD i 0)) (w':=w) ?_ (aG.pure m (dM _ _ _));have O:w.cell? (⟨j,b+i,none⟩:Addr)=some (.int k (l.getD i 0)):=by have:=cell_of_row w j (b+i) cells q (0,0) I;rw[this];exact e
 simp only[execOp,D,Instr.loadAt,L,Instr.sureAddr,Sem.run_bind,Sem.run_pure,Result.andThen_ok];unfold loadVar;rw[Sem.run_bind,lv ht,hk];simp only[Result.andThen_ok,TK.agg];rw[if_neg (by simp),run_load,O];rfl
def xk(k:IntKind)(i:Nat)(v:Int):Nat→QK→List ag
 | _,[]=>[]
 | j,x::r=> .p false (.int k) (if i=j then v else x:Int)::xk k i v (j+1) r
theorem po{k:IntKind}{i:Nat}{v:Int}:∀ {j:Nat} {l:QK},(xk k i v j l).length=l.length
 | _,[]=>rfl
 | j,x::r=>by simp[xk,po (j:=j+1) (l:=r)]
theorem BW{k:IntKind}{i:Nat}{v:Int}:∀ {l:QK} {j q:Nat},q<l.length→(xk k i v j l)[q]? = some (.p false (.int k) (if i=j+q then v else l.getD q 0:Int))
 | [],_,q,h=>absurd h (by simp)
 | x::r,j,0,_=>by simp[xk]
 | x::r,j,q+1,h=>by
  have:=BW (k:=k) (i:=i) (v:=v) (l:=r) (j:=j+1) (q:=q) (by simpa using h);simp only[xk,List.getElem?_cons_succ,this,List.getD_cons_succ];rw[show j+1+q=j+(q+1) by omega]
theorem yN(m:Mem Bw w0 ρ φ h w){o:Oper}{a:Act}{t:TypeId}{ti:TI}(ht:aO P t ti)(E:ti.size=1){k:IntKind}{xo yo:Operand}{id b n i:Nat}(hx:V (Fr (own φ h) Bw w) ρ (.ada id b n i) (a.eval xo))
  {β:Bool} {v:Int} (hy:V (Fr (own φ h) Bw w) ρ (.p β (.int k) v) (a.eval yo)) (ho:o.op = .store t xo yo) {f:List ag} (hb:h id=some (.box f)) {l:QK} (hl:sB k ((f.drop b).take n)=some l) (hn:b+n≤f.length) :
  Good P o a w (aG Bw w0 ρ φ h w new .unk [(id,some (.box (f.take b++xk k i v 0 l++f.drop (b+n))))]):=by
 obtain⟨u,N,C,I,cells,rfl,sg,r1,r2,r3⟩:=m.ob id _ hb;simp only[V]at hx;obtain⟨g,hg,he,hi⟩:=hx;rw[N]at hg;obtain rfl:C=g:=by simpa using hg
 have O:=bR hy;have J:((f.drop b).take n).length=n:=by rw[List.length_take,List.length_drop];omega
 obtain⟨h1,h2⟩:=qD hl (VL.take (n:=n) (VL.drop (n:=b) r3));have z:(Value.int k v).cells = #[Value.int k v]:=rfl;have A:=ib (P:=P) ht r1 (v:= .int k v) (p:=b+i) (by rw[z,E];rfl) (by rw[r2,E];omega) (fun c X=>by
  rw[z]at X;simp only[List.mem_singleton]at X;rw[X];rfl)
 have j:(cells.toList.take (b+i)++(Value.int k v).cells.toList++cells.toList.drop (b+i+ti.size))=cells.toList.set (b+i) (.int k v):=by
  grind (splits:=6) (ematch:=4) [List.set_eq_take_append_cons_drop,Array.length_toList]
 rw[j]at A;refine Good.j5 (w':=_) (by simp[execOp,ho,Instr.storeAt,he,Instr.sureAddr,O,A];rfl) ?_;refine eG m (some id) id (.box (f.take b++xk k i v 0 l++f.drop (b+n))) (.pointer (some ⟨C,0,none⟩)) (φ id) (some C) (bc w C _) (fun k e=>⟨id,_,rfl,hb,rfl,by cases e;exact sg⟩) (.inr ⟨rfl,N⟩)
  (fun _ k hk=>Nat.lt_of_lt_of_le (m.lt id _ k hb rfl hk) (bc w C _).size) (fun _ k hk=> .inr ⟨id,_,rfl,hb,rfl,hk⟩) (fun F' Y hF L=>?_) (by rw[bf];rfl) (fun e=>by rw[N]at e;cases e) (fun F' Y hF L a2=>by simp only[V])
 have Z:(f.take b++xk k i v 0 l++f.drop (b+n)).length=f.length:=by simp_all [List.length_append,List.length_take,List.length_drop,po] <;> omega
 refine⟨C,I,_,rfl,sg,setRow_heap w C cells _ I _ r1,by simp only[List.size_toArray,List.length_set,Array.length_toList];rw[r2,Z],VL.mk fun q x D=>?_⟩;have M:(f.take b).length=b:=by rw[List.length_take];omega
 have a1:(f.take b++xk k i v 0 l).length=b+n:=by rw[List.length_append,po,M,h1,J]
 have B:∀q,q≠b+i→∀u,cells[q]? = some u→((cells.toList.set (b+i) (.int k v)).toArray)[q]? = some u:=fun q D u hu=>by
  grind
 rcases Nat.lt_or_ge q (b+n)with c1 | c1
 ·rw[List.getElem?_append_left (by omega)]at D;rcases Nat.lt_or_ge q b with c2 | c2
  ·grind (splits:=6) (ematch:=4) [VL.get,V.mono]
  ·rw[List.getElem?_append_right (by omega),M,BW (by omega)]at D;cases D;by_cases e:q=b+i
   ·grind (splits:=6) (ematch:=4) [Array.length_toList,dM]
   ·refine⟨.int k (l.getD (q - b) 0),B q e _ ?_,?_⟩
    ·grind
    ·rw[if_neg (by omega)];exact dM _ _ _
 ·rw[List.getElem?_append_right (by omega),a1,List.getElem?_drop,show b+n+(q - (b+n))=q by omega]at D;obtain⟨u,u1,u2⟩:=VL.get r3 D;exact⟨u,B q (by omega) u u1,V.mono hF L u2⟩
theorem yW(m:Mem Bw w0 ρ φ h w){o:Oper}{a:Act}{t e:TypeId}{ti u:TI}(ht:aO P t ti){n:Nat}(hk:ti.k = .ar n e)(f:aO P e u){k:IntKind}(q:u.k = .int k){J io:Operand}{z:List ag}(L:V (Fr (own φ h) Bw w) ρ (.agg z) (a.eval J))
  {l:QK} (hl:sB k z=some l) (hn:z.length=n) {β:Bool} {N:IntKind} {j:Int} (O:V (Fr (own φ h) Bw w) ρ (.p β (.int N) j) (a.eval io)) (X:o.op = .index t J io) (M:0≤j∧j<(n:Int)) :
  Good P o a w (aG Bw w0 ρ φ h w new (.p false (.int k) (l.getD j.toNat 0)) []):=by
 obtain⟨d,Y,B⟩:=ht.hu;rw[hk]at B;simp only[UK]at B;subst B;obtain⟨de,Z,C⟩:=f.hu;rw[q]at C;simp only[UK]at C;subst C;have D:u.size=1:=f.ha (by rw[q];rfl);simp only[V]at L;obtain⟨vs,ex,a1,E⟩:=L;obtain⟨q1,q2⟩:=qD hl E;have hq:=q2 j.toNat (by omega);have I:=bR O;have hp:P.plainKey e=true:=by simp[Program.plainKey,Z]
 have p1:=run_part_plain (P:=P) w hp (xs:=vs) (off:=j.toNat*u.size) (v:= .int k (l.getD j.toNat 0)) (by rw[D,Nat.mul_one];exact hq);refine Good.aH (v:= .int k (l.getD j.toNat 0)) (w':=w) ?_ (aG.pure m (dM _ _ _));simp[execOp,X,Instr.index,asIntOf,I,ex,run_underlying Y,run_sizeOf f,M.1,M.2,p1,Result.andThen]
end
theorem run_copy_cells{P:Program}{w:World}{t t2 ty e:TypeId}{i:TypeInfo}(ht:P.underlying t=some (.slice e))(hi:P.info? e=some i){g n cap:Nat}{f:QU}{B:TypeId}
  (E:w.heap[g]? = some (.cells f B (0,0))) {ad:Option Addr} {len c:Nat} {cs:QY} (A:cs.length=min len n*i.size) (u:ad=none→cs=[])
  (z:∀b,ad=some b→∀j v,cs[j]? = some v→w.cell? (b.add j)=some v) (C:cs.length≤f.size) (I:∀v∈cs,v.oneCell'=true) :
  (Builtin.copy_ #[t,t2] ty #[.slice (some ⟨g,0,none⟩) n cap,.slice ad len c]).run P w =
   .ok (goInt (min len n:Nat)) (w.setRow g (cs++f.toList.drop cs.length).toArray):=by
 have q:=run_storeCells_at P g 0 B cs 0 f w E (by omega) I;simp only[Nat.add_zero,Nat.zero_add,List.take_zero,List.nil_append]at q;have D:Nat.min len n=min len n:=rfl;cases ad with
 | none =>
  have:=u rfl;subst this;simp[Builtin.copy_,run_underlying ht,Builtin.lenOf,Builtin.firstCells,sizeOf,typeInfo,hi,q,D]
 | some b =>
  have hl:=run_loadCells_list (P:=P) w b cs (z b rfl);rw[A]at hl;simp[Builtin.copy_,run_underlying ht,Builtin.lenOf,Builtin.firstCells,sizeOf,typeInfo,hi,hl,q,D]
section
variable{P:Program}{Bw:Nat→Prop}{w0:cE P}{ρ:Nat→QW}{φ:Nat→Nat→Prop}{h:Nat→Qz}{w:World}{new:Nat}
theorem Hy(m:Mem Bw w0 ρ φ h w){o:Oper}{a:Act}{t t2 e:TypeId}{ti te:TI}(ht:aO P t ti)(hk:ti.k = .sl e)(a7:aO P e te){A:Ty}(hT:te.T=some A)
  {xo yo:Operand} {id:Nat} {y:ag} (hx:V (Fr (own φ h) Bw w) ρ (.sl id) (a.eval xo)) (hy:V (Fr (own φ h) Bw w) ρ y (a.eval yo)) (ho:o.op = .call { callee:= .builtin .copy,args:= #[xo,yo],argTypes:= #[t,t2] })
  {e':TypeId} {xs f:List A.den} (Z:h id=some (.arr e' A xs)) (b5:fp h A y=some f) :
  Good P o a w (aG Bw w0 ρ φ h w new (.p false (.int .i64) ((min f.length xs.length:Nat):Int)) [(id,some (.arr e' A (f.take xs.length++xs.drop f.length)))]):=by
 obtain⟨i,z,hi,hz,a1,b3,c8,c9,ch⟩:=a7.hi;obtain⟨b6,cp,cx⟩:=a7.hT A hT;have hu:=aX ht hk;have a8:i.size=A.size:=by rw[a1,b6]
 obtain⟨ad,len,c,I,a9,b7,Y⟩:=iF m b5 hy;obtain⟨u,q1,b8,hA,cells,r1,r2⟩:=m.ob id _ Z;simp only[V]at hx;obtain⟨a2,aa,nn,cc,d1⟩:=hx;rw[a2]at q1;cases q1;subst a9;rcases r1.2 with⟨J,hn⟩ | ⟨g,cap,b9,J,_,L,M,a3,ac,a4⟩
 ·-- nothing to copy c4
  have be:xs=[]:=List.eq_nil_of_length_eq_zero hn;subst be;have N:(Builtin.copy_ #[t,t2] o.type #[.slice none 0 0,.slice ad f.length c]).run P w = .ok (goInt 0) w:=by
   cases ad with
   | none=>simp[Builtin.copy_,run_underlying hu,Builtin.lenOf,Builtin.firstCells,sizeOf,typeInfo,hi]
   | some b =>have hl:=run_loadCells_list (P:=P) w b [] (fun j v O=>by simp at O);simp only[List.length_nil]at hl;simp[Builtin.copy_,run_underlying hu,Builtin.lenOf,Builtin.firstCells,sizeOf,typeInfo,hi,hl]
  refine Good.aH (v:=goInt 0) (w':=w) (by simp only[execOp,ho,resolve,invoke,builtin,Sem.run_bind,Sem.run_pure,Result.andThen_ok,List.map_toArray,List.map_cons,List.map_nil,J,I,N]) ?_;have E:apply [(id,some (.arr e' A (f.take ([]:List A.den).length++([]:List A.den).drop f.length)))] h=h:=by
   funext k;simp only[apply,bu,List.length_nil,List.take_zero,List.drop_nil,List.append_nil];split
   ·rename_i e2;rw[e2,Z]
   ·rfl
  have hv:V (Fr (own φ h) Bw w) ρ (.p false (.int .i64) ((min f.length ([]:List A.den).length:Nat):Int)) (goInt 0):=by simp only[V,ai,List.length_nil,Nat.min_zero];exact⟨rfl,rfl⟩
  refine⟨ρ,φ,by rw[E];exact m,by rw[E];exact fun _ _ _ h=>h,fun _ _ h=>h,fun _ _ h=> .inl h,?_⟩;rw[E];exact hv
 ·-- c5 is b4
  obtain⟨B,n1,n2,n3⟩:∃B:QY,B.length=f.length*A.size∧(∀b,ad=some b→∀j v,B[j]? = some v→w.cell? (b.add j)=some v) ∧
    (∀i (h':i<f.length),ai (Fr (own φ h) Bw w false) A f[i] (fun k v=>B[i*A.size+k]? = some v)):=by
   cases ax:ad with
   | none =>
    have a5:f.length=0:=by
     rcases Y ax with C | C
     ·rw[C]at I;simp only[Value.slice.injEq]at I;omega
     ·exact C
    exact⟨[],by simp[a5],fun b C=>(by cases C),fun i a6=>absurd a6 (by omega)⟩
   | some b =>
    obtain⟨B,p1,p2,p3⟩:=lF (g:=fun k v=>w.cell? (b.add k)=some v) (fun i a6=>by
     obtain⟨b',C,e2⟩:=b7 i a6;rw[ax]at C;cases C;exact e2)
    exact⟨B,p1,fun b' C=>(by cases C;exact p2),p3⟩
  have b1:=oC n1 n3;have bi:cells.length=xs.length*A.size:=r1.1;have c6:min f.length xs.length*A.size≤xs.length*A.size:=Nat.mul_le_mul_right _ (Nat.min_le_right _ _);have bs:min f.length xs.length*A.size≤f.length*A.size:=Nat.mul_le_mul_right _ (Nat.min_le_left _ _);have bv:xs.length*A.size≤cap*A.size:=Nat.mul_le_mul_right _ M;let cs:=B.take (min f.length xs.length*A.size)
  have D:cs.length=min f.length xs.length*A.size:=by simp only[cs,List.length_take,n1];omega
  have N:=run_copy_cells (P:=P) (w:=w) (t2:=t2) (ty:=o.type) hu hi L (n:=xs.length) (cap:=cap) (ad:=ad) (len:=f.length) (c:=c) (cs:=cs) (by rw[D,a8])
   (fun C=>by
    have a5:f.length=0:=by
     rcases Y C with e2 | e2
     ·rw[e2]at I;simp only[Value.slice.injEq]at I;omega
     ·exact e2
    exact List.eq_nil_of_length_eq_zero (by rw[D,a5];simp))
   (fun b C j v O=>n2 b C j v (by
    simp only[cs,List.getElem?_take]at O;split at O
    ·exact O
    ·cases O)) (by rw[D,ac];omega) (fun v hv=>b1 v (List.mem_of_mem_take hv))
  refine Good.aH (v:=_) (w':=_) (by simp only[execOp,ho,resolve,invoke,builtin,Sem.run_bind,Sem.run_pure,Result.andThen_ok,List.map_toArray,List.map_cons,List.map_nil,J,I,N];rfl) ?_;have q:(f.take xs.length++xs.drop f.length).length=xs.length:=by simp only[List.length_append,List.length_take,List.length_drop];omega
  refine cV m (some id) id (.arr e' A (f.take xs.length++xs.drop f.length)) (a.eval xo) (some g) (bc w g _) (fun k C=>⟨id,_,rfl,Z,rfl,b8 _ (by rw[J];simpa [dH]using C)⟩) (.inr ⟨rfl,a2⟩)
   (fun _ k X=> .inr (by rw[J]at X;simpa [dH]using X)) (fun F' bx hF c1=>?_) (by rw[bf];rfl) (fun C=>by rw[a2]at C;cases C) (fun F' bx hF c1 c7=>by simp only[V,ai];exact⟨rfl,rfl⟩)
  refine⟨fun _ h=>h,hA,cs++cells.drop cs.length,⟨?_,.inr ⟨g,cap,_,?_,Nat.zero_le _,setRow_heap w g b9 _ e' _ L,?_,a3,?_,?_⟩⟩,fun j O=>?_⟩
  ·simp only[List.length_append,List.length_drop,D,bi,q];omega
  ·rw[q,J]
  ·rw[q];exact M
  ·simp only[List.size_toArray,List.length_append,List.length_drop,Array.length_toList,D];omega
  ·rw[q,←a4];simp only[List.take_append,D,List.drop_take];rw[List.take_of_length_le (by rw[D];omega)]
  ·rw[q]at O;by_cases c2:j<f.length
   ·have C:(f.take xs.length++xs.drop f.length)[j]'(by rw[q];exact O)=f[j]:=by rw[List.getElem_append_left (by simp only[List.length_take];omega)];simp
    rw[C];refine ai.mono (hF _) (fun _ _ h=>h) (ai.gV (fun k v X hv=>?_) (n3 j c2));have c3:j*A.size+A.size≤min f.length xs.length*A.size:=by rw[←Nat.succ_mul];exact Nat.mul_le_mul_right _ (by omega)
    rw[List.getElem?_append_left (by rw[D];omega)];simp only[cs,List.getElem?_take];rw[if_pos (by omega)];exact hv
   ·have C:(f.take xs.length++xs.drop f.length)[j]'(by rw[q];exact O)=xs[j]:=by rw[List.getElem_append_right (by simp only[List.length_take];omega)];simp only[List.length_take,List.getElem_drop];congr 1;omega
    rw[C];refine ai.mono (hF _) (fun _ _ h=>h) (ai.gV (fun k v X hv=>?_) (r2 j O));have b2:min f.length xs.length=f.length:=Nat.min_eq_left (by omega);have c3:f.length*A.size≤j*A.size:=Nat.mul_le_mul_right _ (by omega);rw[List.getElem?_append_right (by rw[D,b2];omega),List.getElem?_drop];rw[←hv];congr 1;rw[D,b2];omega
end
end Go.Tv
