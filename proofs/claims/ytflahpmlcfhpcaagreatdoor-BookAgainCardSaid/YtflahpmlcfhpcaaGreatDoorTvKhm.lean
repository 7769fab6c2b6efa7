import Derived.Test.YtflahpmlcfhpcaaGreatDoorTvKdm
namespace Go.Tv
open Go Go.RowKit
def rz(k:IntKind):List ag→Option QK
 | []=>some []
 | .p _ (.int e) x::r=>if e=k then(match rz k r with
  | some l=>some ((show Int from x)::l)
  | none=>none)else none
 | _::_=>none
theorem pj{k:IntKind}{F:Bool→Addr→Value→Prop}{ρ:Nat→QW}:∀ {f:List ag} {l:QK} {g:Nat→Value→Prop},rz k f=some l→VL F ρ f g→l.length=f.length∧∀i,i<f.length→g i (.int k (l.getD i 0))
 | [],l,g,h,_=>by cases h;exact⟨rfl,fun i hi=>absurd hi (by simp)⟩
 | c::f,l,g,h,q=>by
  unfold rz at h;split at h
  ·rename_i e;cases e
  ·rename_i β D x r e;cases e;split at h
   ·rename_i hk;subst hk;split at h
    ·rename_i E hl;cases h;simp only[VL]at q;obtain⟨⟨u,z,A⟩,j⟩:=q;obtain⟨B,C⟩:=pj hl j;refine⟨by simp[B],fun i hi=>?_⟩;cases i with
     | zero=>rw[bX A]at z;exact z
     | succ i=>exact C i (by simpa using hi)
    ·cases h
   ·cases h
  ·cases h
section
variable{P:Program}{Bw:Nat→Prop}{w0:cw P}{ρ:Nat→QW}{φ:Nat→Nat→Prop}{h:Nat→Qz}{w:World}{new:Nat}
theorem xe(m:Mem Bw w0 ρ φ h w){o:Oper}{a:Act}{t e:TypeId}{ti q:TI}(ht:aN P t ti){n:Nat}(hk:ti.k = .ar n e)(x:aN P e q)(z:q.size=1){E io:Operand}{id i sz off:Nat}(I:V (Fr (own φ h) Bw w) ρ (.adr id i sz off) (a.eval E))
  {L:List ag} (hb:h id=some (.box L)) {β:Bool} {k:IntKind} {j:Int} (M:V (Fr (own φ h) Bw w) ρ (.p β (.int k) j) (a.eval io)) (N:o.op = .indexAddr t E io) (hc:0≤j∧j<(n:Int)) :
  Good P o a w (aF Bw w0 ρ φ h w new (.ada id (i*sz+off) n j.toNat) []):=by
 obtain⟨d,O,A⟩:=ht.hu;rw[hk]at A;simp only[UK]at A;subst A;obtain⟨u,J,B,X,cells,rfl,_⟩:=m.ob id _ hb;simp only[V]at I;obtain⟨g,f,Y⟩:=I;rw[J]at f;have C:B=g:=by
  rcases f with f | ⟨n,c,f⟩
  ·simpa using f
  ·cases f
 subst C;have D:=bX M;refine Good.aG (v:= .pointer (some ((⟨B,i*sz+off,none⟩:Addr).add (j.toNat*q.size)))) (w':=w) ?_ (aF.pure m ?_)
 ·simp[execOp,N,Instr.indexAt,asIntOf,D,Y,run_underlying O,Instr.sureAddr,run_sizeOf x,hc.1,hc.2]
 ·simp only[V];exact⟨B,J,by rw[cr,z,Nat.mul_one],by omega⟩
theorem uI(m:Mem Bw w0 ρ φ h w){o:Oper}{a:Act}{t e:TypeId}{ti q:TI}(ht:aN P t ti){n:Nat}(hk:ti.k = .ar n e)(x:aN P e q)(z:0<q.size){E io:Operand}{id i sz off:Nat}(I:V (Fr (own φ h) Bw w) ρ (.adr id i sz off) (a.eval E))
  {L:List ag} (hb:h id=some (.box L)) {β:Bool} {k:IntKind} {j:Int} (M:V (Fr (own φ h) Bw w) ρ (.p β (.int k) j) (a.eval io)) (N:o.op = .indexAddr t E io) (hc:0≤j∧j<(n:Int)) :
  Good P o a w (aF Bw w0 ρ φ h w new (.ada id (i*sz+off) (n*q.size) (j.toNat*q.size)) []):=by
 obtain⟨d,O,A⟩:=ht.hu;rw[hk]at A;simp only[UK]at A;subst A;obtain⟨u,J,B,X,cells,rfl,_⟩:=m.ob id _ hb;simp only[V]at I;obtain⟨g,f,Y⟩:=I;rw[J]at f;have C:B=g:=by
  rcases f with f | ⟨n,c,f⟩
  ·simpa using f
  ·cases f
 subst C;have D:=bX M;refine Good.aG (v:= .pointer (some ((⟨B,i*sz+off,none⟩:Addr).add (j.toNat*q.size)))) (w':=w) ?_ (aF.pure m ?_)
 ·simp[execOp,N,Instr.indexAt,asIntOf,D,Y,run_underlying O,Instr.sureAddr,run_sizeOf x,hc.1,hc.2]
 ·simp only[V];exact⟨B,J,by rw[cr],Nat.mul_lt_mul_of_pos_right (by omega) z⟩
theorem wG(m:Mem Bw w0 ρ φ h w){o:Oper}{a:Act}{t e:TypeId}{ti f:TI}(ht:aN P t ti){n:Nat}(hk:ti.k = .ar n e)(q:aN P e f)(u:f.size=1){A io:Operand}{id b N p:Nat}(B:V (Fr (own φ h) Bw w) ρ (.ada id b N p) (a.eval A))
  {β:Bool} {k:IntKind} {j:Int} (C:V (Fr (own φ h) Bw w) ρ (.p β (.int k) j) (a.eval io)) (D:o.op = .indexAddr t A io) (hc:(0≤j∧j<(n:Int))∧p+j.toNat<N) :
  Good P o a w (aF Bw w0 ρ φ h w new (.ada id b N (p+j.toNat)) []):=by
 obtain⟨d,E,x⟩:=ht.hu;rw[hk]at x;simp only[UK]at x;subst x;simp only[V]at B;obtain⟨g,I,J,_⟩:=B;have z:=bX C;refine Good.aG (v:= .pointer (some ((⟨g,b+p,none⟩:Addr).add (j.toNat*f.size)))) (w':=w) ?_ (aF.pure m ?_)
 ·simp[execOp,D,Instr.indexAt,asIntOf,z,J,run_underlying E,Instr.sureAddr,run_sizeOf q,hc.1.1,hc.1.2]
 ·simp only[V];exact⟨g,I,by rw[cr,u,Nat.mul_one,Nat.add_assoc],hc.2⟩
theorem zf(m:Mem Bw w0 ρ φ h w){o:Oper}{a:Act}{t:TypeId}{ti:TI}(ht:aN P t ti){k:IntKind}(hk:ti.k = .int k){x:Operand}{id b n i:Nat}(z:V (Fr (own φ h) Bw w) ρ (.ada id b n i) (a.eval x))
  (C:o.op = .load t x) {f:List ag} (hb:h id=some (.box f)) {l:QK} (hl:rz k ((f.drop b).take n)=some l) (hn:b+n≤f.length) :
  Good P o a w (aF Bw w0 ρ φ h w new (.p false (.int k) (l.getD i 0)) []):=by
 obtain⟨u,D,j,q,cells,rfl,_,E,N,I⟩:=m.ob id _ hb;simp only[V]at z;obtain⟨g,A,J,hi⟩:=z;rw[D]at A;obtain rfl:j=g:=by simpa using A
 have L:=VL.take (n:=n) (VL.drop (n:=b) I);obtain⟨O,M⟩:=pj hl L;have B:((f.drop b).take n).length=n:=by rw[List.length_take,List.length_drop];omega
 have e:=M i (by omega);refine Good.aG (v:= .int k (l.getD i 0)) (w':=w) ?_ (aF.pure m (dH _ _ _));have hc:w.cell? (⟨j,b+i,none⟩:Addr)=some (.int k (l.getD i 0)):=by have:=cell_of_row w j (b+i) cells q (0,0) E;rw[this];exact e
 simp only[execOp,C,Instr.loadAt,J,Instr.sureAddr,Sem.run_bind,Sem.run_pure,Result.andThen_ok];unfold loadVar;rw[Sem.run_bind,kP ht,hk];simp only[Result.andThen_ok,TK.agg];rw[if_neg (by simp),run_load,hc];rfl
def uO(k:IntKind)(i:Nat)(v:Int):Nat→QK→List ag
 | _,[]=>[]
 | j,x::r=> .p false (.int k) (if i=j then v else x:Int)::uO k i v (j+1) r
theorem oF{k:IntKind}{i:Nat}{v:Int}:∀ {j:Nat} {l:QK},(uO k i v j l).length=l.length
 | _,[]=>rfl
 | j,x::r=>by simp[uO,oF (j:=j+1) (l:=r)]
theorem BE{k:IntKind}{i:Nat}{v:Int}:∀ {l:QK} {j q:Nat},q<l.length→(uO k i v j l)[q]? = some (.p false (.int k) (if i=j+q then v else l.getD q 0:Int))
 | [],_,q,h=>absurd h (by simp)
 | x::r,j,0,_=>by simp[uO]
 | x::r,j,q+1,h=>by
  have:=BE (k:=k) (i:=i) (v:=v) (l:=r) (j:=j+1) (q:=q) (by simpa using h);simp only[uO,List.getElem?_cons_succ,this,List.getD_cons_succ];rw[show j+1+q=j+(q+1) by omega]
theorem w9(m:Mem Bw w0 ρ φ h w){o:Oper}{a:Act}{t:TypeId}{ti:TI}(ht:aN P t ti)(E:ti.size=1){k:IntKind}{xo yo:Operand}{id b n i:Nat}(hx:V (Fr (own φ h) Bw w) ρ (.ada id b n i) (a.eval xo))
  {β:Bool} {v:Int} (hy:V (Fr (own φ h) Bw w) ρ (.p β (.int k) v) (a.eval yo)) (ho:o.op = .store t xo yo) {f:List ag} (hb:h id=some (.box f)) {l:QK} (hl:rz k ((f.drop b).take n)=some l) (hn:b+n≤f.length) :
  Good P o a w (aF Bw w0 ρ φ h w new .unk [(id,some (.box (f.take b++uO k i v 0 l++f.drop (b+n))))]):=by
 obtain⟨u,N,I,L,cells,rfl,sg,r1,r2,O⟩:=m.ob id _ hb;simp only[V]at hx;obtain⟨g,hg,he,hi⟩:=hx;rw[N]at hg;obtain rfl:I=g:=by simpa using hg
 have X:=bX hy;have C:((f.drop b).take n).length=n:=by rw[List.length_take,List.length_drop];omega
 obtain⟨h1,h2⟩:=pj hl (VL.take (n:=n) (VL.drop (n:=b) O));have j:(Value.int k v).cells = #[Value.int k v]:=rfl;have D:=gM (P:=P) ht r1 (v:= .int k v) (p:=b+i) (by rw[j,E];rfl) (by rw[r2,E];omega) (fun c hc=>by
  rw[j]at hc;simp only[List.mem_singleton]at hc;rw[hc];rfl)
 have z:(cells.toList.take (b+i)++(Value.int k v).cells.toList++cells.toList.drop (b+i+ti.size))=cells.toList.set (b+i) (.int k v):=by rw[j,E,List.set_eq_take_append_cons_drop,if_pos (by simp only[Array.length_toList];omega)];simp
 rw[z]at D;refine Good.jD (w':=_) (by simp[execOp,ho,Instr.storeAt,he,Instr.sureAddr,X,D];rfl) ?_;refine dY m (some id) id (.box (f.take b++uO k i v 0 l++f.drop (b+n))) (.pointer (some ⟨I,0,none⟩)) (φ id) (some I) (ba w I _) (fun k e=>⟨id,_,rfl,hb,rfl,by cases e;exact sg⟩) (.inr ⟨rfl,N⟩)
  (fun _ k hk=>Nat.lt_of_lt_of_le (m.lt id _ k hb rfl hk) (ba w I _).size) (fun _ k hk=> .inr ⟨id,_,rfl,hb,rfl,hk⟩) (fun F' Y Z J=>?_) (by rw[bm];rfl) (fun e=>by rw[N]at e;cases e) (fun F' Y Z J a3=>by simp only[V])
 have a1:(f.take b++uO k i v 0 l++f.drop (b+n)).length=f.length:=by simp only[List.length_append,List.length_take,List.length_drop,oF,h1,C];omega
 refine⟨I,L,_,rfl,sg,setRow_heap w I cells _ L _ r1,by simp only[List.size_toArray,List.length_set,Array.length_toList];rw[r2,a1],VL.mk fun q x B=>?_⟩;have M:(f.take b).length=b:=by rw[List.length_take];omega
 have a2:(f.take b++uO k i v 0 l).length=b+n:=by rw[List.length_append,oF,M,h1,C]
 have A:∀q,q≠b+i→∀u,cells[q]? = some u→((cells.toList.set (b+i) (.int k v)).toArray)[q]? = some u:=fun q B u hu=>by simp only[List.getElem?_toArray];rw[List.getElem?_set_ne (Ne.symm B)];simpa using hu
 rcases Nat.lt_or_ge q (b+n)with c1 | c1
 ·rw[List.getElem?_append_left (by omega)]at B;rcases Nat.lt_or_ge q b with c2 | c2
  ·rw[List.getElem?_append_left (by omega),List.getElem?_take,if_pos c2]at B;obtain⟨u,u1,u2⟩:=VL.get O B;exact⟨u,A q (by omega) u u1,V.mono Z J u2⟩
  ·rw[List.getElem?_append_right (by omega),M,BE (by omega)]at B;cases B;by_cases e:q=b+i
   ·refine⟨.int k v,?_,?_⟩
    ·simp only[List.getElem?_toArray];rw[e,List.getElem?_set_self (by simp only[Array.length_toList];omega)]
    ·rw[if_pos (by omega)];exact dH _ _ _
   ·refine⟨.int k (l.getD (q - b) 0),A q e _ ?_,?_⟩
    ·have:=h2 (q - b) (by omega);rwa [show b+(q - b)=q by omega]at this
    ·rw[if_neg (by omega)];exact dH _ _ _
 ·rw[List.getElem?_append_right (by omega),a2,List.getElem?_drop,show b+n+(q - (b+n))=q by omega]at B;obtain⟨u,u1,u2⟩:=VL.get O B;exact⟨u,A q (by omega) u u1,V.mono Z J u2⟩
theorem xp(m:Mem Bw w0 ρ φ h w){o:Oper}{a:Act}{t e:TypeId}{ti u:TI}(ht:aN P t ti){n:Nat}(hk:ti.k = .ar n e)(f:aN P e u){k:IntKind}(q:u.k = .int k){I io:Operand}{x:List ag}(J:V (Fr (own φ h) Bw w) ρ (.agg x) (a.eval I))
  {l:QK} (hl:rz k x=some l) (hn:x.length=n) {β:Bool} {L:IntKind} {j:Int} (M:V (Fr (own φ h) Bw w) ρ (.p β (.int L) j) (a.eval io)) (N:o.op = .index t I io) (hc:0≤j∧j<(n:Int)) :
  Good P o a w (aF Bw w0 ρ φ h w new (.p false (.int k) (l.getD j.toNat 0)) []):=by
 obtain⟨d,O,z⟩:=ht.hu;rw[hk]at z;simp only[UK]at z;subst z;obtain⟨de,X,B⟩:=f.hu;rw[q]at B;simp only[UK]at B;subst B;have C:u.size=1:=f.ha (by rw[q];rfl);simp only[V]at J;obtain⟨Y,ex,Z,D⟩:=J;obtain⟨q1,q2⟩:=pj hl D;have hq:=q2 j.toNat (by omega);have E:=bX M;have hp:P.plainKey e=true:=by simp[Program.plainKey,X]
 have p1:=run_part_plain (P:=P) w hp (xs:=Y) (off:=j.toNat*u.size) (v:= .int k (l.getD j.toNat 0)) (by rw[C,Nat.mul_one];exact hq);refine Good.aG (v:= .int k (l.getD j.toNat 0)) (w':=w) ?_ (aF.pure m (dH _ _ _));simp[execOp,N,Instr.index,asIntOf,E,ex,run_underlying O,run_sizeOf f,hc.1,hc.2,p1,Result.andThen]
end
theorem run_copy_cells{P:Program}{w:World}{t t2 ty e:TypeId}{i:TypeInfo}(ht:P.underlying t=some (.slice e))(hi:P.info? e=some i){g n cap:Nat}{f:QU}{z:TypeId}
  (C:w.heap[g]? = some (.cells f z (0,0))) {ad:Option Addr} {len c:Nat} {cs:QY} (x:cs.length=min len n*i.size) (q:ad=none→cs=[])
  (u:∀b,ad=some b→∀j v,cs[j]? = some v→w.cell? (b.add j)=some v) (A:cs.length≤f.size) (D:∀v∈cs,v.oneCell'=true) :
  (Builtin.copy_ #[t,t2] ty #[.slice (some ⟨g,0,none⟩) n cap,.slice ad len c]).run P w =
   .ok (goInt (min len n:Nat)) (w.setRow g (cs++f.toList.drop cs.length).toArray):=by
 have p:=run_storeCells_at P g 0 z cs 0 f w C (by omega) D;simp only[Nat.add_zero,Nat.zero_add,List.take_zero,List.nil_append]at p;have B:Nat.min len n=min len n:=rfl;cases ad with
 | none =>
  have:=q rfl;subst this;simp[Builtin.copy_,run_underlying ht,Builtin.lenOf,Builtin.firstCells,sizeOf,typeInfo,hi,p,B]
 | some b =>
  have hl:=run_loadCells_list (P:=P) w b cs (u b rfl);rw[x]at hl;simp[Builtin.copy_,run_underlying ht,Builtin.lenOf,Builtin.firstCells,sizeOf,typeInfo,hi,hl,p,B]
section
variable{P:Program}{Bw:Nat→Prop}{w0:cw P}{ρ:Nat→QW}{φ:Nat→Nat→Prop}{h:Nat→Qz}{w:World}{new:Nat}
theorem Ey(m:Mem Bw w0 ρ φ h w){o:Oper}{a:Act}{t t2 e:TypeId}{ti te:TI}(ht:aN P t ti)(hk:ti.k = .sl e)(a6:aN P e te){A:Ty}(hT:te.T=some A)
  {xo yo:Operand} {id:Nat} {y:ag} (hx:V (Fr (own φ h) Bw w) ρ (.sl id) (a.eval xo)) (hy:V (Fr (own φ h) Bw w) ρ y (a.eval yo)) (ho:o.op = .call { callee:= .builtin .copy,args:= #[xo,yo],argTypes:= #[t,t2] })
  {e':TypeId} {xs f:List A.den} (Y:h id=some (.arr e' A xs)) (b4:fb h A y=some f) :
  Good P o a w (aF Bw w0 ρ φ h w new (.p false (.int .i64) ((min f.length xs.length:Nat):Int)) [(id,some (.arr e' A (f.take xs.length++xs.drop f.length)))]):=by
 obtain⟨i,z,hi,hz,Z,b2,c7,c8,c9⟩:=a6.hi;obtain⟨b5,ch,cl⟩:=a6.hT A hT;have hu:=aX ht hk;have a7:i.size=A.size:=by rw[Z,b5]
 obtain⟨ad,len,c,E,a8,b6,X⟩:=hI m b4 hy;obtain⟨u,q1,b7,hA,cells,r1,r2⟩:=m.ob id _ Y;simp only[V]at hx;obtain⟨a1,aa,nn,cc,cp⟩:=hx;rw[a1]at q1;cases q1;subst a8;rcases r1.2 with⟨I,hn⟩ | ⟨g,cap,b8,I,_,J,L,a2,a9,a3⟩
 ·-- nothing to copy c3
  have b9:xs=[]:=List.eq_nil_of_length_eq_zero hn;subst b9;have M:(Builtin.copy_ #[t,t2] o.type #[.slice none 0 0,.slice ad f.length c]).run P w = .ok (goInt 0) w:=by
   cases ad with
   | none=>simp[Builtin.copy_,run_underlying hu,Builtin.lenOf,Builtin.firstCells,sizeOf,typeInfo,hi]
   | some b =>have hl:=run_loadCells_list (P:=P) w b [] (fun j v N=>by simp at N);simp only[List.length_nil]at hl;simp[Builtin.copy_,run_underlying hu,Builtin.lenOf,Builtin.firstCells,sizeOf,typeInfo,hi,hl]
  refine Good.aG (v:=goInt 0) (w':=w) (by simp only[execOp,ho,resolve,invoke,builtin,Sem.run_bind,Sem.run_pure,Result.andThen_ok,List.map_toArray,List.map_cons,List.map_nil,I,E,M]) ?_;have D:apply [(id,some (.arr e' A (f.take ([]:List A.den).length++([]:List A.den).drop f.length)))] h=h:=by
   funext k;simp only[apply,bF,List.length_nil,List.take_zero,List.drop_nil,List.append_nil];split
   ·rename_i e2;rw[e2,Y]
   ·rfl
  have hv:V (Fr (own φ h) Bw w) ρ (.p false (.int .i64) ((min f.length ([]:List A.den).length:Nat):Int)) (goInt 0):=by simp only[V,ah,List.length_nil,Nat.min_zero];exact⟨rfl,rfl⟩
  refine⟨ρ,φ,by rw[D];exact m,by rw[D];exact fun _ _ _ h=>h,fun _ _ h=>h,fun _ _ h=> .inl h,?_⟩;rw[D];exact hv
 ·-- c4 is b3
  obtain⟨x,n1,n2,n3⟩:∃x:QY,x.length=f.length*A.size∧(∀b,ad=some b→∀j v,x[j]? = some v→w.cell? (b.add j)=some v) ∧
    (∀i (h':i<f.length),ah (Fr (own φ h) Bw w false) A f[i] (fun k v=>x[i*A.size+k]? = some v)):=by
   cases ac:ad with
   | none =>
    have a4:f.length=0:=by
     rcases X ac with B | B
     ·rw[B]at E;simp only[Value.slice.injEq]at E;omega
     ·exact B
    exact⟨[],by simp[a4],fun b B=>(by cases B),fun i a5=>absurd a5 (by omega)⟩
   | some b =>
    obtain⟨x,p1,p2,p3⟩:=kK (g:=fun k v=>w.cell? (b.add k)=some v) (fun i a5=>by
     obtain⟨b',B,e2⟩:=b6 i a5;rw[ac]at B;cases B;exact e2)
    exact⟨x,p1,fun b' B=>(by cases B;exact p2),p3⟩
  have ax:=nK n1 n3;have be:cells.length=xs.length*A.size:=r1.1;have c5:min f.length xs.length*A.size≤xs.length*A.size:=Nat.mul_le_mul_right _ (Nat.min_le_right _ _);have bi:min f.length xs.length*A.size≤f.length*A.size:=Nat.mul_le_mul_right _ (Nat.min_le_left _ _);have bs:xs.length*A.size≤cap*A.size:=Nat.mul_le_mul_right _ L;let cs:=x.take (min f.length xs.length*A.size)
  have C:cs.length=min f.length xs.length*A.size:=by simp only[cs,List.length_take,n1];omega
  have M:=run_copy_cells (P:=P) (w:=w) (t2:=t2) (ty:=o.type) hu hi J (n:=xs.length) (cap:=cap) (ad:=ad) (len:=f.length) (c:=c) (cs:=cs) (by rw[C,a7])
   (fun B=>by
    have a4:f.length=0:=by
     rcases X B with e2 | e2
     ·rw[e2]at E;simp only[Value.slice.injEq]at E;omega
     ·exact e2
    exact List.eq_nil_of_length_eq_zero (by rw[C,a4];simp))
   (fun b B j v N=>n2 b B j v (by
    simp only[cs,List.getElem?_take]at N;split at N
    ·exact N
    ·cases N)) (by rw[C,a9];omega) (fun v hv=>ax v (List.mem_of_mem_take hv))
  refine Good.aG (v:=_) (w':=_) (by simp only[execOp,ho,resolve,invoke,builtin,Sem.run_bind,Sem.run_pure,Result.andThen_ok,List.map_toArray,List.map_cons,List.map_nil,I,E,M];rfl) ?_;have q:(f.take xs.length++xs.drop f.length).length=xs.length:=by simp only[List.length_append,List.length_take,List.length_drop];omega
  refine cV m (some id) id (.arr e' A (f.take xs.length++xs.drop f.length)) (a.eval xo) (some g) (ba w g _) (fun k B=>⟨id,_,rfl,Y,rfl,b7 _ (by rw[I];simpa [dx]using B)⟩) (.inr ⟨rfl,a1⟩)
   (fun _ k O=> .inr (by rw[I]at O;simpa [dx]using O)) (fun F' bv hF bx=>?_) (by rw[bm];rfl) (fun B=>by rw[a1]at B;cases B) (fun F' bv hF bx c6=>by simp only[V,ah];exact⟨rfl,rfl⟩)
  refine⟨fun _ h=>h,hA,cs++cells.drop cs.length,⟨?_,.inr ⟨g,cap,_,?_,Nat.zero_le _,setRow_heap w g b8 _ e' _ J,?_,a2,?_,?_⟩⟩,fun j N=>?_⟩
  ·simp only[List.length_append,List.length_drop,C,be,q];omega
  ·rw[q,I]
  ·rw[q];exact L
  ·simp only[List.size_toArray,List.length_append,List.length_drop,Array.length_toList,C];omega
  ·rw[q,←a3];simp only[List.take_append,C,List.drop_take];rw[List.take_of_length_le (by rw[C];omega)]
  ·rw[q]at N;by_cases c1:j<f.length
   ·have B:(f.take xs.length++xs.drop f.length)[j]'(by rw[q];exact N)=f[j]:=by rw[List.getElem_append_left (by simp only[List.length_take];omega)];simp
    rw[B];refine ah.mono (hF _) (fun _ _ h=>h) (ah.gD (fun k v O hv=>?_) (n3 j c1));have c2:j*A.size+A.size≤min f.length xs.length*A.size:=by rw[←Nat.succ_mul];exact Nat.mul_le_mul_right _ (by omega)
    rw[List.getElem?_append_left (by rw[C];omega)];simp only[cs,List.getElem?_take];rw[if_pos (by omega)];exact hv
   ·have B:(f.take xs.length++xs.drop f.length)[j]'(by rw[q];exact N)=xs[j]:=by rw[List.getElem_append_right (by simp only[List.length_take];omega)];simp only[List.length_take,List.getElem_drop];congr 1;omega
    rw[B];refine ah.mono (hF _) (fun _ _ h=>h) (ah.gD (fun k v O hv=>?_) (r2 j N));have b1:min f.length xs.length=f.length:=Nat.min_eq_left (by omega);have c2:f.length*A.size≤j*A.size:=Nat.mul_le_mul_right _ (by omega);rw[List.getElem?_append_right (by rw[C,b1];omega),List.getElem?_drop];rw[←hv];congr 1;rw[C,b1];omega
end
end Go.Tv
