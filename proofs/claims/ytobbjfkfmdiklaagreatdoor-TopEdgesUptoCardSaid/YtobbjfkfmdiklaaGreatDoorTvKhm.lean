import Derived.Test.YtobbjfkfmdiklaaGreatDoorTvKdm
namespace Go.Tv
open Go Go.RowKit
def qQ(k:IntKind):List ag→Option QK
 | []=>some []
 | .p _ (.int j) x::r=>if j=k then(match qQ k r with
  | some l=>some ((show Int from x)::l)
  | none=>none)else none
 | _::_=>none
theorem pI{k:IntKind}{F:Bool→Addr→Value→Prop}{ρ:Nat→QW}:∀ {j:List ag} {l:QK} {g:Nat→Value→Prop},qQ k j=some l→VL F ρ j g→l.length=j.length∧∀i,i<j.length→g i (.int k (l.getD i 0))
 | [],l,g,h,_=>by cases h;exact⟨rfl,fun i hi=>absurd hi (by simp)⟩
 | c::j,l,g,h,z=>by
  unfold qQ at h;split at h
  ·rename_i e;cases e
  ·rename_i β C x r e;cases e;split at h
   ·rename_i hk;subst hk;split at h
    ·rename_i D hl;cases h;simp only[VL]at z;obtain⟨⟨u,A,B⟩,q⟩:=z;obtain⟨h1,h2⟩:=pI hl q;refine⟨by simp[h1],fun i hi=>?_⟩;cases i with
     | zero=>rw[bQ B]at A;exact A
     | succ i=>exact h2 i (by simpa using hi)
    ·cases h
   ·cases h
  ·cases h
def Ar:List ag→Option (List QJ)
 | []=>some []
 | .p _ .flt x::r=>match Ar r with
  | some l=>some ((show QJ from x)::l)
  | none=>none
 | _::_=>none
theorem yv{F:Bool→Addr→Value→Prop}{ρ:Nat→QW}:∀ {j:List ag} {l:List QJ} {g:Nat→Value→Prop},Ar j=some l→VL F ρ j g→l.length=j.length∧∀i,i<j.length→∃m,g i (.float .f64 m)∧cj m=l.getD i none
 | [],l,g,h,_=>by cases h;exact⟨rfl,fun i hi=>absurd hi (by simp)⟩
 | c::j,l,g,h,q=>by
  unfold Ar at h;split at h
  ·rename_i e;cases e
  ·rename_i β x r e;cases e;split at h
   ·rename_i B hl;cases h;simp only[VL]at q;obtain⟨⟨u,z,A⟩,p⟩:=q;obtain⟨h1,h2⟩:=yv hl p;refine⟨by simp[h1],fun i hi=>?_⟩;cases i with
    | zero =>
     obtain⟨m,rfl,hm⟩:=xe A;exact⟨m,z,hm⟩
    | succ i=>exact h2 i (by simpa using hi)
   ·cases h
  ·cases h
section
variable{P:Program}{Bw:Nat→Prop}{w0:cC P}{ρ:Nat→QW}{φ:Nat→Nat→Prop}{h:Nat→Qz}{w:World}{new:Nat}
theorem xI(m:Mem Bw w0 ρ φ h w){o:Oper}{a:Act}{t e:TypeId}{ti x:TI}(ht:aN P t ti){n:Nat}(hk:ti.k = .ar n e)(z:aN P e x)(A:x.size=1){E io:Operand}{id i sz off:Nat}(I:V (Fr (own φ h) Bw w) ρ (.adr id i sz off) (a.eval E))
  {L:List ag} (hb:h id=some (.box L)) {β:Bool} {k:IntKind} {j:Int} (M:V (Fr (own φ h) Bw w) ρ (.p β (.int k) j) (a.eval io)) (N:o.op = .indexAddr t E io) (hc:0≤j∧j<(n:Int)) :
  Good P o a w (aF Bw w0 ρ φ h w new (.ada id (i*sz+off) n j.toNat) []):=by
 obtain⟨d,h1,h2⟩:=ht.hu;rw[hk]at h2;simp only[UK]at h2;subst h2;obtain⟨u,J,B,O,cells,rfl,_⟩:=m.ob id _ hb;simp only[V]at I;obtain⟨g,q,X⟩:=I;rw[J]at q;have C:B=g:=by
  rcases q with q | ⟨n,c,q⟩
  ·simpa using q
  ·cases q
 subst C;have D:=bQ M;refine Good.aG (v:= .pointer (some ((⟨B,i*sz+off,none⟩:Addr).add (j.toNat*x.size)))) (w':=w) ?_ (aF.pure m ?_)
 ·simp[execOp,N,Instr.indexAt,asIntOf,D,X,run_underlying h1,Instr.sureAddr,run_sizeOf z,hc.1,hc.2]
 ·simp only[V];exact⟨B,J,by rw[ck,A,Nat.mul_one],by omega⟩
theorem xa(m:Mem Bw w0 ρ φ h w){o:Oper}{a:Act}{t e:TypeId}{ti x:TI}(ht:aN P t ti){n:Nat}(hk:ti.k = .ar n e)(z:aN P e x)(A:0<x.size){E io:Operand}{id i sz off:Nat}(I:V (Fr (own φ h) Bw w) ρ (.adr id i sz off) (a.eval E))
  {L:List ag} (hb:h id=some (.box L)) {β:Bool} {k:IntKind} {j:Int} (M:V (Fr (own φ h) Bw w) ρ (.p β (.int k) j) (a.eval io)) (N:o.op = .indexAddr t E io) (hc:0≤j∧j<(n:Int)) :
  Good P o a w (aF Bw w0 ρ φ h w new (.ada id (i*sz+off) (n*x.size) (j.toNat*x.size)) []):=by
 obtain⟨d,h1,h2⟩:=ht.hu;rw[hk]at h2;simp only[UK]at h2;subst h2;obtain⟨u,J,B,O,cells,rfl,_⟩:=m.ob id _ hb;simp only[V]at I;obtain⟨g,q,X⟩:=I;rw[J]at q;have C:B=g:=by
  rcases q with q | ⟨n,c,q⟩
  ·simpa using q
  ·cases q
 subst C;have D:=bQ M;refine Good.aG (v:= .pointer (some ((⟨B,i*sz+off,none⟩:Addr).add (j.toNat*x.size)))) (w':=w) ?_ (aF.pure m ?_)
 ·simp[execOp,N,Instr.indexAt,asIntOf,D,X,run_underlying h1,Instr.sureAddr,run_sizeOf z,hc.1,hc.2]
 ·simp only[V];exact⟨B,J,by rw[ck],Nat.mul_lt_mul_of_pos_right (by omega) A⟩
theorem vD(m:Mem Bw w0 ρ φ h w){o:Oper}{a:Act}{t e:TypeId}{ti x:TI}(ht:aN P t ti){n:Nat}(hk:ti.k = .ar n e)(z:aN P e x){D io:Operand}{id i sz off:Nat}(E:V (Fr (own φ h) Bw w) ρ (.adr id i sz off) (a.eval D))
  {J:List ag} (hb:h id=some (.box J)) {β:Bool} {k:IntKind} {j:Int} (L:V (Fr (own φ h) Bw w) ρ (.p β (.int k) j) (a.eval io)) (M:o.op = .indexAddr t D io) (hc:0≤j∧j<(n:Int)) :
  Good P o a w (aF Bw w0 ρ φ h w new (.adr id j.toNat x.size (i*sz+off)) []):=by
 obtain⟨d,h1,h2⟩:=ht.hu;rw[hk]at h2;simp only[UK]at h2;subst h2;obtain⟨u,I,A,N,cells,rfl,_⟩:=m.ob id _ hb;simp only[V]at E;obtain⟨g,q,O⟩:=E;rw[I]at q;have B:A=g:=by
  rcases q with q | ⟨n,c,q⟩
  ·simpa using q
  ·cases q
 subst B;have C:=bQ L;refine Good.aG (v:= .pointer (some ((⟨A,i*sz+off,none⟩:Addr).add (j.toNat*x.size)))) (w':=w) ?_ (aF.pure m ?_)
 ·simp[execOp,M,Instr.indexAt,asIntOf,C,O,run_underlying h1,Instr.sureAddr,run_sizeOf z,hc.1,hc.2]
 ·simp only[V];exact⟨A,.inl I,by rw[ck,Nat.add_comm]⟩
theorem vM(m:Mem Bw w0 ρ φ h w){o:Oper}{a:Act}{t e:TypeId}{ti q:TI}(ht:aN P t ti){n:Nat}(hk:ti.k = .ar n e)(u:aN P e q)(x:q.size=1){A io:Operand}{id b N p:Nat}(B:V (Fr (own φ h) Bw w) ρ (.ada id b N p) (a.eval A))
  {β:Bool} {k:IntKind} {j:Int} (C:V (Fr (own φ h) Bw w) ρ (.p β (.int k) j) (a.eval io)) (D:o.op = .indexAddr t A io) (hc:(0≤j∧j<(n:Int))∧p+j.toNat<N) :
  Good P o a w (aF Bw w0 ρ φ h w new (.ada id b N (p+j.toNat)) []):=by
 obtain⟨d,h1,h2⟩:=ht.hu;rw[hk]at h2;simp only[UK]at h2;subst h2;simp only[V]at B;obtain⟨g,E,I,_⟩:=B;have z:=bQ C;refine Good.aG (v:= .pointer (some ((⟨g,b+p,none⟩:Addr).add (j.toNat*q.size)))) (w':=w) ?_ (aF.pure m ?_)
 ·simp[execOp,D,Instr.indexAt,asIntOf,z,I,run_underlying h1,Instr.sureAddr,run_sizeOf u,hc.1.1,hc.1.2]
 ·simp only[V];exact⟨g,E,by rw[ck,x,Nat.mul_one,Nat.add_assoc],hc.2⟩
theorem Ad(m:Mem Bw w0 ρ φ h w){o:Oper}{a:Act}{t:TypeId}{ti:TI}(ht:aN P t ti){k:IntKind}(hk:ti.k = .int k){A:Operand}{id b n i:Nat}(B:V (Fr (own φ h) Bw w) ρ (.ada id b n i) (a.eval A))
  (E:o.op = .load t A) {q:List ag} (hb:h id=some (.box q)) {l:QK} (hl:qQ k ((q.drop b).take n)=some l) (hn:b+n≤q.length) :
  Good P o a w (aF Bw w0 ρ φ h w new (.p false (.int k) (l.getD i 0)) []):=by
 obtain⟨u,I,x,z,cells,rfl,_,J,O,L⟩:=m.ob id _ hb;simp only[V]at B;obtain⟨g,C,M,hi⟩:=B;rw[I]at C;obtain rfl:x=g:=by simpa using C
 have N:=VL.take (n:=n) (VL.drop (n:=b) L);obtain⟨h1,h2⟩:=pI hl N;have D:((q.drop b).take n).length=n:=by rw[List.length_take,List.length_drop];omega
 have j:=h2 i (by omega);refine Good.aG (v:= .int k (l.getD i 0)) (w':=w) ?_ (aF.pure m (dF _ _ _));have hc:w.cell? (⟨x,b+i,none⟩:Addr)=some (.int k (l.getD i 0)):=by have:=cell_of_row w x (b+i) cells z (0,0) J;rw[this];exact j
 simp only[execOp,E,Instr.loadAt,M,Instr.sureAddr,Sem.run_bind,Sem.run_pure,Result.andThen_ok];unfold loadVar;rw[Sem.run_bind,kY ht,hk];simp only[Result.andThen_ok,TK.agg];rw[if_neg (by simp),run_load,hc];rfl
def wo(k:IntKind)(i:Nat)(v:Int):Nat→QK→List ag
 | _,[]=>[]
 | j,x::r=> .p false (.int k) (if i=j then v else x:Int)::wo k i v (j+1) r
theorem ph{k:IntKind}{i:Nat}{v:Int}:∀ {j:Nat} {l:QK},(wo k i v j l).length=l.length
 | _,[]=>rfl
 | j,x::r=>by simp[wo,ph (j:=j+1) (l:=r)]
theorem Bf{k:IntKind}{i:Nat}{v:Int}:∀ {l:QK} {j q:Nat},q<l.length→(wo k i v j l)[q]? = some (.p false (.int k) (if i=j+q then v else l.getD q 0:Int))
 | [],_,q,h=>absurd h (by simp)
 | x::r,j,0,_=>by simp[wo]
 | x::r,j,q+1,h=>by
  have:=Bf (k:=k) (i:=i) (v:=v) (l:=r) (j:=j+1) (q:=q) (by simpa using h);simp only[wo,List.getElem?_cons_succ,this,List.getD_cons_succ];rw[show j+1+q=j+(q+1) by omega]
theorem yc(m:Mem Bw w0 ρ φ h w){o:Oper}{a:Act}{t:TypeId}{ti:TI}(ht:aN P t ti)(I:ti.size=1){k:IntKind}{xo yo:Operand}{id b n i:Nat}(hx:V (Fr (own φ h) Bw w) ρ (.ada id b n i) (a.eval xo))
  {β:Bool} {v:Int} (hy:V (Fr (own φ h) Bw w) ρ (.p β (.int k) v) (a.eval yo)) (ho:o.op = .store t xo yo) {j:List ag} (hb:h id=some (.box j)) {l:QK} (hl:qQ k ((j.drop b).take n)=some l) (hn:b+n≤j.length) :
  Good P o a w (aF Bw w0 ρ φ h w new .unk [(id,some (.box (j.take b++wo k i v 0 l++j.drop (b+n))))]):=by
 obtain⟨u,O,J,M,cells,rfl,sg,r1,r2,X⟩:=m.ob id _ hb;simp only[V]at hx;obtain⟨g,hg,he,hi⟩:=hx;rw[O]at hg;obtain rfl:J=g:=by simpa using hg
 have Y:=bQ hy;have D:((j.drop b).take n).length=n:=by rw[List.length_take,List.length_drop];omega
 obtain⟨h1,h2⟩:=pI hl (VL.take (n:=n) (VL.drop (n:=b) X));have z:(Value.int k v).cells = #[Value.int k v]:=rfl;have E:=gG (P:=P) ht r1 (v:= .int k v) (p:=b+i) (by rw[z,I];rfl) (by rw[r2,I];omega) (fun c hc=>by
  rw[z]at hc;simp only[List.mem_singleton]at hc;rw[hc];rfl)
 have A:(cells.toList.take (b+i)++(Value.int k v).cells.toList++cells.toList.drop (b+i+ti.size))=cells.toList.set (b+i) (.int k v):=by rw[z,I,List.set_eq_take_append_cons_drop,if_pos (by simp only[Array.length_toList];omega)];simp
 rw[A]at E;refine Good.jN (w':=_) (by simp[execOp,ho,Instr.storeAt,he,Instr.sureAddr,Y,E];rfl) ?_;refine dW m (some id) id (.box (j.take b++wo k i v 0 l++j.drop (b+n))) (.pointer (some ⟨J,0,none⟩)) (φ id) (some J) (aZ w J _) (fun k e=>⟨id,_,rfl,hb,rfl,by cases e;exact sg⟩) (.inr ⟨rfl,O⟩)
  (fun _ k hk=>Nat.lt_of_lt_of_le (m.lt id _ k hb rfl hk) (aZ w J _).size) (fun _ k hk=> .inr ⟨id,_,rfl,hb,rfl,hk⟩) (fun F' Z hF L=>?_) (by rw[bm];rfl) (fun e=>by rw[O]at e;cases e) (fun F' Z hF L a2=>by simp only[V])
 have hcl:(j.take b++wo k i v 0 l++j.drop (b+n)).length=j.length:=by simp only[List.length_append,List.length_take,List.length_drop,ph,h1,D];omega
 refine⟨J,M,_,rfl,sg,setRow_heap w J cells _ M _ r1,by simp only[List.size_toArray,List.length_set,Array.length_toList];rw[r2,hcl],VL.mk fun q x C=>?_⟩;have N:(j.take b).length=b:=by rw[List.length_take];omega
 have a1:(j.take b++wo k i v 0 l).length=b+n:=by rw[List.length_append,ph,N,h1,D]
 have B:∀q,q≠b+i→∀u,cells[q]? = some u→((cells.toList.set (b+i) (.int k v)).toArray)[q]? = some u:=fun q C u hu=>by simp only[List.getElem?_toArray];rw[List.getElem?_set_ne (Ne.symm C)];simpa using hu
 rcases Nat.lt_or_ge q (b+n)with c1 | c1
 ·rw[List.getElem?_append_left (by omega)]at C;rcases Nat.lt_or_ge q b with c2 | c2
  ·rw[List.getElem?_append_left (by omega),List.getElem?_take,if_pos c2]at C;obtain⟨u,u1,u2⟩:=VL.get X C;exact⟨u,B q (by omega) u u1,V.mono hF L u2⟩
  ·rw[List.getElem?_append_right (by omega),N,Bf (by omega)]at C;cases C;by_cases e:q=b+i
   ·refine⟨.int k v,?_,?_⟩
    ·simp only[List.getElem?_toArray];rw[e,List.getElem?_set_self (by simp only[Array.length_toList];omega)]
    ·rw[if_pos (by omega)];exact dF _ _ _
   ·refine⟨.int k (l.getD (q - b) 0),B q e _ ?_,?_⟩
    ·have:=h2 (q - b) (by omega);rwa [show b+(q - b)=q by omega]at this
    ·rw[if_neg (by omega)];exact dF _ _ _
 ·rw[List.getElem?_append_right (by omega),a1,List.getElem?_drop,show b+n+(q - (b+n))=q by omega]at C;obtain⟨u,u1,u2⟩:=VL.get X C;exact⟨u,B q (by omega) u u1,V.mono hF L u2⟩
theorem xX(m:Mem Bw w0 ρ φ h w){o:Oper}{a:Act}{t e:TypeId}{ti x:TI}(ht:aN P t ti){n:Nat}(hk:ti.k = .ar n e)(q:aN P e x){k:IntKind}(u:x.k = .int k){I io:Operand}{z:List ag}(J:V (Fr (own φ h) Bw w) ρ (.agg z) (a.eval I))
  {l:QK} (hl:qQ k z=some l) (hn:z.length=n) {β:Bool} {L:IntKind} {j:Int} (M:V (Fr (own φ h) Bw w) ρ (.p β (.int L) j) (a.eval io)) (N:o.op = .index t I io) (hc:0≤j∧j<(n:Int)) :
  Good P o a w (aF Bw w0 ρ φ h w new (.p false (.int k) (l.getD j.toNat 0)) []):=by
 obtain⟨d,h1,h2⟩:=ht.hu;rw[hk]at h2;simp only[UK]at h2;subst h2;obtain⟨de,O,B⟩:=q.hu;rw[u]at B;simp only[UK]at B;subst B;have C:x.size=1:=q.ha (by rw[u];rfl);simp only[V]at J;obtain⟨X,ex,Y,D⟩:=J;obtain⟨q1,Z⟩:=pI hl D;have hq:=Z j.toNat (by omega);have E:=bQ M;have hp:P.plainKey e=true:=by simp[Program.plainKey,O]
 have p1:=run_part_plain (P:=P) w hp (xs:=X) (off:=j.toNat*x.size) (v:= .int k (l.getD j.toNat 0)) (by rw[C,Nat.mul_one];exact hq);refine Good.aG (v:= .int k (l.getD j.toNat 0)) (w':=w) ?_ (aF.pure m (dF _ _ _));simp[execOp,N,Instr.index,asIntOf,E,ex,run_underlying h1,run_sizeOf q,hc.1,hc.2,p1,Result.andThen]
theorem xc(m:Mem Bw w0 ρ φ h w){o:Oper}{a:Act}{t e:TypeId}{ti x:TI}(ht:aN P t ti){n:Nat}(hk:ti.k = .ar n e)(q:aN P e x)(u:x.k = .flt){I io:Operand}{z:List ag}(J:V (Fr (own φ h) Bw w) ρ (.agg z) (a.eval I))
  {l:List QJ} (hl:Ar z=some l) (hn:z.length=n) {β:Bool} {M:IntKind} {j:Int} (N:V (Fr (own φ h) Bw w) ρ (.p β (.int M) j) (a.eval io)) (O:o.op = .index t I io) (hc:0≤j∧j<(n:Int)) :
  Good P o a w (aF Bw w0 ρ φ h w new (.p false .flt (l.getD j.toNat none)) []):=by
 obtain⟨d,h1,h2⟩:=ht.hu;rw[hk]at h2;simp only[UK]at h2;subst h2;obtain⟨de,X,B⟩:=q.hu;rw[u]at B;simp only[UK]at B;subst B;have C:x.size=1:=q.ha (by rw[u];rfl);simp only[V]at J;obtain⟨Y,ex,Z,D⟩:=J;obtain⟨q1,q2⟩:=yv hl D;obtain⟨L,hq,hm⟩:=q2 j.toNat (by omega);have E:=bQ N;have p1:(part e Y (j.toNat*x.size)).run P w = .ok (.float .f64 L) w:=by rw[C,Nat.mul_one];simp[part,isAgg,run_underlying X,hq]
 refine Good.aG (v:= .float .f64 L) (w':=w) ?_ (aF.pure m (by rw[←hm];exact vf _ _));simp[execOp,O,Instr.index,asIntOf,E,ex,run_underlying h1,run_sizeOf q,hc.1,hc.2,p1,Result.andThen]
end
theorem run_copy_cells{P:Program}{w:World}{t t2 ty e:TypeId}{i:TypeInfo}(ht:P.underlying t=some (.slice e))(hi:P.info? e=some i){g n cap:Nat}{p:QU}{A:TypeId}
  (C:w.heap[g]? = some (.cells p A (0,0))) {ad:Option Addr} {len c:Nat} {cs:QY} (z:cs.length=min len n*i.size) (u:ad=none→cs=[])
  (x:∀b,ad=some b→∀j v,cs[j]? = some v→w.cell? (b.add j)=some v) (B:cs.length≤p.size) (h1:∀v∈cs,v.oneCell'=true) :
  (Builtin.copy_ #[t,t2] ty #[.slice (some ⟨g,0,none⟩) n cap,.slice ad len c]).run P w =
   .ok (goInt (min len n:Nat)) (w.setRow g (cs++p.toList.drop cs.length).toArray):=by
 have q:=run_storeCells_at P g 0 A cs 0 p w C (by omega) h1;simp only[Nat.add_zero,Nat.zero_add,List.take_zero,List.nil_append]at q;have hm:Nat.min len n=min len n:=rfl;cases ad with
 | none =>
  have:=u rfl;subst this;simp[Builtin.copy_,run_underlying ht,Builtin.lenOf,Builtin.firstCells,sizeOf,typeInfo,hi,q,hm]
 | some b =>
  have hl:=run_loadCells_list (P:=P) w b cs (x b rfl);rw[z]at hl;simp[Builtin.copy_,run_underlying ht,Builtin.lenOf,Builtin.firstCells,sizeOf,typeInfo,hi,hl,q,hm]
section
variable{P:Program}{Bw:Nat→Prop}{w0:cC P}{ρ:Nat→QW}{φ:Nat→Nat→Prop}{h:Nat→Qz}{w:World}{new:Nat}
theorem Fl(m:Mem Bw w0 ρ φ h w){o:Oper}{a:Act}{t t2 e:TypeId}{ti te:TI}(ht:aN P t ti)(hk:ti.k = .sl e)(a7:aN P e te){A:Ty}(hT:te.T=some A)
  {xo yo:Operand} {id:Nat} {y:ag} (hx:V (Fr (own φ h) Bw w) ρ (.sl id) (a.eval xo)) (hy:V (Fr (own φ h) Bw w) ρ y (a.eval yo)) (ho:o.op = .call { callee:= .builtin .copy,args:= #[xo,yo],argTypes:= #[t,t2] })
  {e':TypeId} {xs q:List A.den} (Z:h id=some (.arr e' A xs)) (b5:eZ h A y=some q) :
  Good P o a w (aF Bw w0 ρ φ h w new (.p false (.int .i64) ((min q.length xs.length:Nat):Int)) [(id,some (.arr e' A (q.take xs.length++xs.drop q.length)))]):=by
 obtain⟨i,z,hi,hz,a1,b3,c7,c8,c9⟩:=a7.hi;obtain⟨b6,ch,cp⟩:=a7.hT A hT;have hu:=aY ht hk;have a8:i.size=A.size:=by rw[a1,b6]
 obtain⟨ad,len,c,I,a9,b7,Y⟩:=ic m b5 hy;obtain⟨u,q1,b8,hA,cells,r1,r2⟩:=m.ob id _ Z;simp only[V]at hx;obtain⟨a2,aa,nn,cc,cx⟩:=hx;rw[a2]at q1;cases q1;subst a9;rcases r1.2 with⟨J,hn⟩ | ⟨g,cap,b9,J,_,L,M,a3,ac,a4⟩
 ·-- nothing to copy c3
  have be:xs=[]:=List.eq_nil_of_length_eq_zero hn;subst be;have N:(Builtin.copy_ #[t,t2] o.type #[.slice none 0 0,.slice ad q.length c]).run P w = .ok (goInt 0) w:=by
   cases ad with
   | none=>simp[Builtin.copy_,run_underlying hu,Builtin.lenOf,Builtin.firstCells,sizeOf,typeInfo,hi]
   | some b =>have hl:=run_loadCells_list (P:=P) w b [] (fun j v O=>by simp at O);simp only[List.length_nil]at hl;simp[Builtin.copy_,run_underlying hu,Builtin.lenOf,Builtin.firstCells,sizeOf,typeInfo,hi,hl]
  refine Good.aG (v:=goInt 0) (w':=w) (by simp only[execOp,ho,resolve,invoke,builtin,Sem.run_bind,Sem.run_pure,Result.andThen_ok,List.map_toArray,List.map_cons,List.map_nil,J,I,N]) ?_;have E:apply [(id,some (.arr e' A (q.take ([]:List A.den).length++([]:List A.den).drop q.length)))] h=h:=by
   funext k;simp only[apply,bF,List.length_nil,List.take_zero,List.drop_nil,List.append_nil];split
   ·rename_i e2;rw[e2,Z]
   ·rfl
  have hv:V (Fr (own φ h) Bw w) ρ (.p false (.int .i64) ((min q.length ([]:List A.den).length:Nat):Int)) (goInt 0):=by simp only[V,ai,List.length_nil,Nat.min_zero];exact⟨rfl,rfl⟩
  refine⟨ρ,φ,by rw[E];exact m,by rw[E];exact fun _ _ _ h=>h,fun _ _ h=>h,fun _ _ h=> .inl h,?_⟩;rw[E];exact hv
 ·-- c4 is b4
  obtain⟨B,n1,n2,n3⟩:∃B:QY,B.length=q.length*A.size∧(∀b,ad=some b→∀j v,B[j]? = some v→w.cell? (b.add j)=some v) ∧
    (∀i (h':i<q.length),ai (Fr (own φ h) Bw w false) A q[i] (fun k v=>B[i*A.size+k]? = some v)):=by
   cases ax:ad with
   | none =>
    have a5:q.length=0:=by
     rcases Y ax with C | C
     ·rw[C]at I;simp only[Value.slice.injEq]at I;omega
     ·exact C
    exact⟨[],by simp[a5],fun b C=>(by cases C),fun i a6=>absurd a6 (by omega)⟩
   | some b =>
    obtain⟨B,p1,p2,p3⟩:=kS (g:=fun k v=>w.cell? (b.add k)=some v) (fun i a6=>by
     obtain⟨b',C,e2⟩:=b7 i a6;rw[ax]at C;cases C;exact e2)
    exact⟨B,p1,fun b' C=>(by cases C;exact p2),p3⟩
  have b1:=nP n1 n3;have hcl:cells.length=xs.length*A.size:=r1.1;have c5:min q.length xs.length*A.size≤xs.length*A.size:=Nat.mul_le_mul_right _ (Nat.min_le_right _ _);have bi:min q.length xs.length*A.size≤q.length*A.size:=Nat.mul_le_mul_right _ (Nat.min_le_left _ _);have bs:xs.length*A.size≤cap*A.size:=Nat.mul_le_mul_right _ M;let cs:=B.take (min q.length xs.length*A.size)
  have D:cs.length=min q.length xs.length*A.size:=by simp only[cs,List.length_take,n1];omega
  have N:=run_copy_cells (P:=P) (w:=w) (t2:=t2) (ty:=o.type) hu hi L (n:=xs.length) (cap:=cap) (ad:=ad) (len:=q.length) (c:=c) (cs:=cs) (by rw[D,a8])
   (fun C=>by
    have a5:q.length=0:=by
     rcases Y C with e2 | e2
     ·rw[e2]at I;simp only[Value.slice.injEq]at I;omega
     ·exact e2
    exact List.eq_nil_of_length_eq_zero (by rw[D,a5];simp))
   (fun b C j v O=>n2 b C j v (by
    simp only[cs,List.getElem?_take]at O;split at O
    ·exact O
    ·cases O)) (by rw[D,ac];omega) (fun v hv=>b1 v (List.mem_of_mem_take hv))
  refine Good.aG (v:=_) (w':=_) (by simp only[execOp,ho,resolve,invoke,builtin,Sem.run_bind,Sem.run_pure,Result.andThen_ok,List.map_toArray,List.map_cons,List.map_nil,J,I,N];rfl) ?_;have x:(q.take xs.length++xs.drop q.length).length=xs.length:=by simp only[List.length_append,List.length_take,List.length_drop];omega
  refine cT m (some id) id (.arr e' A (q.take xs.length++xs.drop q.length)) (a.eval xo) (some g) (aZ w g _) (fun k C=>⟨id,_,rfl,Z,rfl,b8 _ (by rw[J];simpa [dw]using C)⟩) (.inr ⟨rfl,a2⟩)
   (fun _ k X=> .inr (by rw[J]at X;simpa [dw]using X)) (fun F' bv hF bx=>?_) (by rw[bm];rfl) (fun C=>by rw[a2]at C;cases C) (fun F' bv hF bx c6=>by simp only[V,ai];exact⟨rfl,rfl⟩)
  refine⟨fun _ h=>h,hA,cs++cells.drop cs.length,⟨?_,.inr ⟨g,cap,_,?_,Nat.zero_le _,setRow_heap w g b9 _ e' _ L,?_,a3,?_,?_⟩⟩,fun j O=>?_⟩
  ·simp only[List.length_append,List.length_drop,D,hcl,x];omega
  ·rw[x,J]
  ·rw[x];exact M
  ·simp only[List.size_toArray,List.length_append,List.length_drop,Array.length_toList,D];omega
  ·rw[x,←a4];simp only[List.take_append,D,List.drop_take];rw[List.take_of_length_le (by rw[D];omega)]
  ·rw[x]at O;by_cases c1:j<q.length
   ·have C:(q.take xs.length++xs.drop q.length)[j]'(by rw[x];exact O)=q[j]:=by rw[List.getElem_append_left (by simp only[List.length_take];omega)];simp
    rw[C];refine ai.mono (hF _) (fun _ _ h=>h) (ai.gA (fun k v X hv=>?_) (n3 j c1));have c2:j*A.size+A.size≤min q.length xs.length*A.size:=by rw[←Nat.succ_mul];exact Nat.mul_le_mul_right _ (by omega)
    rw[List.getElem?_append_left (by rw[D];omega)];simp only[cs,List.getElem?_take];rw[if_pos (by omega)];exact hv
   ·have C:(q.take xs.length++xs.drop q.length)[j]'(by rw[x];exact O)=xs[j]:=by rw[List.getElem_append_right (by simp only[List.length_take];omega)];simp only[List.length_take,List.getElem_drop];congr 1;omega
    rw[C];refine ai.mono (hF _) (fun _ _ h=>h) (ai.gA (fun k v X hv=>?_) (r2 j O));have b2:min q.length xs.length=q.length:=Nat.min_eq_left (by omega);have c2:q.length*A.size≤j*A.size:=Nat.mul_le_mul_right _ (by omega);rw[List.getElem?_append_right (by rw[D,b2];omega),List.getElem?_drop];rw[←hv];congr 1;rw[D,b2];omega
end
end Go.Tv
