/- Arrays in variables: places known at run time. -/
import Derived.Test.YtmcemnfjddoejaaGreatDoorTvKdm
namespace Go.Tv
open Go Go.RowKit
def sX(k:IntKind):List ag→Option (List Int)
 | []=>some []
 | .p _ (.int c) x::r=>if c=k then(match sX k r with
  | some l=>some ((show Int from x)::l)
  | none=>none)else none
 | _::_=>none
theorem p8{k:IntKind}{F:Bool→Addr→Value→Prop}{ρ:Nat→Option Value}:∀ {f:List ag} {l:List Int} {g:Nat→Value→Prop},sX k f=some l→VL F ρ f g→l.length=f.length∧∀i,i<f.length→g i (.int k (l.getD i 0))
 | [],l,g,h,_=>by cases h;exact⟨rfl,fun i hi=>absurd hi (by simp)⟩
 | c::f,l,g,h,m=>by
  unfold sX at h;split at h
  ·rename_i e;cases e
  ·rename_i β D x r e;cases e;split at h
   ·rename_i z;subst z;split at h
    ·rename_i E hl;cases h;simp only[VL]at m;obtain⟨⟨u,q,A⟩,j⟩:=m;obtain⟨B,C⟩:=p8 hl j;refine⟨by simp[B],fun i hi=> ?_⟩;cases i with
     | zero=>rw[bV A]at q;exact q
     | succ i=>exact C i (by simpa using hi)
    ·cases h
   ·cases h
  ·cases h
section
variable{P:Program}{Bw:Nat→Prop}{w0:b9 P}{ρ:Nat→Option Value}{φ:Nat→Nat→Prop}{h:Nat→Option Obj}{w:World}{new:Nat}
theorem yL(m:Mem Bw w0 ρ φ h w){o:Oper}{a:Act}{t e:TypeId}{ti q:TI}(M:aQ P t ti){n:Nat}(N:ti.k = .ar n e)(x:aQ P e q)(z:q.size=1){E io:Operand}{id i sz off:Nat}(I:V (Fr (own φ h) Bw w) ρ (.adr id i sz off) (a.eval E))
  {O:List ag} (hb:h id=some (.box O)) {β:Bool} {k:IntKind} {j:Int} (R:V (Fr (own φ h) Bw w) ρ (.p β (.int k) j) (a.eval io)) (X:o.op = .indexAddr t E io) (J:0≤j∧j<(n:Int)) :
  Good P o a w (aE Bw w0 ρ φ h w new (.ada id (i*sz+off) n j.toNat) []):=by
 obtain⟨d,Y,A⟩:=M.hu;rw[N]at A;simp only[UK]at A;subst A;obtain⟨u,L,B,Z,cells,rfl,_⟩:=m.ob id _ hb;simp only[V]at I;obtain⟨g,f,he⟩:=I;rw[L]at f;have C:B=g:=by
  rcases f with f | ⟨n,c,f⟩
  ·simpa using f
  ·cases f
 subst C;have D:=bV R;refine Good.aH (v:= .pointer (some ((⟨B,i*sz+off,none⟩:Addr).add (j.toNat*q.size)))) (w':=w) ?_ (aE.pure m ?_)
 ·simp[execOp,X,Instr.indexAt,asIntOf,D,he,run_underlying Y,Instr.sureAddr,run_sizeOf x,J.1,J.2]
 ·simp only[V];exact⟨B,L,by rw[ca,z,Nat.mul_one],by omega⟩
theorem xB(m:Mem Bw w0 ρ φ h w){o:Oper}{a:Act}{t e:TypeId}{ti q:TI}(M:aQ P t ti){n:Nat}(N:ti.k = .ar n e)(x:aQ P e q)(z:0<q.size){E io:Operand}{id i sz off:Nat}(I:V (Fr (own φ h) Bw w) ρ (.adr id i sz off) (a.eval E))
  {O:List ag} (hb:h id=some (.box O)) {β:Bool} {k:IntKind} {j:Int} (R:V (Fr (own φ h) Bw w) ρ (.p β (.int k) j) (a.eval io)) (X:o.op = .indexAddr t E io) (J:0≤j∧j<(n:Int)) :
  Good P o a w (aE Bw w0 ρ φ h w new (.ada id (i*sz+off) (n*q.size) (j.toNat*q.size)) []):=by
 obtain⟨d,Y,A⟩:=M.hu;rw[N]at A;simp only[UK]at A;subst A;obtain⟨u,L,B,Z,cells,rfl,_⟩:=m.ob id _ hb;simp only[V]at I;obtain⟨g,f,he⟩:=I;rw[L]at f;have C:B=g:=by
  rcases f with f | ⟨n,c,f⟩
  ·simpa using f
  ·cases f
 subst C;have D:=bV R;refine Good.aH (v:= .pointer (some ((⟨B,i*sz+off,none⟩:Addr).add (j.toNat*q.size)))) (w':=w) ?_ (aE.pure m ?_)
 ·simp[execOp,X,Instr.indexAt,asIntOf,D,he,run_underlying Y,Instr.sureAddr,run_sizeOf x,J.1,J.2]
 ·simp only[V];exact⟨B,L,by rw[ca],Nat.mul_lt_mul_of_pos_right (by omega) z⟩
theorem vR(m:Mem Bw w0 ρ φ h w){o:Oper}{a:Act}{t e:TypeId}{ti c:TI}(C:aQ P t ti){n:Nat}(D:ti.k = .ar n e)(f:aQ P e c)(q:c.size=1){A io:Operand}{id b N p:Nat}(B:V (Fr (own φ h) Bw w) ρ (.ada id b N p) (a.eval A))
  {β:Bool} {k:IntKind} {j:Int} (E:V (Fr (own φ h) Bw w) ρ (.p β (.int k) j) (a.eval io)) (I:o.op = .indexAddr t A io) (u:(0≤j∧j<(n:Int))∧p+j.toNat<N) :
  Good P o a w (aE Bw w0 ρ φ h w new (.ada id b N (p+j.toNat)) []):=by
 obtain⟨d,J,x⟩:=C.hu;rw[D]at x;simp only[UK]at x;subst x;simp only[V]at B;obtain⟨g,L,M,_⟩:=B;have z:=bV E;refine Good.aH (v:= .pointer (some ((⟨g,b+p,none⟩:Addr).add (j.toNat*c.size)))) (w':=w) ?_ (aE.pure m ?_)
 ·simp[execOp,I,Instr.indexAt,asIntOf,z,M,run_underlying J,Instr.sureAddr,run_sizeOf f,u.1.1,u.1.2]
 ·simp only[V];exact⟨g,L,by rw[ca,q,Nat.mul_one,Nat.add_assoc],u.2⟩
theorem Aj(m:Mem Bw w0 ρ φ h w){o:Oper}{a:Act}{t:TypeId}{ti:TI}(B:aQ P t ti){k:IntKind}(C:ti.k = .int k){q:Operand}{id b n i:Nat}(x:V (Fr (own φ h) Bw w) ρ (.ada id b n i) (a.eval q))
  (D:o.op = .load t q) {e:List ag} (hb:h id=some (.box e)) {l:List Int} (hl:sX k ((e.drop b).take n)=some l) (R:b+n≤e.length) :
  Good P o a w (aE Bw w0 ρ φ h w new (.p false (.int k) (l.getD i 0)) []):=by
 obtain⟨u,E,f,j,cells,rfl,_,I,X,J⟩:=m.ob id _ hb;simp only[V]at x;obtain⟨g,z,L,hi⟩:=x;rw[E]at z;obtain rfl:f=g:=by simpa using z
 have M:=VL.take (n:=n) (VL.drop (n:=b) J);obtain⟨Y,N⟩:=p8 hl M;have A:((e.drop b).take n).length=n:=by rw[List.length_take,List.length_drop];omega
 have c:=N i (by omega);refine Good.aH (v:= .int k (l.getD i 0)) (w':=w) ?_ (aE.pure m (dB _ _ _));have O:w.cell? (⟨f,b+i,none⟩:Addr)=some (.int k (l.getD i 0)):=by have:=cell_of_row w f (b+i) cells j (0,0) I;rw[this];exact c
 simp only[execOp,D,Instr.loadAt,L,Instr.sureAddr,Sem.run_bind,Sem.run_pure,Result.andThen_ok];unfold loadVar;rw[Sem.run_bind,mH B,C];simp only[Result.andThen_ok,TK.agg];rw[if_neg (by simp),run_load,O];rfl
def wj(k:IntKind)(i:Nat)(v:Int):Nat→List Int→List ag
 | _,[]=>[]
 | j,x::r=> .p false (.int k) (if i=j then v else x:Int)::wj k i v (j+1) r
theorem pE{k:IntKind}{i:Nat}{v:Int}:∀ {j:Nat} {l:List Int},(wj k i v j l).length=l.length
 | _,[]=>rfl
 | j,x::r=>by simp[wj,pE (j:=j+1) (l:=r)]
theorem BH{k:IntKind}{i:Nat}{v:Int}:∀ {l:List Int} {j q:Nat},q<l.length→(wj k i v j l)[q]? = some (.p false (.int k) (if i=j+q then v else l.getD q 0:Int))
 | [],_,q,h=>absurd h (by simp)
 | x::r,j,0,_=>by simp[wj]
 | x::r,j,q+1,h=>by
  have:=BH (k:=k) (i:=i) (v:=v) (l:=r) (j:=j+1) (q:=q) (by simpa using h);simp only[wj,List.getElem?_cons_succ,this,List.getD_cons_succ];rw[show j+1+q=j+(q+1) by omega]
theorem yB(m:Mem Bw w0 ρ φ h w){o:Oper}{a:Act}{t:TypeId}{ti:TI}(ht:aQ P t ti)(E:ti.size=1){k:IntKind}{xo yo:Operand}{id b n i:Nat}(hx:V (Fr (own φ h) Bw w) ρ (.ada id b n i) (a.eval xo))
  {β:Bool} {v:Int} (hy:V (Fr (own φ h) Bw w) ρ (.p β (.int k) v) (a.eval yo)) (ho:o.op = .store t xo yo) {f:List ag} (hb:h id=some (.box f)) {l:List Int} (hl:sX k ((f.drop b).take n)=some l) (hn:b+n≤f.length) :
  Good P o a w (aE Bw w0 ρ φ h w new .unk [(id,some (.box (f.take b++wj k i v 0 l++f.drop (b+n))))]):=by
 obtain⟨u,N,I,L,cells,rfl,sg,r1,r2,O⟩:=m.ob id _ hb;simp only[V]at hx;obtain⟨g,hg,he,hi⟩:=hx;rw[N]at hg;obtain rfl:I=g:=by simpa using hg
 have R:=bV hy;have C:((f.drop b).take n).length=n:=by rw[List.length_take,List.length_drop];omega
 obtain⟨h1,h2⟩:=p8 hl (VL.take (n:=n) (VL.drop (n:=b) O));have j:(Value.int k v).cells = #[Value.int k v]:=rfl;have D:=iJ (P:=P) ht r1 (v:= .int k v) (p:=b+i) (by rw[j,E];rfl) (by rw[r2,E];omega) (fun c X=>by
  rw[j]at X;simp only[List.mem_singleton]at X;rw[X];rfl)
 have z:(cells.toList.take (b+i)++(Value.int k v).cells.toList++cells.toList.drop (b+i+ti.size))=cells.toList.set (b+i) (.int k v):=by rw[j,E,List.set_eq_take_append_cons_drop,if_pos (by simp only[Array.length_toList];omega)];simp
 rw[z]at D;refine Good.kx (w':=_) (by simp[execOp,ho,Instr.storeAt,he,Instr.sureAddr,R,D];rfl) ?_;refine eH m (some id) id (.box (f.take b++wj k i v 0 l++f.drop (b+n))) (.pointer (some ⟨I,0,none⟩)) (φ id) (some I) (bf w I _) (fun k e=>⟨id,_,rfl,hb,rfl,by cases e;exact sg⟩) (.inr ⟨rfl,N⟩)
  (fun _ k Y=>Nat.lt_of_lt_of_le (m.lt id _ k hb rfl Y) (bf w I _).size) (fun _ k Y=> .inr ⟨id,_,rfl,hb,rfl,Y⟩) (fun F' Z hF J=> ?_) (by rw[aZ];rfl) (fun e=>by rw[N]at e;cases e) (fun F' Z hF J a3=>by simp only[V])
 have a1:(f.take b++wj k i v 0 l++f.drop (b+n)).length=f.length:=by simp only[List.length_append,List.length_take,List.length_drop,pE,h1,C];omega
 refine⟨I,L,_,rfl,sg,setRow_heap w I cells _ L _ r1,by simp only[List.size_toArray,List.length_set,Array.length_toList];rw[r2,a1],VL.mk fun q x B=> ?_⟩;have M:(f.take b).length=b:=by rw[List.length_take];omega
 have a2:(f.take b++wj k i v 0 l).length=b+n:=by rw[List.length_append,pE,M,h1,C]
 have A:∀q,q≠b+i→∀u,cells[q]? = some u→((cells.toList.set (b+i) (.int k v)).toArray)[q]? = some u:=fun q B u hu=>by simp only[List.getElem?_toArray];rw[List.getElem?_set_ne (Ne.symm B)];simpa using hu
 rcases Nat.lt_or_ge q (b+n)with c1 | c1
 ·rw[List.getElem?_append_left (by omega)]at B;rcases Nat.lt_or_ge q b with c2 | c2
  ·rw[List.getElem?_append_left (by omega),List.getElem?_take,if_pos c2]at B;obtain⟨u,u1,u2⟩:=VL.get O B;exact⟨u,A q (by omega) u u1,V.mono hF J u2⟩
  ·rw[List.getElem?_append_right (by omega),M,BH (by omega)]at B;cases B;by_cases e:q=b+i
   ·refine⟨.int k v,?_,?_⟩
    ·simp only[List.getElem?_toArray];rw[e,List.getElem?_set_self (by simp only[Array.length_toList];omega)]
    ·rw[if_pos (by omega)];exact dB _ _ _
   ·refine⟨.int k (l.getD (q - b) 0),A q e _ ?_,?_⟩
    ·have:=h2 (q - b) (by omega);rwa [show b+(q - b)=q by omega]at this
    ·rw[if_neg (by omega)];exact dB _ _ _
 ·rw[List.getElem?_append_right (by omega),a2,List.getElem?_drop,show b+n+(q - (b+n))=q by omega]at B;obtain⟨u,u1,u2⟩:=VL.get O B;exact⟨u,A q (by omega) u u1,V.mono hF J u2⟩
theorem yA(m:Mem Bw w0 ρ φ h w){o:Oper}{a:Act}{t e:TypeId}{ti q:TI}(L:aQ P t ti){n:Nat}(M:ti.k = .ar n e)(c:aQ P e q){k:IntKind}(f:q.k = .int k){E io:Operand}{u:List ag}(I:V (Fr (own φ h) Bw w) ρ (.agg u) (a.eval E))
  {l:List Int} (hl:sX k u=some l) (hn:u.length=n) {β:Bool} {N:IntKind} {j:Int} (O:V (Fr (own φ h) Bw w) ρ (.p β (.int N) j) (a.eval io)) (R:o.op = .index t E io) (J:0≤j∧j<(n:Int)) :
  Good P o a w (aE Bw w0 ρ φ h w new (.p false (.int k) (l.getD j.toNat 0)) []):=by
 obtain⟨d,X,x⟩:=L.hu;rw[M]at x;simp only[UK]at x;subst x;obtain⟨de,Y,z⟩:=c.hu;rw[f]at z;simp only[UK]at z;subst z;have B:q.size=1:=c.ha (by rw[f];rfl);simp only[V]at I;obtain⟨Z,ex,a1,C⟩:=I;obtain⟨q1,q2⟩:=p8 hl C;have hq:=q2 j.toNat (by omega);have D:=bV O;have hp:P.plainKey e=true:=by simp[Program.plainKey,Y]
 have p1:=run_part_plain (P:=P) w hp (xs:=Z) (off:=j.toNat*q.size) (v:= .int k (l.getD j.toNat 0)) (by rw[B,Nat.mul_one];exact hq);refine Good.aH (v:= .int k (l.getD j.toNat 0)) (w':=w) ?_ (aE.pure m (dB _ _ _));simp[execOp,R,Instr.index,asIntOf,D,ex,run_underlying X,run_sizeOf c,J.1,J.2,p1,Result.andThen]
end
end Go.Tv
namespace Go.Tv
open Go Go.RowKit
theorem run_copy_cells{P:Program}{w:World}{t t2 ty e:TypeId}{i:TypeInfo}(u:P.underlying t=some (.slice e))(hi:P.info? e=some i){g n cap:Nat}{f:Array Value}{x:TypeId}
  (B:w.heap[g]? = some (.cells f x (0,0))) {ad:Option Addr} {len c:Nat} {cs:List Value} (q:cs.length=min len n*i.size) (m:ad=none→cs=[])
  (p:∀b,ad=some b→∀j v,cs[j]? = some v→w.cell? (b.add j)=some v) (z:cs.length≤f.size) (C:∀v∈cs,v.oneCell'=true) :
  (Builtin.copy_ #[t,t2] ty #[.slice (some ⟨g,0,none⟩) n cap,.slice ad len c]).run P w =
   .ok (goInt (min len n:Nat)) (w.setRow g (cs++f.toList.drop cs.length).toArray):=by
 have k:=run_storeCells_at P g 0 x cs 0 f w B (by omega) C;simp only[Nat.add_zero,Nat.zero_add,List.take_zero,List.nil_append]at k;have A:Nat.min len n=min len n:=rfl;cases ad with
 | none =>
  have:=m rfl;subst this;simp[Builtin.copy_,run_underlying u,Builtin.lenOf,Builtin.firstCells,sizeOf,typeInfo,hi,k,A]
 | some b =>
  have hl:=run_loadCells_list (P:=P) w b cs (p b rfl);rw[q]at hl;simp[Builtin.copy_,run_underlying u,Builtin.lenOf,Builtin.firstCells,sizeOf,typeInfo,hi,hl,k,A]
section
variable{P:Program}{Bw:Nat→Prop}{w0:b9 P}{ρ:Nat→Option Value}{φ:Nat→Nat→Prop}{h:Nat→Option Obj}{w:World}{new:Nat}
theorem F2(m:Mem Bw w0 ρ φ h w){o:Oper}{a:Act}{t t2 e:TypeId}{ti te:TI}(ht:aQ P t ti)(hk:ti.k = .sl e)(a5:aQ P e te){A:Ty}(hT:te.T=some A)
  {xo yo:Operand} {id:Nat} {y:ag} (hx:V (Fr (own φ h) Bw w) ρ (.sl id) (a.eval xo)) (hy:V (Fr (own φ h) Bw w) ρ y (a.eval yo)) (ho:o.op = .call { callee:= .builtin .copy,args:= #[xo,yo],argTypes:= #[t,t2] })
  {e':TypeId} {xs f:List A.den} (X:h id=some (.arr e' A xs)) (b3:dS h A y=some f) :
  Good P o a w (aE Bw w0 ρ φ h w new (.p false (.int .i64) ((min f.length xs.length:Nat):Int)) [(id,some (.arr e' A (f.take xs.length++xs.drop f.length)))]):=by
 obtain⟨i,z,hi,hz,Y,b1,c8,c9,ch⟩:=a5.hi;obtain⟨b4,cp,cx⟩:=a5.hT A hT;have hu:=bd ht hk;have a6:i.size=A.size:=by rw[Y,b4]
 obtain⟨ad,len,c,E,a7,b5,R⟩:=gX m b3 hy;obtain⟨u,q1,b6,hA,cells,r1,r2⟩:=m.ob id _ X;simp only[V]at hx;obtain⟨Z,aa,nn,cc,d1⟩:=hx;rw[Z]at q1;cases q1;subst a7;rcases r1.2 with⟨I,hn⟩ | ⟨g,cap,be,I,_,J,L,a1,a8,a2⟩
 ·-- nothing to copy c4
  have bi:xs=[]:=List.eq_nil_of_length_eq_zero hn;subst bi;have M:(Builtin.copy_ #[t,t2] o.type #[.slice none 0 0,.slice ad f.length c]).run P w = .ok (goInt 0) w:=by
   cases ad with
   | none=>simp[Builtin.copy_,run_underlying hu,Builtin.lenOf,Builtin.firstCells,sizeOf,typeInfo,hi]
   | some b =>have hl:=run_loadCells_list (P:=P) w b [] (fun j v N=>by simp at N);simp only[List.length_nil]at hl;simp[Builtin.copy_,run_underlying hu,Builtin.lenOf,Builtin.firstCells,sizeOf,typeInfo,hi,hl]
  refine Good.aH (v:=goInt 0) (w':=w) (by simp only[execOp,ho,resolve,invoke,builtin,Sem.run_bind,Sem.run_pure,Result.andThen_ok,List.map_toArray,List.map_cons,List.map_nil,I,E,M]) ?_;have D:apply [(id,some (.arr e' A (f.take ([]:List A.den).length++([]:List A.den).drop f.length)))] h=h:=by
   funext k;simp only[apply,bH,List.length_nil,List.take_zero,List.drop_nil,List.append_nil];split
   ·rename_i e2;rw[e2,X]
   ·rfl
  have hv:V (Fr (own φ h) Bw w) ρ (.p false (.int .i64) ((min f.length ([]:List A.den).length:Nat):Int)) (goInt 0):=by simp only[V,ai,List.length_nil,Nat.min_zero];exact⟨rfl,rfl⟩
  refine⟨ρ,φ,by rw[D];exact m,by rw[D];exact fun _ _ _ h=>h,fun _ _ h=>h,fun _ _ h=> .inl h,?_⟩;rw[D];exact hv
 ·-- c5 is b2
  obtain⟨x,n1,n2,n3⟩:∃x:List Value,x.length=f.length*A.size∧(∀b,ad=some b→∀j v,x[j]? = some v→w.cell? (b.add j)=some v) ∧
    (∀i (h':i<f.length),ai (Fr (own φ h) Bw w false) A f[i] (fun k v=>x[i*A.size+k]? = some v)):=by
   cases a9:ad with
   | none =>
    have a3:f.length=0:=by
     rcases R a9 with B | B
     ·rw[B]at E;simp only[Value.slice.injEq]at E;omega
     ·exact B
    exact⟨[],by simp[a3],fun b B=>(by cases B),fun i a4=>absurd a4 (by omega)⟩
   | some b =>
    obtain⟨x,p1,p2,p3⟩:=kN (g:=fun k v=>w.cell? (b.add k)=some v) (fun i a4=>by
     obtain⟨b',B,e2⟩:=b5 i a4;rw[a9]at B;cases B;exact e2)
    exact⟨x,p1,fun b' B=>(by cases B;exact p2),p3⟩
  have ac:=nC n1 n3;have bs:cells.length=xs.length*A.size:=r1.1;have c6:min f.length xs.length*A.size≤xs.length*A.size:=Nat.mul_le_mul_right _ (Nat.min_le_right _ _);have bt:min f.length xs.length*A.size≤f.length*A.size:=Nat.mul_le_mul_right _ (Nat.min_le_left _ _);have bv:xs.length*A.size≤cap*A.size:=Nat.mul_le_mul_right _ L;let cs:=x.take (min f.length xs.length*A.size)
  have C:cs.length=min f.length xs.length*A.size:=by simp only[cs,List.length_take,n1];omega
  have M:=run_copy_cells (P:=P) (w:=w) (t2:=t2) (ty:=o.type) hu hi J (n:=xs.length) (cap:=cap) (ad:=ad) (len:=f.length) (c:=c) (cs:=cs) (by rw[C,a6])
   (fun B=>by
    have a3:f.length=0:=by
     rcases R B with e2 | e2
     ·rw[e2]at E;simp only[Value.slice.injEq]at E;omega
     ·exact e2
    exact List.eq_nil_of_length_eq_zero (by rw[C,a3];simp))
   (fun b B j v N=>n2 b B j v (by
    simp only[cs,List.getElem?_take]at N;split at N
    ·exact N
    ·cases N)) (by rw[C,a8];omega) (fun v hv=>ac v (List.mem_of_mem_take hv))
  refine Good.aH (v:=_) (w':=_) (by simp only[execOp,ho,resolve,invoke,builtin,Sem.run_bind,Sem.run_pure,Result.andThen_ok,List.map_toArray,List.map_cons,List.map_nil,I,E,M];rfl) ?_;have q:(f.take xs.length++xs.drop f.length).length=xs.length:=by simp only[List.length_append,List.length_take,List.length_drop];omega
  refine cQ m (some id) id (.arr e' A (f.take xs.length++xs.drop f.length)) (a.eval xo) (some g) (bf w g _) (fun k B=>⟨id,_,rfl,X,rfl,b6 _ (by rw[I];simpa [iB]using B)⟩) (.inr ⟨rfl,Z⟩)
   (fun _ k O=> .inr (by rw[I]at O;simpa [iB]using O)) (fun F' bx hF c1=> ?_) (by rw[aZ];rfl) (fun B=>by rw[Z]at B;cases B) (fun F' bx hF c1 c7=>by simp only[V,ai];exact⟨rfl,rfl⟩)
  refine⟨fun _ h=>h,hA,cs++cells.drop cs.length,⟨?_,.inr ⟨g,cap,_,?_,Nat.zero_le _,setRow_heap w g be _ e' _ J,?_,a1,?_,?_⟩⟩,fun j N=> ?_⟩
  ·simp only[List.length_append,List.length_drop,C,bs,q];omega
  ·rw[q,I]
  ·rw[q];exact L
  ·simp only[List.size_toArray,List.length_append,List.length_drop,Array.length_toList,C];omega
  ·rw[q,←a2];simp only[List.take_append,C,List.drop_take];rw[List.take_of_length_le (by rw[C];omega)]
  ·rw[q]at N;by_cases c2:j<f.length
   ·have B:(f.take xs.length++xs.drop f.length)[j]'(by rw[q];exact N)=f[j]:=by rw[List.getElem_append_left (by simp only[List.length_take];omega)];simp
    rw[B];refine ai.mono (hF _) (fun _ _ h=>h) (ai.fR (fun k v O hv=> ?_) (n3 j c2));have c3:j*A.size+A.size≤min f.length xs.length*A.size:=by rw[←Nat.succ_mul];exact Nat.mul_le_mul_right _ (by omega)
    rw[List.getElem?_append_left (by rw[C];omega)];simp only[cs,List.getElem?_take];rw[if_pos (by omega)];exact hv
   ·have B:(f.take xs.length++xs.drop f.length)[j]'(by rw[q];exact N)=xs[j]:=by rw[List.getElem_append_right (by simp only[List.length_take];omega)];simp only[List.length_take,List.getElem_drop];congr 1;omega
    rw[B];refine ai.mono (hF _) (fun _ _ h=>h) (ai.fR (fun k v O hv=> ?_) (r2 j N));have ax:min f.length xs.length=f.length:=Nat.min_eq_left (by omega);have c3:f.length*A.size≤j*A.size:=Nat.mul_le_mul_right _ (by omega);rw[List.getElem?_append_right (by rw[C,ax];omega),List.getElem?_drop];rw[←hv];congr 1;rw[C,ax];omega
end
end Go.Tv
