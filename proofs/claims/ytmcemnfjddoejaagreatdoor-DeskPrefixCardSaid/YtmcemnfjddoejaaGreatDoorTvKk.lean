/- Parts of own rows to copy into; functions with bound arguments; == on arrays of numbers. -/
import Derived.Test.YtmcemnfjddoejaaGreatDoorTvKj
namespace Go.Tv
open Go Go.RowKit
theorem rN{P:Program}{w:World}{t t2 ty e:TypeId}{i:TypeInfo}(z:P.underlying t=some (.slice e))(hi:P.info? e=some i){g off n cap:Nat}{f:Array Value}{A:TypeId}
  (D:w.heap[g]? = some (.cells f A (0,0))) {ad:Option Addr} {len c:Nat} {cs:List Value} (x:cs.length=min len n*i.size) (q:ad=none→cs=[])
  (u:∀b,ad=some b→∀j v,cs[j]? = some v→w.cell? (b.add j)=some v) (B:off+cs.length≤f.size) (E:∀v∈cs,v.oneCell'=true) :
  (Builtin.copy_ #[t,t2] ty #[.slice (some ⟨g,off,none⟩) n cap,.slice ad len c]).run P w =
   .ok (goInt (min len n:Nat)) (w.setRow g (f.toList.take off++cs++f.toList.drop (off+cs.length)).toArray):=by
 have k:=run_storeCells_at P g off A cs 0 f w D (by omega) E;simp only[Nat.add_zero]at k;have C:Nat.min len n=min len n:=rfl;cases ad with
 | none =>
  have:=q rfl;subst this;simp[Builtin.copy_,run_underlying z,Builtin.lenOf,Builtin.firstCells,sizeOf,typeInfo,hi,k,C]
 | some b =>
  have hl:=run_loadCells_list (P:=P) w b cs (u b rfl);rw[x]at hl;simp[Builtin.copy_,run_underlying z,Builtin.lenOf,Builtin.firstCells,sizeOf,typeInfo,hi,hl,k,C]
section
variable{P:Program}{Bw:Nat→Prop}{w0:b9 P}{ρ:Nat→Option Value}{φ:Nat→Nat→Prop}{h:Nat→Option Obj}{w:World}{new:Nat}
theorem GM(m:Mem Bw w0 ρ φ h w){id:Nat}{x:TypeId}{A:Ty}{c:List A.den}(f:h id=some (.arr x A c)){v:Value}(p:V (Fr (own φ h) Bw w) ρ (.sl id) v):∃ad cap,v = .slice ad c.length cap∧c.length≤cap:=by
 obtain⟨u,q,z,hA,cells,B,D⟩:=m.ob id _ f;simp only[V]at p;rw[p.1]at q;cases q;rcases B.2 with⟨e,j⟩ | ⟨g,cap,C,e,hb,E,k,_⟩
 ·exact⟨none,0,by rw[e,j],by omega⟩
 ·exact⟨_,cap,e,k⟩
theorem Ct(m:Mem Bw w0 ρ φ h w){o:Oper}{a:Act}{t e:TypeId}{ti x:TI}(C:aQ P t ti)(D:ti.k = .sl e)(j:aQ P e x){A:Ty}{xo lo:Operand}(E:o.op = .slice t xo (some lo) none none)
  {id:Nat} {I:TypeId} {f:List A.den} (q:h id=some (.arr I A f)) (u:V (Fr (own φ h) Bw w) ρ (.sl id) (a.eval xo)) {β:Bool} {k:IntKind} {l:Int} (hl:V (Fr (own φ h) Bw w) ρ (.p β (.int k) l) (a.eval lo))
  (J:0≤l) (L:l≤f.length):Good P o a w (aE Bw w0 ρ φ h w new (.suf id l.toNat x.size) []):=by
 obtain⟨ad,cap,z,B⟩:=GM m q u;simp only[V]at u;have c:=lK (P:=P) (w:=w) (F:=Fr (own φ h) Bw w) (ρ:=ρ) (a:=a) C D j (ad:=ad) (len:=f.length) (cap:=cap) (lo:=some lo) (hi:=none) (l:=some l) (r:=none) ⟨β,k,hl⟩ trivial (by simpa using J) (by simpa using L) (by simp) B;simp only[Option.map_none,Option.map_some,Option.getD_none,Option.getD_some]at c;refine Good.aH (v:=_) (w':=w) (by simp only[execOp,E,z,Option.map_none,Option.map_some,Sem.run_bind]at c ⊢;rw[c];rfl) (aE.pure m ?_);simp only[V];exact⟨ad,f.length,cap,by rw[u.1,z],by omega,B,by simp⟩
theorem As(m:Mem Bw w0 ρ φ h w){o:Oper}{a:Act}{t t2 e:TypeId}{ti te:TI}(ht:aQ P t ti)(hk:ti.k = .sl e)(a9:aQ P e te){A:Ty}(hT:te.T=some A)
  {xo yo:Operand} {id f:Nat} {y:ag} (hx:V (Fr (own φ h) Bw w) ρ (.suf id f te.size) (a.eval xo)) (hy:V (Fr (own φ h) Bw w) ρ y (a.eval yo)) (ho:o.op = .call { callee:= .builtin .copy,args:= #[xo,yo],argTypes:= #[t,t2] })
  {e':TypeId} {q x:List A.den} (a2:h id=some (.arr e' A q)) (bt:dS h A y=some x) :
  Good P o a w (aE Bw w0 ρ φ h w new (.p false (.int .i64) ((min x.length (q.length - f):Nat):Int)) [(id,some (.arr e' A (q.take f++(x.take (q.length - f)++q.drop (f+x.length)))))]):=by
 obtain⟨i,z,hi,hz,a3,bs,d2,d3,d4⟩:=a9.hi;obtain⟨aa,d5,d6⟩:=a9.hT A hT;have hu:=bd ht hk;have ac:i.size=A.size:=by rw[a3,aa]
 obtain⟨ad,len,c,b1,b2,b3,ch⟩:=gX m bt hy;obtain⟨u,q1,bv,hA,cells,r1,r2⟩:=m.ob id _ a2;simp only[V]at hx;obtain⟨ax,nx,cx,b4,d7,d8,b5⟩:=hx;rw[q1]at b4;cases b4;subst b2;have bx:nx=q.length:=by
  rcases r1.2 with⟨D,hn⟩ | ⟨g,cap,a4,D,_⟩
  ·simp only[Value.slice.injEq]at D;omega
  ·simp only[Value.slice.injEq]at D;exact D.2.1
 subst bx;by_cases J:min x.length (q.length - f)=0
 ·-- nothing to copy
  have a5:q.take f++(x.take (q.length - f)++q.drop (f+x.length))=q:=by
   rcases Nat.eq_zero_or_pos x.length with e0 | e0
   ·have:x=[]:=List.eq_nil_of_length_eq_zero e0;subst this;simp
   ·have:q.length - f=0:=by omega
    rw[this,List.take_of_length_le (by omega),List.drop_of_length_le (by omega)];simp
  have N:(Builtin.copy_ #[t,t2] o.type #[a.eval xo,a.eval yo]).run P w = .ok (goInt (min x.length (q.length - f):Nat)) w:=by
   rw[b5,b1];have key:∀(d:Option Addr),(Builtin.copy_ #[t,t2] o.type #[.slice d (q.length - f) (cx - f),.slice ad x.length c]).run P w = .ok (goInt (min x.length (q.length - f):Nat)) w:=fun d=>by
    have hm:Nat.min x.length (q.length - f)=0:=J;have c1:∀b:Addr,(loadCells b 0).run P w = .ok #[] w:=fun b=>by have:=run_loadCells_list (P:=P) w b [] (fun j v L=>by simp at L);simpa using this
    cases d <;> cases ad <;> simp[Builtin.copy_,run_underlying hu,Builtin.lenOf,Builtin.firstCells,sizeOf,typeInfo,hi,hm,J,c1,storeCells]
   exact key _
  refine Good.aH (v:=goInt (min x.length (q.length - f):Nat)) (w':=w) (by simp only[execOp,ho,resolve,invoke,builtin,Sem.run_bind,Sem.run_pure,Result.andThen_ok,List.map_toArray,List.map_cons,List.map_nil,N]) ?_;have I:apply [(id,some (Obj.arr e' A (q.take f++(x.take (q.length - f)++q.drop (f+x.length)))))] h=h:=by
   rw[a5];funext k;simp only[apply,bH];split
   ·rename_i e2;rw[e2,a2]
   ·rfl
  have X:V (Fr (own φ h) Bw w) ρ (.p false (.int .i64) ((min x.length (q.length - f):Nat):Int)) (goInt (min x.length (q.length - f):Nat)):=by simp only[V,ai];exact⟨rfl,rfl⟩
  refine⟨ρ,φ,by rw[I];exact m,by rw[I];exact fun _ _ _ h=>h,fun _ _ h=>h,fun _ _ h=> .inl h,?_⟩;rw[I];exact X
 ·rcases r1.2 with⟨D,hn⟩ | ⟨g,cap,a4,D,_,O,R,a6,b6,a7⟩
  ·omega
  simp only[Value.slice.injEq]at D;obtain⟨rfl,_,rfl⟩:=D;have c2:0<x.length:=by omega
  obtain⟨b,Y,_⟩:=b3 0 c2;subst Y;obtain⟨be,n1,n2,n3⟩:=kN (g:=fun k v=>w.cell? (b.add k)=some v) (fun i c3=>by
   obtain⟨b',E,e2⟩:=b3 i c3;cases E;exact e2)
  have bi:=nC n1 n3;have a8:cells.length=q.length*A.size:=r1.1;have c4:q.length*A.size≤cx*A.size:=Nat.mul_le_mul_right _ R;generalize a1:min x.length (q.length - f)=C at *;have c5:C≤x.length:=by omega
  have c6:f+C≤q.length:=by omega
  have d9:C*A.size≤x.length*A.size:=Nat.mul_le_mul_right _ c5;have dd:f*A.size+C*A.size≤q.length*A.size:=by rw[←Nat.add_mul];exact Nat.mul_le_mul_right _ c6
  let cs:=be.take (C*A.size)
  have M:cs.length=C*A.size:=by simp only[cs,List.length_take,n1];omega
  have c7:a.eval xo = .slice (some ⟨g,f*A.size,none⟩) (q.length - f) (cx - f):=by rw[b5,if_neg (by omega)];simp only[Option.map_some];rw[ca,Nat.zero_add,aa]
  have N:=rN (P:=P) (w:=w) (t2:=t2) (ty:=o.type) hu hi O (off:=f*A.size) (n:=q.length - f) (cap:=cx - f) (ad:=some b) (len:=x.length) (c:=c) (cs:=cs) (by rw[M,ac,a1])
   (fun E=>by cases E)
   (fun b' E j v L=>by
    cases E;refine n2 j v ?_;simp only[cs,List.getElem?_take]at L;split at L
    ·exact L
    ·cases L) (by rw[M,b6];omega) (fun v X=>bi v (List.mem_of_mem_take X))
  refine Good.aH (v:=_) (w':=_) (by simp only[execOp,ho,resolve,invoke,builtin,Sem.run_bind,Sem.run_pure,Result.andThen_ok,List.map_toArray,List.map_cons,List.map_nil,c7,b1,N];rfl) ?_;have B:(q.take f++(x.take (q.length - f)++q.drop (f+x.length))).length=q.length:=by simp only[List.length_append,List.length_take,List.length_drop];omega
  rw[a1];refine cQ m (some id) id (.arr e' A (q.take f++(x.take (q.length - f)++q.drop (f+x.length)))) (.slice (some ⟨g,0,none⟩) q.length cx) (some g) (bf w g _) (fun k E=>⟨id,_,rfl,a2,rfl,bv _ (by simpa [iB]using E)⟩) (.inr ⟨rfl,q1⟩)
   (fun _ k Z=> .inr (by simpa [iB]using Z)) (fun F' c8 hF c9=> ?_) (by rw[aZ];rfl) (fun E=>by rw[q1]at E;cases E) (fun F' c8 hF c9 cp=>by simp only[V,ai];exact⟨rfl,rfl⟩)
  refine⟨fun _ h=>h,hA,cells.take (f*A.size)++cs++cells.drop (f*A.size+cs.length),⟨?_,.inr ⟨g,cx,_,?_,Nat.zero_le _,setRow_heap w g a4 _ e' _ O,?_,a6,?_,?_⟩⟩,fun j L=> ?_⟩
  ·simp only[List.length_append,List.length_take,List.length_drop,M,a8,B];omega
  ·rw[B]
  ·rw[B];exact R
  ·simp only[List.size_toArray,List.length_append,List.length_take,List.length_drop,Array.length_toList,M];omega
  ·rw[B,←a7];have:=uM (l:=a4.toList) (vs:=cs) (p:=f*A.size) (m:=cs.length) (n:=q.length*A.size) rfl (by omega) (by simp only[Array.length_toList];omega);simpa using this
  ·rw[B]at L;have de:j*A.size+A.size≤q.length*A.size:=by rw[←Nat.succ_mul];exact Nat.mul_le_mul_right _ L
   by_cases cc:j<f
   ·have d1:j*A.size+A.size≤f*A.size:=by rw[←Nat.succ_mul];exact Nat.mul_le_mul_right _ cc
    have E:(q.take f++(x.take (q.length - f)++q.drop (f+x.length)))[j]'(by rw[B];exact L)=q[j]:=by rw[List.getElem_append_left (by simp only[List.length_take];omega)];simp
    rw[E];refine ai.mono (hF _) (fun _ _ h=>h) (ai.fR (fun k v Z X=> ?_) (r2 j L));rw[ig (n:=cs.length) (by omega) rfl (.inl (by omega))];exact X
   ·by_cases di:j<f+C
    ·have E:(q.take f++(x.take (q.length - f)++q.drop (f+x.length)))[j]'(by rw[B];exact L)=x[j - f]'(by omega):=by rw[List.getElem_append_right (by simp only[List.length_take];omega),List.getElem_append_left (by simp only[List.length_take];omega)];simp only[List.length_take,List.getElem_take];congr 1;omega
     rw[E];refine ai.mono (hF _) (fun _ _ h=>h) (ai.fR (fun k v Z X=> ?_) (n3 (j - f) (by omega)));have Y:f*A.size≤j*A.size:=Nat.mul_le_mul_right _ (by omega);have dk:(j - f)*A.size=j*A.size - f*A.size:=Nat.sub_mul _ _ _;have dm:(j - f)*A.size+A.size≤C*A.size:=by rw[←Nat.succ_mul];exact Nat.mul_le_mul_right _ (by omega)
     rw[List.append_assoc,List.getElem?_append_right (by simp only[List.length_take];omega),List.getElem?_append_left (by simp only[List.length_take,M,a8];omega)];simp only[cs,List.getElem?_take,List.length_take,a8];rw[if_pos (by omega),←X];congr 1;omega
    ·have ds:C=x.length:=by omega
     have E:(q.take f++(x.take (q.length - f)++q.drop (f+x.length)))[j]'(by rw[B];exact L)=q[j]:=by rw[List.getElem_append_right (by simp only[List.length_take];omega),List.getElem_append_right (by simp only[List.length_take];omega)];simp only[List.length_take,List.getElem_drop];congr 1;omega
     rw[E];refine ai.mono (hF _) (fun _ _ h=>h) (ai.fR (fun k v Z X=> ?_) (r2 j L));have Y:(f+C)*A.size≤j*A.size:=Nat.mul_le_mul_right _ (by omega);rw[Nat.add_mul]at Y;rw[ig (n:=cs.length) (by omega) rfl (.inr (by rw[M];omega))];exact X
theorem yn(m:Mem Bw w0 ρ φ h w){o:Oper}{a:Act}{f:FuncId}{p:Array Operand}(B:o.op = .makeFunc (.func f) p #[]){c:List ag}(C:iA (Fr (own φ h) Bw w) ρ c (p.toList.map a.eval)):
  Good P o a w (aE Bw w0 ρ φ h w new (.bfn f c) []):=by
 refine Good.aH (v:= .func (.func f) (p.map a.eval) #[]) (w':=w) (by simp[execOp,B,Instr.makeFunc]) (aE.pure m ?_);simp only[V];have key:∀(c:List ag) (e:List Value),iA (Fr (own φ h) Bw w) ρ c e→e.length=c.length∧VL (Fr (own φ h) Bw w) ρ c (fun k u=>e[k]? = some u):=fun c=>by
  induction c with
  | nil=>intro e j;cases e with | nil=>exact⟨rfl,by simp only[VL]⟩ | cons _ _=>exact j.elim
  | cons x c D =>
   intro e j;cases e with
   | nil=>exact j.elim
   | cons v e =>obtain⟨q,z⟩:=D e j.2;simp only[VL];exact⟨by simp[q],⟨v,rfl,j.1⟩,VL.mono (fun _ _ _ h=>h) (fun _ _ h=>h) (fun k u A=>by simpa using A) z⟩
 obtain⟨q,z⟩:=key _ _ C;exact⟨_,rfl,by simpa using q,VL.mono (fun _ _ _ h=>h) (fun _ _ h=>h) (fun k u A=>by simpa using A) z⟩
theorem Di(m:Mem Bw w0 ρ φ h w){o:Oper}{a:Act}{fo:Operand}{p:Array Operand}{N:Array TypeId}(ho:o.op = .call { callee:= .value fo,args:=p,argTypes:=N })
  {f:FuncId} {O:List ag} (hf:V (Fr (own φ h) Bw w) ρ (.bfn f O) (a.eval fo)) {R:List ag} (hx:iA (Fr (own φ h) Bw w) ρ R (p.toList.map a.eval)) {args:List ag} (hl:oq h (O++R)=some args)
  {r:ag} (hp:Pure P f args r):Good P o a w (aE Bw w0 ρ φ h w new r []):=by
 simp only[V]at hf;obtain⟨X,Y,Z,a1⟩:=hf;obtain⟨fn,a2,z,q⟩:=hp.fn;have A:∀(D:List ag) (x:List Value) (I:List ag) (J:List Value),x.length=D.length→VL (Fr (own φ h) Bw w) ρ D (fun k u=>x[k]? = some u)→iA (Fr (own φ h) Bw w) ρ I J→iA (Fr (own φ h) Bw w) ρ (D++I) (x++J):=fun D=>by
  induction D with
  | nil=>intro x I J hl _ E;cases x with | nil=>exact E | cons _ _=>simp at hl
  | cons c D ih =>
   intro x I J hl E hy;cases x with
   | nil=>simp at hl
   | cons u x =>simp only[VL]at E;obtain⟨⟨u',M,q2⟩,q3⟩:=E;simp at M;subst M;exact⟨q2,ih x I J (by simpa using hl) (VL.mono (fun _ _ _ h=>h) (fun _ _ h=>h) (fun k u j=>by simpa using j) q3) hy⟩
 have B:=oN m mM.all hl (A O X.toList R _ (by simpa using Z) (VL.mono (fun _ _ _ h=>h) (fun _ _ h=>h) (fun k u j=>by simpa using j) a1) hx);have a3:∀k,qe φ h Bw k→k<w.heap.size:=fun k j=>by
  rcases j with j | j
  ·exact m.qS j
  ·exact Nat.lt_of_lt_of_le (w0.lt k (m.bw k j)) m.kp.size
 have C:=hp.calls (qe φ h Bw) w (X++p.map a.eval) m.kp.laid a3 (by simpa using B);refine Good.sH (f:=f) (args:=X++p.map a.eval) (w':=w) ?_ (C.mono fun e w' ⟨v,he,hb,E⟩=>⟨v,he,ρ,φ,?_,?_,fun _ _ h=>h,fun _ _ h=> .inl h,?_⟩)
 ·have n1:¬fn.name = "runtime.NumGoroutine" :=by simpa using z
  have n2:¬fn.body=none:=fun e=>by rw[e]at q;cases q
  simp[execOp,ho,resolve,Y,Deferred.ofValue,invoke,callFunc,a2,n1,n2]
 ·have hF:∀β a v,Fr (own φ h) Bw w β a v→Fr (own φ h) Bw w' β a v:=fun β a v=>Fr.Js (fun k j _=>hb.block k j) (fun k j=> .inl j) β a v
  refine⟨fun id ob L=> ?_,fun id o k h1 h2 h3=>Nat.lt_of_lt_of_le (m.lt id o k h1 h2 h3) hb.size,m.dj,m.bw,m.ow,m.kp.EH hb,m.pM⟩;obtain⟨u,M,q2⟩:=m.ob id ob L;exact⟨u,M,OR.mono hF (fun _ _ h=>h) (fun _ h=>h) (fun hl k j=>hb.block k (m.lt id ob k L hl j)) q2⟩
 ·exact fun β a v=>Fr.Js (fun k j _=>hb.block k j) (fun k j=> .inl j) β a v
 ·refine V.mono (fun β a u hu=> ?_) (fun _ _ h=>by cases h) E;exact⟨fun e=>hu.2.1 rfl (.inl e),fun _ e=>hu.2.1 rfl (.inr e),hu.2.2⟩
theorem Fz{t e:TypeId}{ti q:TI}{n:Nat}{k:IntKind}(D:aQ P t ti)(E:ti.k = .ar n e)(c:aQ P e q)(m:q.k = .int k)(a b:ep n):
  (Op.equal t (.agg (a.1.map (Value.int k)).toArray) (.agg (b.1.map (Value.int k)).toArray)).run P w = .ok (H3 a b) w:=by
 obtain⟨d,u,f⟩:=D.hu;rw[E]at f;simp only[UK]at f;subst f;obtain⟨N,x,j⟩:=c.hu;rw[m]at j;simp only[UK]at j;subst j;obtain⟨i,z,hi,_,A,_⟩:=c.hi;have B:q.size=1:=c.ha (by rw[m];rfl);have I:P.cellsOf e=1:=by simp[Program.cellsOf,hi,A,B]
 obtain⟨r,J,L⟩:=nV (P:=P) x 9998 w (l1:=a.1) (l2:=b.1) (List.range n) (fun i hi=>by simp at hi;rw[a.2,b.2];omega);have M:r=H3 a b:=by
  rw[Bool.eq_iff_iff,L];unfold H3;rw[beq_iff_eq];constructor
  ·intro C;refine List.ext_getElem? fun i=> ?_
   rcases Nat.lt_or_ge i n with p | p
   ·exact C i (by simpa using p)
   ·rw[List.getElem?_eq_none (by rw[a.2];exact p),List.getElem?_eq_none (by rw[b.2];exact p)]
  ·intro C i _;rw[C]
 unfold Op.equal Op.maxDepth;rw[show(10000:Nat)=9999+1 from rfl,run_equalIn_array w 9999 _ _ u hi,I,←M];exact J
end
end Go.Tv
