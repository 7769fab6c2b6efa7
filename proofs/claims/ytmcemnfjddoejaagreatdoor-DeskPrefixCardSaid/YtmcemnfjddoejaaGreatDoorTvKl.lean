/- Maps of numbers as data; rows that are not data. -/
import Derived.Test.YtmcemnfjddoejaaGreatDoorTvKk
import Derived.Lib.AppendStr
namespace Go.Tv
open Go Go.RowKit
section
variable{P:Program}{Bw:Nat→Prop}{w0:b9 P}{ρ:Nat→Option Value}{φ:Nat→Nat→Prop}{h:Nat→Option Obj}{w:World}{new:Nat}
theorem GW{b:Nat}{v:Value}(c:w.qi ⟨b,0,some 0⟩=some v):∃f cl,w.heap[b]? = some (.map f cl)∧v = .tuple (f.map fun e=>Value.tuple #[e.key,e.val]):=by
 unfold World.qi at c;simp only at c;split at c
 ·rename_i f cl hb;cases c;exact⟨f,cl,hb,rfl⟩
 ·cases c
def HH(e:IntKind)(c:Bool)(r:Option Int):ag :=
 if c then .tup [.p false (.int e) (r.getD 0),.p false .bool r.isSome]else .p false (.int e) (r.getD 0)
theorem CT{F:Bool→Addr→Value→Prop}{e:IntKind}{c:Bool}{r:Option Int}{v:Value}{b:Bool}(f:v = .int e (r.getD 0))(hb:b=r.isSome):V F ρ (HH e c r) (if c then .tuple #[v,.bool b]else v):=by
 subst f hb;cases c
 ·simp[HH,V,ai,Ty.scalar]
 ·simp only[HH,if_true,V,VL];exact⟨_,rfl,rfl,⟨_,rfl,by simp[ai,Ty.scalar]⟩,⟨_,rfl,by simp[ai,Ty.scalar]⟩,trivial⟩
theorem z9(m:Mem Bw w0 ρ φ h w){o:Oper}{a:Act}{t kt et:TypeId}{ti te tk:TI}(ht:aQ P t ti)(hk:ti.k = .mp kt et){f C:IntKind}(a2:aQ P kt tk)(a3:tk.k = .int f)(O:aQ P et te)(hT:te.T=some (.int C))
  {xo ko:Operand} {c:Bool} (ho:o.op = .lookup t xo ko c) {β:Bool} {B:List (Int×Int)} (hx:V (Fr (own φ h) Bw w) ρ (.p β (.mapi f C) B) (a.eval xo)) {a4:Bool} {i:Int} (hi:V (Fr (own φ h) Bw w) ρ (.p a4 (.int f) i) (a.eval ko)) :
  Good P o a w (aE Bw w0 ρ φ h w new (HH C c (bc (α:=Int) (.int f) B i)) []):=by
 have q:fP P kt (.int f):=fP.BE a2 (by rw[a3];rfl);have e2:a.eval ko=aO (.int f) i:=so rfl rfl hi;obtain⟨dm,hm,D⟩:=ht.hu;rw[hk]at D;simp only[UK]at D;subst D;obtain⟨z,hz,a5,a6,a7⟩:=dg O w;have R:z = .int C 0:=by have u:MV (Fr (own φ h) Bw w false) (.int C) (Ty.zero (.int C)) z:=vD O hT hz a5 a6 a7;have:=FW (ρ:=ρ) u;simp only[enc,Ty.scalar,if_true,V,ai]at this;exact this.2.symm
 simp only[V,ai]at hx;obtain⟨-,r,e1,hr⟩:=hx;cases r with
 | none =>
  simp only at hr;subst hr;have hf:=q.find i [] [] w rfl;have E:(Instr.findKey kt (aO (.int f) i) []).run P w = .ok none w:=by
   rcases hf with⟨X,_⟩ | ⟨j,e,_,Y,_⟩
   ·exact X
   ·simp at Y
  refine Good.aH (v:=if c then .tuple #[z,.bool false]else z) (w':=w) ?_ (aE.pure m (CT (by rw[R];rfl) rfl));simp only[execOp,ho];rw[←e1,e2];cases c <;> simp[Instr.lookup,run_underlying hm,q.check,E,hz,Result.andThen]
 | some b =>
  obtain⟨I,a8⟩:=hr;obtain⟨J,cl,hb,u⟩:=GW I.2.2;unfold Ld at u;simp only[Value.tuple.injEq]at u;have hl:(B.map fun p=>Value.tuple #[.int f p.1,.int C p.2])=J.toList.map fun e=>Value.tuple #[e.key,e.val]:=by have:=congrArg Array.toList u;simpa using this
  have A:J.toList.map (·.key)=(B.map (·.1)).map (aO (.int f)):=by
   refine List.ext_getElem? fun j=> ?_
   have:=congrArg (fun l=>l[j]?) hl;simp only[List.getElem?_map]at this ⊢;cases q1:B[j]? <;> cases q2:J.toList[j]? <;> rw[q1,q2]at this <;> simp at this ⊢
   exact this.1.symm
  have Z:∀(j:Nat) (e:MapEntry),J.toList[j]? = some e→∃p:Int×Int,B[j]? = some p∧e.key=Value.int f p.1∧e.val=Value.int C p.2:=fun j e he=>by
   have:=congrArg (fun l=>l[j]?) hl;simp only[List.getElem?_map,he]at this;cases q1:B[j]? with
   | none=>rw[q1]at this;simp at this
   | some p=>rw[q1]at this;simp at this;exact⟨p,rfl,this.1.symm,this.2.symm⟩
  rcases q.find i J.toList (B.map (·.1)) w A with⟨X,Y⟩ | ⟨j,e,X,Y,h3⟩
  ·have L:bc (α:=Int) (.int f) B i=none:=jq (K:= .int f) rfl fun p hp e=>by
    obtain⟨j,hj⟩:=List.mem_iff_getElem?.1 hp;have N:(J.toList.map (·.key))[j]? = some (aO (.int f) i):=by rw[A,List.getElem?_map,List.getElem?_map,hj];exact congrArg some (congrArg (aO (.int f)) e)
    rw[List.getElem?_map]at N;cases hq:J.toList[j]? with
    | none=>rw[hq]at N;cases N
    | some x =>rw[hq]at N;simp at N;exact Y x (List.mem_of_getElem? hq) N
   rw[L];refine Good.aH (v:=if c then .tuple #[z,.bool false]else z) (w':=w) ?_ (aE.pure m (CT (by rw[R];rfl) rfl));simp only[execOp,ho];rw[←e1,e2];cases c <;> simp[Instr.lookup,run_underlying hm,Go.MapKept.run_getObj_map hb,q.check,X,hz,Result.andThen]
  ·obtain⟨p,hp,a9,aa⟩:=Z j e Y;have I:p.1=i:=by rw[a9]at h3;simpa [aO]using h3
   have M:=ll (K:= .int f) (α:=Int) (k:=i) rfl a8 hp I;rw[M];refine Good.aH (v:=if c then .tuple #[e.val,.bool true]else e.val) (w':=w) ?_ (aE.pure m (CT (by rw[aa];rfl) rfl));simp only[execOp,ho];rw[←e1,e2];cases c <;> simp[Instr.lookup,run_underlying hm,Go.MapKept.run_getObj_map hb,q.check,X,Result.andThen]
/-! ### Rows of a1 -/
theorem xK{F:Bool→Addr→Value→Prop}{sz:Nat}:∀ {c:List ag} {vs:List Value},(∀x∈c,(cellsOf x).all ag.cell=true∧(cellsOf x).length=sz)→iA F ρ c vs →
  vs.length=c.length∧(∀v∈vs,v.cells.size=sz)∧VL F ρ (c.flatMap cellsOf) (fun k u=>(vs.flatMap fun v=>v.cells.toList)[k]? = some u)
 | [],[],_,_=>⟨rfl,fun _ h=>by simp at h,by simp only[List.flatMap_nil,VL]⟩
 | x::c,v::vs,z,⟨A,B⟩=>by
  obtain⟨C,D⟩:=z x (by simp);obtain⟨E,I,J⟩:=xK (fun y L=>z y (by simp[L])) B;obtain⟨M,j,N⟩:=fA C A;refine⟨by simp[E],fun u hu=> ?_,?_⟩
  ·rcases List.mem_cons.1 hu with rfl | hu
   ·rw[←D,←j,Array.length_toList]
   ·exact I u hu
  ·rw[List.flatMap_cons,List.flatMap_cons];refine VL.mk fun k y m=> ?_
   rcases Nat.lt_or_ge k (cellsOf x).length with e | f
   ·rw[List.getElem?_append_left e]at m;obtain⟨u,p,q⟩:=VL.get M m;exact⟨u,by rw[List.getElem?_append_left (by rw[j];exact e)];exact p,q⟩
   ·rw[List.getElem?_append_right f]at m;obtain⟨u,p,q⟩:=VL.get J m;exact⟨u,by rw[List.getElem?_append_right (by rw[j];exact f),j];exact p,q⟩
 | [],_::_,_,h=>h.elim
 | _::_,[],_,h=>h.elim
theorem yu(m:Mem Bw w0 ρ φ h w)(hn:ρ new=none){o:Oper}{a:Act}{t e:TypeId}{ti z:TI}(ht:aQ P t ti)(C:ti.k = .sl e)(N:aQ P e z)
  {parts:Array (Nat×Operand)} {len:Nat} (ho:o.op = .buildSlice t len parts) (O:parts.toList.map (·.1)=List.range len) {f:List ag}
  (hx:iA (Fr (own φ h) Bw w) ρ f (parts.toList.map fun p=>a.eval p.2)) (R:∀x∈f,(cellsOf x).all ag.cell=true∧(cellsOf x).length=z.size) (X:len*z.size≤16777216) :
  Good P o a w (aE Bw w0 ρ φ h w new (.sl new) [(new,some (.vrow len z.size (f.flatMap cellsOf)))]):=by
 obtain⟨g1,g2,g3⟩:=xK R hx;have c:(parts.toList.map fun p=>a.eval p.2).length=len:=by have:=congrArg List.length O;simpa using this
 have A:(parts.map fun p=>(p.1,a.eval p.2))=(((parts.toList.map fun p=>a.eval p.2).zipIdx 0).map fun p=>(p.2,p.1)).toArray:=by
  apply Array.ext';simp only[Array.toList_map];apply List.ext_getElem?;intro j;simp only[List.getElem?_map,List.getElem?_zipIdx,Option.map_map];have D:=congrArg (fun l=>l[j]?) O;simp only[List.getElem?_map]at D;cases Y:parts.toList[j]? with
  | none=>simp[Y]
  | some p =>
   simp only[Y,Option.map_some]at D ⊢;have Z:j<len:=by have:=(List.getElem?_eq_some_iff.1 Y).1;have h2:=congrArg List.length O;simp only[List.length_map,List.length_range]at h2;omega
   rw[List.getElem?_range Z]at D;simp only[Option.some.injEq]at D;simp[D]
 have B:=oR (P:=P) (w:=w) ht C N (vs:=parts.toList.map fun p=>a.eval p.2) g2 (by rw[c];exact X);rw[c,←A]at B;refine Good.aH (v:=_) (w':=_) (by simp only[execOp,ho,Sem.run_bind,B,Result.andThen_ok];rfl) ?_;have E:∀ {vs:List Value},(∀v∈vs,v.cells.size=z.size)→(vs.flatMap fun v=>v.cells.toList).length=vs.length*z.size:=fun {vs} I=>by
  induction vs with
  | nil=>simp
  | cons v vs ih=>rw[List.flatMap_cons,List.length_append,ih (fun u hu=>I u (by simp[hu])),Array.length_toList,I v (by simp),List.length_cons,Nat.succ_mul,Nat.add_comm]
 have q:∀ {f:List ag},(∀x∈f,(cellsOf x).all ag.cell=true∧(cellsOf x).length=z.size)→(f.flatMap cellsOf).length=f.length*z.size:=fun {f} I=>by
  induction f with
  | nil=>simp
  | cons v vs ih=>rw[List.flatMap_cons,List.length_append,ih (fun u hu=>I u (by simp[hu])),(I v (by simp)).2,List.length_cons,Nat.succ_mul,Nat.add_comm]
 have J:f.length=len:=by rw[←g1,c]
 refine cQ m none new (.vrow len z.size (f.flatMap cellsOf)) (.slice (some ⟨w.heap.size,0,none⟩) len len) none (World.grownBy_alloc w _ none) (fun k e=>by cases e) (.inl hn) (fun _ k C=> ?_) (fun F' a1 hF L=> ?_) (by rw[bn];rfl) (fun _=>rfl) (fun F' a1 hF L M=> ?_)
 ·simp only[iB,Option.some.injEq]at C;exact .inl (by omega)
 ·simp only[OR];refine⟨_,e,_,rfl,rfl,heap_alloc_new w _,?_,?_,VL.mono hF L (fun k u C=>by simpa using C) g3⟩
  ·rw[List.size_toArray,E g2,q R,c,J]
  ·rw[q R,J]
 ·simp only[V];exact⟨M,_,_,_,rfl⟩
theorem Al(m:Mem Bw w0 ρ φ h w){id n sz:Nat}{c:List ag}(hb:h id=some (.vrow n sz c)){u:Value}(f:ρ id=some u):
  ∃g t cells,u = .slice (some ⟨g,0,none⟩) n n∧w.heap[g]? = some (.cells cells t (0,0))∧cells.size=c.length∧c.length=n*sz∧VL (Fr (own φ h) Bw w) ρ c (fun k v=>cells[k]? = some v):=by
 obtain⟨z,e,g,t,cells,rfl,_,j,p,q,x⟩:=m.ob id _ hb;rw[f]at e;cases e;exact⟨g,t,cells,rfl,j,p,q,x⟩
theorem Bu(m:Mem Bw w0 ρ φ h w){o:Oper}{a:Act}{t:TypeId}{ti:TI}(q:aQ P t ti){e:TypeId}(u:ti.k = .sl e){xo:Operand}{id n sz:Nat}{x:List ag}(j:V (Fr (own φ h) Bw w) ρ (.sl id) (a.eval xo))
  (hb:h id=some (.vrow n sz x)) (z:o.op = .call { callee:= .builtin .len,args:= #[xo],argTypes:= #[t] }):Good P o a w (aE Bw w0 ρ φ h w new (.p false (.int .i64) (n:Int)) []):=by
 obtain⟨d,A,c⟩:=q.hu;rw[u]at c;simp only[UK]at c;subst c;simp only[V]at j;obtain⟨f,-⟩:=j;obtain⟨g,C,cells,B,-⟩:=Al m hb f;refine Good.aH (v:= .int .i64 n) (w':=w) ?_ (aE.pure m (dB _ _ _));simp only[execOp,z,resolve,invoke,builtin,Sem.run_bind,Sem.run_pure,Result.andThen_ok,List.map_toArray,List.map_cons,List.map_nil,B];simp[Builtin.len_,run_underlying A,goInt]
theorem yz(m:Mem Bw w0 ρ φ h w){o:Oper}{a:Act}{t e:TypeId}{ti f:TI}(x:aQ P t ti)(z:ti.k = .sl e)(j:aQ P e f){xo io:Operand}{id n:Nat}{A:List ag}(q:V (Fr (own φ h) Bw w) ρ (.sl id) (a.eval xo))
  (hb:h id=some (.vrow n f.size A)) {β:Bool} {k:IntKind} {i:Int} (hi:V (Fr (own φ h) Bw w) ρ (.p β (.int k) i) (a.eval io)) (B:o.op = .indexAddr t xo io) (C:0≤i) (D:i<n) :
  Good P o a w (aE Bw w0 ρ φ h w new (.adr id i.toNat f.size 0) []):=by
 have hu:=bd x z;have E:=bV hi;simp only[V]at q;obtain⟨c,-⟩:=q;obtain⟨g,I,cells,u,-⟩:=Al m hb c;refine Good.aH (v:= .pointer (some ((⟨g,0,none⟩:Addr).add (i.toNat*f.size)))) (w':=w) ?_ (aE.pure m ?_)
 ·simp[execOp,B,Instr.indexAt,asIntOf,E,u,run_underlying hu,run_sizeOf j,C,D]
 ·simp only[V];exact⟨g,.inr ⟨_,_,by rw[c,u]⟩,by rw[ca];simp⟩
theorem zF(m:Mem Bw w0 ρ φ h w){o:Oper}{a:Act}{t:TypeId}{ti:TI}(A:aQ P t ti){xo:Operand}{id i sz off:Nat}(z:V (Fr (own φ h) Bw w) ρ (.adr id i sz off) (a.eval xo))(B:o.op = .load t xo)
  {n f:Nat} {j:List ag} (hb:h id=some (.vrow n f j)) {y:ag} (C:dV ti j (i*sz+off)=some y):Good P o a w (aE Bw w0 ρ φ h w new y []):=by
 obtain⟨u,p,_⟩:=m.ob id _ hb;obtain⟨g,N,cells,rfl,D,O,R,E⟩:=Al m hb p;simp only[V]at z;obtain⟨q,c,I⟩:=z;have x:q=g:=by
  rcases c with c | ⟨_,_,c⟩
  ·rw[p]at c;cases c
  ·rw[p]at c;cases c;rfl
 subst x;have e:VL (Fr (own φ h) Bw w) ρ j (fun k u=>w.cell? ((⟨q,0,none⟩:Addr).add k)=some u):=VL.mono (fun _ _ _ h=>h) (fun _ _ h=>h) (fun k u J=>by
  rw[ca,Nat.zero_add];simp only[World.cell?,D];exact J) E
 obtain⟨v,L,M⟩:=gn (P:=P) A e C;refine Good.aH (v:=v) (w':=w) ?_ (aE.pure m M);have:a.eval xo = .pointer (some ((⟨q,0,none⟩:Addr).add (i*sz+off))):=by rw[I,ca,Nat.zero_add]
 simp[execOp,B,Instr.loadAt,this,Instr.sureAddr,L]
theorem Cr{w:World}{g:Nat}{c:Array Value}{f:TypeId}{mk:Nat×Nat}(j:w.heap[g]? = some (.cells c f mk))(e:mk=(0,0)∨mk=(c.size,c.size+1)):
  (w.freeze ⟨g,c.size,none⟩ 1).heap[g]? = some (.cells c f (c.size,c.size+1)):=by
 unfold World.freeze;rw[if_neg (by decide)];simp only[Array.getElem?_modify,j,if_true,Option.map_some];rcases e with rfl | rfl
 ·simp
 ·simp
theorem th(w:World)(g k:Nat):w.grownBy (w.freeze ⟨g,k,none⟩ 1) (some g):=by
 refine⟨rfl,rfl,rfl,?_,fun j f c=> ?_⟩
 ·unfold World.freeze;rw[if_neg (by decide)];simp
 ·unfold World.freeze;rw[if_neg (by decide)];have:g≠j:=fun e=>c (by rw[e])
  simp[Array.getElem?_modify,this]
theorem yJ(m:Mem Bw w0 ρ φ h w){o:Oper}{a:Act}{t e:TypeId}{ti R:TI}(ht:aQ P t ti)(x:ti.k = .sl e)(E:aQ P e R)(I:R.k = .int .u8){xo:Operand}{id:Nat}(X:V (Fr (own φ h) Bw w) ρ (.sl id) (a.eval xo))
  (ho:o.op = .convert t t xo) {j:TypeId} {f:List Int} (hi:h id=some (.arr j (.int .u8) f)) (h0:0<f.length):Good P o a w (aE Bw w0 ρ φ h w new (.sl id) [(id,some (.bytes j f)),(id,some (.bytes j f))]):=by
 have hu:=bd ht x;obtain⟨d2,J,p⟩:=E.hu;rw[I]at p;simp only[UK]at p;subst p;obtain⟨L,f1⟩:=m.Ef hi;obtain⟨u,Y,q2⟩:=L.ob id _ (aw h id (some (.bytes j f)));simp only[V]at X;obtain⟨q,-⟩:=X;rw[q]at Y;cases Y;rcases q2 with⟨_,hn⟩ | ⟨g,cap,c,mk,M,z,Z,r2,r3,r5,r6⟩
 ·subst hn;simp at h0
 have N:w.shape? g=some (j,c.size):=by unfold World.shape?;rw[Z]
 have A:(convert t t (.slice (some ⟨g,0,none⟩) f.length cap)).run P w = .ok (.slice (some ⟨g,0,none⟩) f.length cap) (w.freeze ⟨g,c.size,none⟩ 1):=by simp[convert,run_underlying hu,run_underlying J,markStringish,N]
 refine Good.aH (v:=a.eval xo) (w':=w.freeze ⟨g,c.size,none⟩ 1) (by simp only[execOp,ho,M,Sem.run_bind,A,Result.andThen_ok];rfl) ?_;refine aE.after (u1:=[(id,some (.bytes j f))]) (u2:=[(id,some (.bytes j f))]) rfl f1 ?_;refine eH L (some id) id (.bytes j f) (a.eval xo) (φ id) (some g) (th w g _) (fun k e=>⟨id,_,rfl,aw _ _ _,rfl,by cases e;exact z⟩) (.inr ⟨rfl,q⟩)
  (fun _ k x=>Nat.lt_of_lt_of_le (L.lt id _ k (aw _ _ _) rfl x) (th w g _).size) (fun _ k x=> .inr ⟨id,_,rfl,aw _ _ _,rfl,x⟩) (fun F' O hF B=> ?_) (by rw[aZ];rfl) (fun e=>by rw[q]at e;cases e) (fun F' O hF B C=> ?_)
 ·refine .inr ⟨g,cap,c,(c.size,c.size+1),M,z,Cr Z r2,.inr rfl,r3,r5,r6⟩
 ·simp only[V];exact⟨C,_,_,_,M⟩
/-! ### Bytes of a string D a row of bytes -/
theorem sZ{t u ty e:TypeId}{i:TypeInfo}(I:P.underlying t=some (.slice e))(hu:P.underlying u=some .string)(hi:P.info? e=some i)(hz:i.zero=some (.int .u8 0))(c:i.size=1)(p:i.bytes=1)
  {v:Value} {n:Nat} {A:List Value} (f:w.ownsRow 0 e 1 v n A) (s:ByteArray) (B:n+s.size≤maxLen) (m:n+s.size≤140737488355328) :
  ∃C w',(Builtin.append_ #[t,u] ty #[v,.string s]).run P w = .ok C w'∧w'.ownsRow 0 e 1 C (n+s.size) (A++Lib.strCells s)∧w.grownBy w' v.ownBlock ∧
   ∀k,C.ownBlock=some k→w.heap.size≤k∨v.ownBlock=some k:=by
 obtain⟨C,w',q,R,V,X⟩:=Lib.run_append_own_string (P:=P) w 0 t u ty e i I hu hi hz c p v n A f s B m (Nat.zero_le _);refine⟨C,w',q,R,V,fun k D=> ?_⟩;have J:n+s.size≤9223372036854775807:=by simp only[maxLen]at B;omega
 rcases f.2 with⟨rfl,rfl⟩ | ⟨g,cap,E,rfl,_,Y,Z,a1,L,M⟩
 ·by_cases hm:s.size=0
  ·rw[X.2 ⟨rfl,hm⟩]at D;cases D
  ·have:=run_append_nil_string (P:=P) w t u ty e i (.int .u8 0) I hu hi hz s (by omega) (by omega) (by rw[p];omega);rw[this]at q;cases q;simp only[Value.ownBlock,Option.some.injEq]at D;exact .inl (by omega)
 ·have O:E.size=cap:=by simpa using L
  by_cases x:n+s.size≤cap
  ·have:=Lib.run_append_room_string (P:=P) w t u ty e i I hu hi c g n cap E Y s x (by omega);rw[this]at q;cases q;exact .inr D
  ·have z:∀j u,A[j]? = some u→w.cell? ((⟨g,0,none⟩:Addr).add j)=some u:=f.cells (g:=g) rfl;have N:A.length=n:=by simpa using f.1
   have:=Lib.run_append_grow_string (P:=P) w t u ty e i (.int .u8 0) I hu hi hz ⟨g,0,none⟩ n cap A (by rw[c];simpa using N) z s (by omega) (by omega) (by rw[p];exact growslice_fits (by omega) (by omega));rw[this]at q;cases q;simp only[Value.ownBlock,Option.some.injEq]at D;exact .inl (by omega)
theorem oE(m:Mem Bw w0 ρ φ h w)(hn:ρ new=none){o:Oper}{a:Act}{t u e:TypeId}{ti tu te:TI}(ht:aQ P t ti)(hk:ti.k = .sl e)(a1:aQ P u tu)(a2:tu.k = .str)(D:aQ P e te)(hT:te.T=some (.int .u8))(a3:te.bytes=1)
  {xo yo:Operand} {x:ag} (M:V (Fr (own φ h) Bw w) ρ x (a.eval xo)) {β:Bool} {s:List UInt8} (hy:V (Fr (own φ h) Bw w) ρ (.p β .str s) (a.eval yo)) (ho:o.op = .call { callee:= .builtin .append,args:= #[xo,yo],argTypes:= #[t,u] })
  {c:List Int} {N:Option Nat} {uu:hZ}
  (O:(x = .nils∧c=[]∧N=none∧uu=[(new,some (.arr e (.int .u8) (cb s)))])∨(∃id,x = .sl id∧h id=some (.arr e (.int .u8) c)∧N=some id∧uu=[(id,none),(new,some (.arr e (.int .u8) (c++cb s)))]))
  (hb:c.length+s.length≤140737488355328):Good P o a w (aE Bw w0 ρ φ h w new (.sl new) uu):=by
 obtain⟨i,z,hi,hz,E,j,a4,a5,a6⟩:=D.hi;obtain⟨a7,bi,bs⟩:=D.hT _ hT;have hu:=bd ht hk;have a8:te.size=1:=a7.symm;obtain⟨d,a9,I⟩:=a1.hu;rw[a2]at I;simp only[UK]at I;subst I;have ac:z = .int .u8 0:=by
  have ad:(zeroValue e).run P w = .ok z w:=by simp[zeroValue,typeInfo,hi,hz]
  have ax:MV (Fr (own φ h) Bw w false) (.int .u8) (Ty.zero (.int .u8)) z:=vD D hT ad a4 a5 a6;have:=FW (ρ:=ρ) ax;simp only[enc,Ty.scalar,if_true,V,ai]at this;exact this.2.symm
 subst ac;have b1:a.eval yo = .string ⟨s.toArray⟩:=pG hy;have f:(⟨s.toArray⟩:ByteArray).size=s.length:=rfl;have A:Lib.strCells ⟨s.toArray⟩=(cb s).map (Value.int .u8):=by simp[Lib.strCells,cb]
 obtain⟨cells,v,hv,B,J,b2⟩:∃cells v,a.eval xo=v∧w.ownsRow 0 e 1 v c.length cells ∧
   (∀i (h':i<c.length),cells[i]? = some (.int .u8 c[i])) ∧
   ∀k,v.ownBlock=some k→∃i o,N=some i∧h i=some o∧o.live=true∧φ i k:=by
  rcases O with⟨rfl,rfl,rfl,_⟩ | ⟨id,rfl,R,rfl,_⟩
  ·simp only[V]at M;exact⟨[],_,M,World.ownsRow_nil w 0 e _,fun i hi=>absurd hi (by simp),fun k hk=>by cases hk⟩
  ·simp only[V]at M;obtain⟨u,q1,b3,_,cells,r1,r2⟩:=m.ob id _ R;rw[M.1]at q1;cases q1;obtain⟨_,aa,nn,cc,he⟩:=M;refine⟨cells,_,rfl,r1,fun i hi=> ?_,fun k L=>⟨id,_,rfl,R,rfl,b3 _ (by rw[gF he];exact L)⟩⟩;have:=r2 i hi;simpa [ai,Ty.size]using this
 have X:apply uu h=bH (fun i=>if N=some i then none else h i) new (some (.arr e (.int .u8) (c++cb s))):=by
  rcases O with⟨_,rfl,rfl,rfl⟩ | ⟨id,_,_,rfl,rfl⟩
  ·rw[bn];rfl
  ·rw[vz];rfl
 obtain⟨v',w',hr,h2,h3,h4⟩:=sZ (P:=P) (ty:=o.type) hu a9 hi hz (by rw[E,a8]) (by rw[j,a3]) B ⟨s.toArray⟩ (by rw[f];unfold maxLen;omega) (by rw[f];exact hb);have b4:∃aa nn cc,v' = .slice aa nn cc:=by rcases h2.2 with⟨e,_⟩ | ⟨g,cap,bt,e,_⟩ <;> exact⟨_,_,_,e⟩
 refine Good.aH (v:=v') (w':=w') ?_ ?_
 ·simp only[execOp,ho,resolve,invoke,builtin,Sem.run_bind,Sem.run_pure,Result.andThen_ok,List.map_toArray,List.map_cons,List.map_nil,hv,b1,hr]
 ·obtain⟨aa,nn,cc,C⟩:=b4;rw[f,A]at h2;have Y:(c++cb s).length=c.length+s.length:=by simp[cb]
  have b5:cells.length=c.length:=by simpa using B.1
  refine cQ m N new (.arr e (.int .u8) (c++cb s)) v' v.ownBlock h3 b2 (.inl hn) (fun _ k L=>h4 k (by rw[←gF C];exact L)) (fun F' b6 hF be=> ?_) X (fun _=>rfl) (fun F' b6 hF be Z=> ?_)
  ·refine⟨fun _ h=>h,by decide,cells++(cb s).map (Value.int .u8),by rw[←Y]at h2;exact h2,fun i hi=> ?_⟩;simp only[ai,Ty.size,Nat.mul_one,Nat.add_zero];rcases Nat.lt_or_ge i c.length with q | q
   ·rw[List.getElem_append_left q,List.getElem?_append_left (by omega)];exact J i q
   ·rw[List.getElem_append_right q,List.getElem?_append_right (by omega),b5];have:i - c.length<(cb s).length:=by simp only[List.length_append]at hi;omega
    simp[this]
  ·simp only[V];exact⟨Z,_,_,_,C⟩
end
end Go.Tv
