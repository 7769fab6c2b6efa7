import Derived.Test.YtobbjfkfmdiklaaGreatDoorTvR
namespace Go.Tv
open Go Go.RowKit
def BE(h:Nat→Qz):List ag→List (Option Ty)→Option (List ag×gX)
 | [],[]=>some ([],[])
 | x::j,some T::Ts=>if(cellsOf x).all ag.cell && kL T x then match Gm T h x with
  | some (y,u)=>match BE (apply u h) j Ts with
   | some (p,q)=>some (enc false T y::p,u++q)
   | none=>none
  | none=>none
  else none
 | x::j,none::Ts=>match BE h j Ts with
  | some (p,q)=>some (x::p,q)
  | none=>none
 | _,_=>none
def IU(tb:bT)(j:List ResultVar)(Ts:List (Option Ty))(hout:Qw)(σ:St):Option (ag×List Qz) :=
 match sM tb σ.s σ.h j with
 | some q=>match BE σ.h q Ts with
  | some (v,u)=>some (aK v,hout.map (fun p=>apply u σ.h p.1))
  | none=>none
 | none=>none
def yh(tb:bT)(n:NS)(j:List ResultVar)(r:ag)(hout:Qw)(e:Exit)(σ:St):Prop :=
 (e = .ret∨e = .normal)∧∃Ts σ1,Le n σ σ1∧IU tb j Ts hout σ1=some (r,hout.map (fun p=>some p.2))
def Ms(tb:bT)(n:NS)(j:List ResultVar):(ag×Qw)⊕Value→Exit→St→Prop
 | .inl p=>yh tb n j p.1 p.2
 | .inr x=>fun e _=>e = .panic [{ v:=x,recovered:=false }]
def kd{A E:Type}(g:A→ag×Qw)(f:E→Value):A⊕E→(ag×Qw)⊕Value
 | .inl x=> .inl (g x)
 | .inr e=> .inr (f e)
def aW(t:TypeId)(j p:IntKind)(e:Int×Int):Value:= .iface t (.agg #[.int j e.1,.int p e.2])
abbrev yB(f:FuncId):Value:= .func (.func f) #[] #[]
/-! p q,for v j u. -/
abbrev ag.i64(x:Int):ag:= .p false (.int .i64) x
abbrev ag.i32(x:Int):ag:= .p false (.int .i32) x
abbrev ag.u32(x:Int):ag:= .p false (.int .u32) x
abbrev ag.u64(x:Int):ag:= .p false (.int .u64) x
abbrev ag.u8(x:Int):ag:= .p false (.int .u8) x
abbrev ag.st(x:QX):ag:= .p false .str x
abbrev ag.bo(x:Bool):ag:= .p false .bool x
def sB(args:List ag)(hin:Qw):St:=⟨fun t=>(args[t]?).getD .unk,fun i=>look hin i,hin.length,hin.length⟩
section
variable{P:Program}{tb:bT}{n:NS}{Bw:Nat→Prop}{w0:cC P}{w:World}{σ:St}{ρ:Nat→QW}{φ:Nat→Nat→Prop}{h:Nat→Qz}
theorem yh.normal{p:List ResultVar}{r:ag}{hout:Qw}(h:yh tb n p r hout .ret σ):∀σ',Le n σ' σ→yh tb n p r hout .normal σ':=fun _ j =>
 ⟨.inr rfl,h.2.elim fun Ts q=>q.elim fun σ1 q=>⟨Ts,σ1,j.trans q.1,q.2⟩⟩
theorem D9{q:List ResultVar}{r:ag}{hout:Qw}(Ts:List (Option Ty))(u:List G)(f:QV)(l:List (Nat×ag))(m:Qw)(nx pn:Nat)
  (h1:goal u f l m σ=some (want f l m)) (j:(σ.pn == pn && jg (Fy f) l m nx pn)=true) (h2:IU tb q Ts hout (aA l m nx pn)=some (r,hout.map (fun p=>some p.2))):yh tb n q r hout .ret σ :=
 ⟨.inl rfl,Ts,_,qN h1 j,h2⟩
theorem Mj{F:Bool→Addr→Value→Prop}{T:Ty}{y:T.den}{x:ag}{v:Value}(hc:(cellsOf x).all ag.cell=true)(A:kL T x=true)(E:V F ρ x v){F':Bool→Addr→Value→Prop}{B:Nat→QW}
  (C:ai (F' false) T y (fun k u=>v.cells.toList[k]? = some u)) (hl:T.size=(cellsOf x).length):V F' B (enc false T y) v:=by
 by_cases j:∃I,x = .agg I
 ·obtain⟨I,rfl⟩:=j;have z:=E;simp only[V]at z;obtain⟨J,rfl,L,M⟩:=z;have p:T.scalar=false:=by simpa [kL]using A
  simp only[enc,p];simp only[Bool.false_eq_true,if_false,V];refine⟨J,rfl,?_,jL false T y _ (ai.mono (fun _ _ h=>h) (fun k u hk=>by simpa [Value.cells]using hk) C)⟩;rw[eP,hl,L];rfl
 ·have q:cellsOf x=[x]:=by cases x <;> first | rfl | exact(j ⟨_,rfl⟩).elim | cases A
  have p:T.scalar=true:=by cases x <;> first | exact A | exact(j ⟨_,rfl⟩).elim | cases A
  rw[q]at hc;simp only[List.all_cons,List.all_nil,Bool.and_true]at hc;have D:=fO (ra hc E);simp only[enc,p,if_true,V];refine⟨trivial,?_⟩;rw[D]at C;refine ai.gA (fun k u hk hu=>?_) C;rw[Ty.fG p]at hk;obtain rfl:k=0:=by omega
  simp at hu;exact hu.symm
theorem qk:∀ {B:List ag} {Ts:List (Option Ty)} {h:Nat→Qz} {z:List ag} {q:gX},Mem Bw w0 ρ φ h w→BE h B Ts=some (z,q) →
  Mem Bw w0 ρ φ (apply q h) w∧(∀β a v,Fr (own φ h) Bw w β a v→Fr (own φ (apply q h)) Bw w β a v)∧∀j,iS (Fr (own φ h) Bw w) ρ B j→iS (Fr (own φ (apply q h)) Bw w) ρ z j
 | [],[],h,z,q,m,hd=>by
  cases hd;exact⟨m,fun _ _ _ h=>h,fun _ h=>h⟩
 | x::B,some T::Ts,h,z,q,m,hd=>by
  simp only[BE]at hd;split at hd
  ·rename_i hc;split at hd
   ·rename_i y u h1;split at hd
    ·rename_i C D h2;cases hd;obtain⟨J,I,L⟩:=m5 m h1;obtain⟨E,A,g2⟩:=qk J h2;simp only[Bool.and_eq_true]at hc;rw[eV];refine⟨E,fun β a v M=>A _ _ _ (I _ _ _ M),fun j p=>?_⟩;cases j with
     | nil=>exact p.elim
     | cons v j =>
      obtain⟨N,Y,Z⟩:=fV hc.1 p.1;obtain⟨O,X⟩:=L _ N;exact⟨Mj hc.1 hc.2 p.1 (ai.mono (A false) (fun _ _ h=>h) O) X,g2 j (iS.mono I (fun _ _ h=>h) p.2)⟩
    ·cases hd
   ·cases hd
  ·cases hd
 | x::B,none::Ts,h,z,q,m,hd=>by
  simp only[BE]at hd;split at hd
  ·rename_i C D h2;cases hd;obtain⟨E,A,g2⟩:=qk m h2;refine⟨E,A,fun j p=>?_⟩;cases j with
   | nil=>exact p.elim
   | cons v j=>exact⟨V.mono A (fun _ _ h=>h) p.1,g2 j p.2⟩
  ·cases hd
 | [],_::_,_,_,_,_,hd=>by simp[BE]at hd
 | _::_,[],_,_,_,_,hd=>by simp[BE]at hd
theorem ET{α:Type}{f:Nat→α}{g:Obj→α}:∀ {l:Qw},l.map (fun p=>f p.1)=l.map (fun p=>g p.2)→∀p∈l,f p.1=g p.2
 | [],_,p,hp=>by cases hp
 | q::l,h,p,hp=>by
  simp only[List.map_cons,List.cons.injEq]at h;rcases List.mem_cons.1 hp with rfl | hp
  ·exact h.1
  ·exact ET h.2 p hp
theorem Jf{F:Bool→Addr→Value→Prop}{u:List ag}{j:QY}(h:iS F ρ u j):V F ρ (aK u) (if h:j.toArray.size=1 then j.toArray[0]else .tuple j.toArray):=by
 have p:=(jd h).1;match u,j,h with
 | [],[],_=>simp only[aK,V];exact⟨#[],rfl,rfl,by simp only[VL]⟩
 | [y],[v],z=>exact z.1
 | y::B::u,v::A::j,z =>
  have:¬((v::A::j).toArray.size=1):=by simp
  rw[dif_neg this];simp only[aK,V];refine⟨_,rfl,by simpa using p.symm,VL.mk fun k x hk=>?_⟩;have:=(jd z).2 k;rw[hk]at this;have q:k<(v::A::j).length:=by rw[←p];exact(List.getElem?_eq_some_iff.1 hk).1
  rw[List.getElem?_eq_getElem q]at this;exact⟨_,by simp[q],this⟩
theorem jD.jK{f:FuncId}{fn:Func}{c:Code}(L:bX P tb)(hf:P.funcs[f]? = some fn)(hname:(fn.name == "runtime.NumGoroutine")=false)(hb:fn.body=some c){args:List ag}(Y:args.length≤fn.ntmps)
  {hin hout:Qw} {r:ag} (h:∀Bw w0,W P fn.ntmps Bw w0 c (sB args hin) (yh tb fn.ntmps fn.results.toList r hout)):jD P f args hin r hout:=by
 refine⟨⟨fn,hf,hname,by rw[hb];rfl⟩,fun Bw b φ B m C z=>calls_of_wp hf hb ?_⟩;obtain⟨hl,hg⟩:=jd C;have hR:R fn.ntmps Bw b (sB args hin) { tmps:=B++Array.replicate (fn.ntmps - B.size) undef,defers:=[] } b.w:=by
  refine⟨⟨b.pc,φ,m,⟨?_,rfl,fun t=>?_⟩,fun id u hu=>z id u hu⟩,fun i u h=>z i u h⟩
  ·have:B.size=args.length:=by rw[hl,Array.length_toList]
   simp only[Array.size_append,Array.size_replicate];omega
  ·have hv:=hg t;simp only[sB];rcases Nat.lt_or_ge t B.size with q | q
   ·have e:(B++Array.replicate (fn.ntmps - B.size) undef).getD t undef=(B.toList[t]?).getD undef:=by simp[Array.getD_eq_getD_getElem?,Array.getElem?_append,q]
    rw[e];exact hv
   ·have:args[t]? = none:=List.getElem?_eq_none (by rw[hl,Array.length_toList];exact q);rw[this];simp only[Option.getD_none,V]
 refine wp_mono (h Bw b _ _ hR) fun e M w' ⟨σ',N,he,Ts,σ1,O,j⟩=>?_
 have key:M.defers=[]∧∃v,(results fn M.tmps).run P w' = .ok v w' ∧
   ∃Z D p,Ending.returned v = .returned Z∧Mem Bw b D p (fun i=>look hout i) w'∧V (Fr (own p (fun i=>look hout i)) Bw w') D r Z:=by
  obtain⟨ρ,p,q1,q2,_⟩:=(O _ Bw b M w' N).ex;unfold IU at j;split at j
  ·rename_i xs X;split at j
   ·rename_i ys u E;simp only[Option.some.injEq,Prod.mk.injEq]at j;obtain⟨rfl,j⟩:=j;obtain⟨J,r1,r2⟩:=jb (P:=P) L q1 q2 X;obtain⟨m1,f1,g1⟩:=qk q1 E;have I:∀i o,look hout i=some o→apply u σ1.h i=some o:=fun i o e=>ET (f:=fun i=>apply u σ1.h i) (g:=fun o=>some o) j _ (nc e)
    obtain⟨m2,f2⟩:=m1.less I;have r4:=lP (P:=P) _ fn.results w' r1;refine⟨q2.df,(if h:J.toArray.size=1 then J.toArray[0]else .tuple J.toArray),?_,_,ρ,p,rfl,m2,?_⟩
    ·unfold results;rw[Sem.run_bind];exact(congrArg (fun r=>Result.andThen r (fun a w'=>Sem.run P (pure (if h:a.size=1 then a[0]else Value.tuple a)) w')) r4).trans rfl
    ·exact Jf (iS.mono f2 (fun _ _ h=>h) (g1 J r2))
   ·cases j
  ·cases j
 rcases he with rfl | rfl
 ·exact key
 ·exact key
theorem jV.jK{f:FuncId}{fn:Func}{c:Code}(hf:P.funcs[f]? = some fn)(hname:(fn.name == "runtime.NumGoroutine")=false)(hb:fn.body=some c){args:List ag}(C:args.length≤fn.ntmps)
  {hin:Qw} {x:Value} (h:∀Bw w0,W P fn.ntmps Bw w0 c (sB args hin) (fun e _=>e = .panic [{ v:=x,recovered:=false }])):jV P f args hin x:=by
 refine⟨⟨fn,hf,hname,by rw[hb];rfl⟩,fun Bw b φ p m z j=>calls_of_wp hf hb ?_⟩;obtain⟨hl,D⟩:=jd z;have E:R fn.ntmps Bw b (sB args hin) { tmps:=p++Array.replicate (fn.ntmps - p.size) undef,defers:=[] } b.w:=by
  refine⟨⟨b.pc,φ,m,⟨?_,rfl,fun t=>?_⟩,fun id u hu=>j id u hu⟩,fun i u h=>j i u h⟩
  ·have:p.size=args.length:=by rw[hl,Array.length_toList]
   simp only[Array.size_append,Array.size_replicate];omega
  ·have I:=D t;simp only[sB];rcases Nat.lt_or_ge t p.size with q | q
   ·have e:(p++Array.replicate (fn.ntmps - p.size) undef).getD t undef=(p.toList[t]?).getD undef:=by simp[Array.getD_eq_getD_getElem?,Array.getElem?_append,q]
    rw[e];exact I
   ·have:args[t]? = none:=List.getElem?_eq_none (by rw[hl,Array.length_toList];exact q);rw[this];simp only[Option.getD_none,V]
 refine wp_mono (h Bw b _ _ E) fun e N w' ⟨σ',A,J⟩=>?_
 subst J;obtain⟨ρ,B,L,M,_⟩:=A.ex;exact⟨M.df,ρ,B,rfl,(L.less (fun i o e=>(by cases e))).1⟩
theorem jV.BR{f:FuncId}{fn:Func}(hf:P.funcs[f]? = some fn)(hname:(fn.name == "runtime.NumGoroutine")=false)(hb:fn.body.isNone=false){E:ag}{q u:Bool}{z A:IntKind}{e a:Int}{hin:Qw}{x:Value}
  (h:∀v w,Calls P f #[v,.int z e,.int A a] w fun r w'=>r = .panicked [{ v:=x,recovered:=false }]∧w'=w):jV P f [E,.p q (.int z) e,.p u (.int A) a] hin x:=by
 refine⟨⟨fn,hf,hname,hb⟩,fun Bw b φ C m j D=>?_⟩;match B:C.toList,j with
 | [v0,v1,L],j =>
  have I:=bQ j.2.1;have J:=bQ j.2.2.1;subst I J;have:C = #[v0,.int z e,.int A a]:=Array.ext' B;subst this;exact(h v0 b.w).mono fun r w' ⟨h1,h2⟩=>⟨b.pc,φ,h1,by subst h2;exact(m.less (fun i o e=>(by cases e))).1⟩
theorem iV.jK{f:FuncId}{fn:Func}{c:Code}(u:bX P tb)(hf:P.funcs[f]? = some fn)(hname:(fn.name == "runtime.NumGoroutine")=false)(hb:fn.body=some c){args:List ag}(j:args.length≤fn.ntmps)
  {hin:Qw} {q:(ag×Qw)⊕Value} (h:∀Bw w0,W P fn.ntmps Bw w0 c (sB args hin) (Ms tb fn.ntmps fn.results.toList q)):iV P f args hin q:=by
 cases q with
 | inl p=>exact jD.jK u hf hname hb j h
 | inr x=>exact jV.jK hf hname hb j h
def CS{T:Type}(tb:bT)(n:NS)(j:List ResultVar)(g:T→ag×Qw)(v:T)(e:Exit)(σ:St):Prop:=e = .ret∧yh tb n j (g v).1 (g v).2 .ret σ
theorem yJ{T:Type}{j:List ResultVar}{g:T→ag×Qw}{v:T}(h:yh tb n j (g v).1 (g v).2 .ret σ):CS tb n j g v .ret σ:=⟨rfl,h⟩
end
section
variable{P:Program}{tb:bT}{an:An}{n:NS}{base:Nat}{ops:Array Oper}{Bw:Nat→Prop}{w0:cC P}{F W:Nat→QV}
theorem CY{s j:Nat→ag}{h h':Nat→Qz}{i:Nat}{o:Oper}(p:∀t∈o.looksAt ops,s t=j t)(q:∀i∈j5 h o.op (fy s o.op),h i=h' i):
  Bn P tb an n base ops i o s h=Bn P tb an n base ops i o j h':=by
 unfold Bn;rw[yz (vv p) q];split
 ·split
  ·rfl
  ·rename_i g u;rw[p9 p u]
 ·rfl
structure JX(P:Program)(tb:bT)(an:An)(n:NS)(base:Nat)(ops:Array Oper)(F:Nat→QV)(QP:Value→Prop)(i:Nat)(s:Nat→ag)(h:Nat→Qz):Prop where
 ex:∃o u y c,ops[i]? = some o∧Bn P tb an n base ops i o s h=some (u,y,c)∧c∧(∀j∈j5 h o.op (fy s o.op),j∈F i)∧QP y
def It(P:Program)(tb:bT)(an:An)(n:NS)(base:Nat)(ops:Array Oper)(F W:Nat→QV)(Q:(Nat→ag)→(Nat→Qz)→Prop)(p:Value→Prop):Nat→Array Bool→(Nat→ag)→(Nat→Qz)→Prop
 | 0,listed,s,h=>Region.ready .any ops listed=[]∧Q s h
 | j+1,listed,s,h=>(Region.ready .any ops listed=[]→Q s h) ∧
  ∀i∈Region.ready .any ops listed,(∃q h',oN P tb an n base ops F W i s h q h'∧It P tb an n base ops F W Q p j (listed.setIfInBounds i true) q h')∨JX P tb an n base ops F p i s h
theorem FL{J:Value→Prop}{i j:Nat}{C q:Oper}(hi:ops[i]? = some C)(L:ops[j]? = some q)(D:C.apart ops q=true)(h1:zl (W i) (F j)=true)
  {s M:Nat→ag} {h z:Nat→Qz} (X:oN P tb an n base ops F W i s h M z) (Y:JX P tb an n base ops F J j M z):JX P tb an n base ops F J j s h:=by
 obtain⟨o,x,u,c,N,e2,e3,e4,Z,rfl,rfl⟩:=X.ex;obtain⟨o',v,y,c',O,f2,f3,V,f5⟩:=Y.ex;rw[hi]at N;cases N;rw[L]at O;cases O;obtain⟨p1,p2,p3⟩:=Oper.apart_spec D;have A:∀t∈q.looksAt ops,kh s C.dst x t=s t:=fun t ht=>u7 fun k hk e=>by subst e;exact p1 k hk ht
 have B:∀k∈j5 (apply u h) q.op (fy (kh s C.dst x) q.op),apply u h k=h k:=fun k hk=>gO fun p hp e=>pK h1 (Z p hp) (by rw[e];exact V k hk)
 have g2:=CY (P:=P) (tb:=tb) (an:=an) (n:=n) (base:=base) (i:=j) A B;rw[f2]at g2;have E:=nS A;have I:=pk B;exact⟨q,v,y,c',L,g2.symm,f3,fun k hk=>V k (by rw[I,E];exact hk),f5⟩
theorem vP{Q:(Nat→ag)→(Nat→Qz)→Prop}{Z:Value→Prop}{i:Nat}{oi:Oper}(hi:ops[i]? = some oi):∀(u:Nat) (listed:Array Bool) {s D:Nat→ag} {h v:Nat→Qz},
  oX ops listed→(∀j E,ops[j]? = some E→j≠i→listed.getD j true=false→((pP ops).getD j 0).testBit i=false→td ops F W i j oi E=true) →
  i∈Region.ready .any ops listed→oN P tb an n base ops F W i s h D v→It P tb an n base ops F W Q Z u (listed.setIfInBounds i true) D v→It P tb an n base ops F W Q Z (u+1) listed s h
 | 0,listed,s,D,h,v,_,_,C,x,H=>by
  refine⟨fun e=>(by rw[e]at C;cases C),fun j I=>?_⟩;by_cases p:j=i
  ·subst p;exact .inl ⟨D,v,x,H⟩
  ·have:=ready_mono I p;rw[H.1]at this;cases this
 | u+1,listed,s,D,h,v,hcl,z,C,x,H=>by
  refine⟨fun e=>(by rw[e]at C;cases C),fun j I=>?_⟩;by_cases p:j=i
  ·subst p;exact .inl ⟨D,v,x,H⟩
  ·obtain⟨B,E,A,J⟩:=mem_ready.1 I;have L:((pP ops).getD j 0).testBit i=false:=by
    cases hb:((pP ops).getD j 0).testBit i with
    | false=>rfl
    | true =>
     have h1:=qm hcl (j+1) j E (by omega) A J hb;have h0:=(mem_ready.1 C).1;rcases Nat.lt_or_ge i listed.size with h' | h'
     ·simp[h']at h0 h1;rw[h0]at h1;cases h1
     ·simp[Array.getElem?_eq_none h']at h1
   have q:=z j E A p B L;simp only[td,Bool.and_eq_true]at q;rcases H.2 j (ready_mono I p)with⟨a1,a3,a2,H2⟩ | M
   ·obtain⟨sj,V,b1,b2⟩:=wF hi A q.1.1.1 q.1.1.2 q.1.2 q.2 x a2;refine .inl ⟨sj,V,b1,vP hi u (listed.setIfInBounds j true) (hcl.add I) (fun k ok hk X N Y=>?_) (ready_mono C (Ne.symm p)) b2 ?_⟩
    ·refine z k ok hk X ?_ Y;by_cases O:j=k
     ·subst O;exact B
     ·rw[getD_set_ne true O]at N;exact N
    ·rw[Array.setIfInBounds_comm _ _ p];exact H2
   ·exact .inr (FL hi A q.1.1.1 q.1.1.2 x M)
theorem p7(D:bX P tb){QA:(Nat→ag)→(Nat→Qz)→Prop}{QP:Value→Prop}{Q:Exit→Act→World→Prop}
  (M:∀s h a w,QA s h→Fe n base Bw w0 (fun i=>i<ops.size) s h a w→Q .normal a w) (hP:∀y s h a w,QP y→Fe n base Bw w0 (fun i=>i<ops.size) s h a w→Q (.panic [{ v:=y,recovered:=false }]) a w):∀(p:Nat) (listed:Array Bool) {s:Nat→ag} {h:Nat→Qz} {a:Act} {w:World},listed.size=ops.size →
  Fe n base Bw w0 (fun i=>listed.getD i false=true) s h a w→It P tb an n base ops F W QA QP p listed s h→wpAny P .any ops Q p listed a w
 | 0,listed,s,h,a,w,q,hm,H=>by
  refine⟨H.1,M s h a w H.2 ?_⟩;obtain⟨ρ,φ,z,A,B⟩:=hm.ex;refine⟨ρ,φ,z,A,fun id u hu=>(B id u hu).imp (fun h=>h) fun⟨i,j,h1,h2⟩=>⟨i,j,?_,h2⟩⟩;rcases Nat.lt_or_ge i listed.size with h' | h'
  ·omega
  ·simp[Array.getElem?_eq_none h']at h1
 | p+1,listed,s,h,a,w,q,hm,H=>by
  refine⟨fun e=>M s h a w (H.1 e) ?_,fun i hi=>?_⟩
  ·obtain⟨ρ,φ,z,A,B⟩:=hm.ex;refine⟨ρ,φ,z,A,fun id u hu=>(B id u hu).imp (fun h=>h) fun⟨i,j,h1,h2⟩=>⟨i,j,?_,h2⟩⟩;rcases Nat.lt_or_ge i listed.size with h' | h'
   ·omega
   ·simp[Array.getElem?_eq_none h']at h1
  ·obtain⟨E,oi,N,_⟩:=mem_ready.1 hi;have I:i<listed.size:=by rw[q];exact(Array.getElem?_eq_some_iff.1 N).1
   have J:¬(listed.getD i false=true):=fun e=>by simp[I]at E e;rw[E]at e;cases e
   rcases H.2 i hi with⟨s',h',O,H'⟩ | L
   ·obtain⟨o,x,u,c,V,X,Y,e4,e5,rfl,rfl⟩:=O.ex;refine j3 D hm V J X Y fun a' w' C=>p7 D M hP p _ (by simpa using q) ?_ H'
    obtain⟨ρ,φ,z,A,B⟩:=C.ex;refine⟨ρ,φ,z,A,fun id v Z=>(B id v Z).imp (fun h=>h) fun⟨j,j',h1,h2⟩=>⟨j,j',?_,h2⟩⟩;rcases h1 with h1 | rfl
    ·exact getD_set_true h1
    ·simp[I]
   ·obtain⟨o,u,y,c,V,X,Y,e4,e5⟩:=L.ex;refine vO hm V J X Y fun w' C=>hP y s (apply u h) a w' e5 ?_
    obtain⟨ρ,φ,z,A,B⟩:=C.ex;refine⟨ρ,φ,z,A,fun id v Z=>(B id v Z).imp (fun h=>h) fun⟨j,j',h1,h2⟩=>⟨j,j',?_,h2⟩⟩;rcases h1 with h1 | rfl
    ·rcases Nat.lt_or_ge j listed.size with h' | h'
     ·omega
     ·simp[Array.getElem?_eq_none h']at h1
    ·omega
inductive DT where
 | leaf
 | one (i:Nat) (t:DT)
 | two (i:Nat) (t:DT) (j:Nat) (u:DT)
 | dead (i:Nat)
 | twoD (i:Nat) (t:DT) (j:Nat)
def DT.depth:DT→Nat
 | .leaf=>0
 | .one _ t=>t.depth+1
 | .two _ t _ u=>max t.depth u.depth+1
 | .dead _=>1
 | .twoD _ t _=>t.depth+1
abbrev Mc:=List ((Nat→ag)×(Nat→Qz))×List Prop×QY
def stepT(P:Program)(tb:bT)(an:An)(n:NS)(base:Nat)(ops:Array Oper)(F W:Nat→QV)(i:Nat)(s:Nat→ag)(h:Nat→Qz):Option ((Nat→ag)×(Nat→Qz)×Prop) :=
 match ops[i]? with
 | some o=>match oS P tb an n base ops i o s h with
  | some (x,u,c)=>if(j5 h o.op (fy s o.op)).all (fun j=>(F i).contains j) && u.all (fun p=>(W i).contains p.1)then some (kh s o.dst x,apply u h,c)else none
  | none=>none
 | none=>none
def Jj(P:Program)(tb:bT)(an:An)(n:NS)(base:Nat)(ops:Array Oper)(F:Nat→QV)(i:Nat)(s:Nat→ag)(h:Nat→Qz):Option (Value×Prop) :=
 match ops[i]? with
 | some o=>match Bn P tb an n base ops i o s h with
  | some (_,y,c)=>if(j5 h o.op (fy s o.op)).all (fun j=>(F i).contains j)then some (y,c)else none
  | none=>none
 | none=>none
def runT(P:Program)(tb:bT)(an:An)(n:NS)(base:Nat)(ops:Array Oper)(F W:Nat→QV)(A:QV):DT→Array Bool→(Nat→ag)→(Nat→Qz)→Option Mc
 | .leaf,listed,s,h=>if(Region.ready .any ops listed).isEmpty then some ([(s,h)],[],[])else none
 | .one i t,listed,s,h=>if(Region.ready .any ops listed).contains i && EM ops F W A listed i then match stepT P tb an n base ops F W i s h with
   | some (I,h',c)=>match runT P tb an n base ops F W A t (listed.setIfInBounds i true) I h' with
    | some (l,p,q)=>some (l,c::p,q)
    | none=>none
   | none=>none
  else none
 | .two i t j u,listed,s,h=>if Region.ready .any ops listed == [i,j]then match stepT P tb an n base ops F W i s h,stepT P tb an n base ops F W j s h with
   | some (v,h1,x),some (J,h2,z)=>match runT P tb an n base ops F W A t (listed.setIfInBounds i true) v h1,runT P tb an n base ops F W A u (listed.setIfInBounds j true) J h2 with
    | some (L,B,C),some (M,D,E)=>some (L++M,x::z::(B++D),C++E)
    | _,_=>none
   | _,_=>none
  else none
 | .dead i,listed,s,h=>if Region.ready .any ops listed == [i]then match Jj P tb an n base ops F i s h with
   | some (y,c)=>some ([],[c],[y])
   | none=>none
  else none
 | .twoD i t j,listed,s,h=>if Region.ready .any ops listed == [i,j]then match stepT P tb an n base ops F W i s h,Jj P tb an n base ops F j s h with
   | some (v,h1,x),some (y,z)=>match runT P tb an n base ops F W A t (listed.setIfInBounds i true) v h1 with
    | some (l,p,q)=>some (l,x::z::p,y::q)
    | none=>none
   | _,_=>none
  else none
theorem mq{i:Nat}{s q:Nat→ag}{h h':Nat→Qz}{c:Prop}(j:stepT P tb an n base ops F W i s h=some (q,h',c))(hc:c):oN P tb an n base ops F W i s h q h':=by
 unfold stepT at j;split at j
 ·rename_i o v;split at j
  ·rename_i x u c' z;split at j
   ·rename_i p;cases j;simp only[Bool.and_eq_true,List.all_eq_true,List.contains_eq_mem,decide_eq_true_eq]at p;exact⟨o,x,u,c,v,z,hc,p.1,p.2,rfl,rfl⟩
   ·cases j
  ·cases j
 ·cases j
theorem vY{p:Value→Prop}{i:Nat}{s:Nat→ag}{h:Nat→Qz}{y:Value}{c:Prop}(j:Jj P tb an n base ops F i s h=some (y,c))(hc:c)(v:p y):JX P tb an n base ops F p i s h:=by
 unfold Jj at j;split at j
 ·rename_i o x;split at j
  ·rename_i u A c' z;split at j
   ·rename_i q;cases j;simp only[List.all_eq_true,List.contains_eq_mem,decide_eq_true_eq]at q;exact⟨o,u,y,c,x,z,hc,q,v⟩
   ·cases j
  ·cases j
 ·cases j
theorem uj:∀ {a b:List Prop},nV (a++b)→nV a∧nV b
 | [],_,h=>⟨trivial,h⟩
 | _::_,_,h=>let ⟨x,y⟩:=uj h.2;⟨⟨h.1,x⟩,y⟩
theorem kZ{QA:(Nat→ag)→(Nat→Qz)→Prop}{QP:Value→Prop}:∀(t:DT) (q:Nat) (listed:Array Bool) {s:Nat→ag} {h:Nat→Qz} {l:List ((Nat→ag)×(Nat→Qz))} {z:List Prop} {A:QY},t.depth≤q→oX ops listed →
  runT P tb an n base ops F W (pP ops) t listed s h=some (l,z,A)→nV z→(∀p∈l,QA p.1 p.2)→(∀y∈A,QP y)→It P tb an n base ops F W QA QP q listed s h
 | .leaf,q,listed,s,h,l,z,A,_,_,v,_,hl,_=>by
  simp only[runT]at v;split at v
  ·rename_i Y;cases v;have I:Region.ready .any ops listed=[]:=by simpa using Y
   have:=hl (s,h) (by simp);cases q with
   | zero=>exact⟨I,this⟩
   | succ q=>exact⟨fun _=>this,fun i hi=>by rw[I]at hi;cases hi⟩
  ·cases v
 | .one i t,0,listed,s,h,l,z,A,hd,_,_,_,_,_=>by simp[DT.depth]at hd
 | .one i t,q+1,listed,s,h,l,z,A,hd,hcl,v,hc,hl,B=>by
  simp only[runT]at v;split at v
  ·rename_i x;simp only[Bool.and_eq_true,List.contains_eq_mem,decide_eq_true_eq]at x;split at v
   ·rename_i s' h' c L;split at v
    ·rename_i l' Z a1 M;cases v;obtain⟨_,oi,J,_⟩:=mem_ready.1 x.1;exact vP J q listed hcl (u6 J x.2) x.1 (mq L hc.1) (kZ t q _ (by simp only[DT.depth]at hd;omega) (hcl.add x.1) M hc.2 hl B)
    ·cases v
   ·cases v
  ·cases v
 | .two i t j u,0,listed,s,h,l,z,A,hd,_,_,_,_,_=>by simp[DT.depth]at hd
 | .two i t j u,q+1,listed,s,h,l,z,A,hd,hcl,v,hc,hl,B=>by
  simp only[runT]at v;split at v
  ·rename_i x;simp only[beq_iff_eq]at x;split at v
   ·rename_i N h1 c1 s2 h2 c2 C D;split at v
    ·rename_i l1 O V l2 a2 a3 E X;cases v;obtain⟨k1,k2⟩:=uj hc.2.2;simp only[DT.depth]at hd;have hi:i∈Region.ready .any ops listed:=by rw[x];simp
     have hj:j∈Region.ready .any ops listed:=by rw[x];simp
     refine⟨fun e=>(by rw[x]at e;cases e),fun k hk=>?_⟩;rw[x]at hk;simp only[List.mem_cons,List.not_mem_nil,or_false]at hk;rcases hk with rfl | rfl
     ·exact .inl ⟨N,h1,mq C hc.1,kZ t q _ (by omega) (hcl.add hi) E k1 (fun p hp=>hl p (List.mem_append_left _ hp)) (fun y h=>B y (List.mem_append_left _ h))⟩
     ·exact .inl ⟨s2,h2,mq D hc.2.1,kZ u q _ (by omega) (hcl.add hj) X k2 (fun p hp=>hl p (List.mem_append_right _ hp)) (fun y h=>B y (List.mem_append_right _ h))⟩
    ·cases v
   ·cases v
  ·cases v
 | .dead i,0,listed,s,h,l,z,A,hd,_,_,_,_,_=>by simp[DT.depth]at hd
 | .dead i,q+1,listed,s,h,l,z,A,hd,hcl,v,hc,hl,B=>by
  simp only[runT]at v;split at v
  ·rename_i x;simp only[beq_iff_eq]at x;split at v
   ·rename_i y c L;cases v;refine⟨fun e=>(by rw[x]at e;cases e),fun k hk=>?_⟩;rw[x]at hk;simp only[List.mem_cons,List.not_mem_nil,or_false]at hk;subst hk;exact .inr (vY L hc.1 (B y (by simp)))
   ·cases v
  ·cases v
 | .twoD i t j,0,listed,s,h,l,z,A,hd,_,_,_,_,_=>by simp[DT.depth]at hd
 | .twoD i t j,q+1,listed,s,h,l,z,A,hd,hcl,v,hc,hl,B=>by
  simp only[runT]at v;split at v
  ·rename_i x;simp only[beq_iff_eq]at x;split at v
   ·rename_i N h1 c1 y c2 C D;split at v
    ·rename_i l1 O V E;cases v;simp only[DT.depth]at hd;have hi:i∈Region.ready .any ops listed:=by rw[x];simp
     refine⟨fun e=>(by rw[x]at e;cases e),fun k hk=>?_⟩;rw[x]at hk;simp only[List.mem_cons,List.not_mem_nil,or_false]at hk;rcases hk with rfl | rfl
     ·exact .inl ⟨N,h1,mq C hc.1,kZ t q _ (by omega) (hcl.add hi) E hc.2.2 hl (fun y h=>B y (List.mem_cons_of_mem _ h))⟩
     ·exact .inr (vY D hc.2.1 (B y (by simp)))
    ·cases v
   ·cases v
  ·cases v
end
section
variable{P:Program}{tb:bT}{n:NS}{Bw:Nat→Prop}{w0:cC P}{σ:St}{Q:Exit→St→Prop}
def Hs(j:List G)(f:QV)(l:List (Nat×ag))(m:Qw)(nx pn:Nat)(r:Option Mc):Option (List (Option (List ag×List Qz))×List Prop×QY) :=
 match r with
 | some (q,u,v)=>some (q.map (fun p=>goal j f l m ⟨p.1,p.2,nx,pn⟩),u,v)
 | none=>none
theorem oU(I:bX P tb)(hm:P.follows .mixedOrders=true)(an:An)(t:DT)(E:List (QV×QV))(k:Nat)(Z:QY){id:Nat}{ops:Array Oper}(gs:List G)(f:QV)(l:List (Nat×ag))(m:Qw)(nx pn:Nat)(cs:List Prop)
  (B:Hs gs f l m (σ.nx+8*ops.size) σ.pn (runT P tb an n σ.nx ops (qu E) (qE E) (pP ops) t (Array.replicate ops.size false) σ.s σ.h)=some (List.replicate k (some (want f l m)),cs,Z)) (x:(σ.pn == pn && jg (Fy f) l m nx pn && decide (t.depth≤ops.size))=true) (hc:nV cs)
  (hq:k≠0→∀σ',Le n σ' (aA l m nx pn)→Q .normal σ') (hp:∀y∈Z,∀σ',Q (.panic [{ v:=y,recovered:=false }]) σ'):W P n Bw w0 (.region id ops true) σ Q:=fun a w J=>by
 rw[Bool.and_eq_true,decide_eq_true_eq]at x;obtain⟨x,C⟩:=x;unfold Hs at B;split at B
 ·rename_i ls a1 L M;simp only[Option.some.injEq,Prod.mk.injEq]at B;obtain⟨e1,rfl,rfl⟩:=B;obtain⟨ρ,φ,q1,q2,q3⟩:=J.ex;obtain⟨N,qF⟩:=q1.drew;refine wp_region_any hm ?_;have hB:=kZ (P:=P) (tb:=tb) (an:=an) (n:=n) (base:=σ.nx) (ops:=ops) (F:=qu E) (W:=qE E) (QA:=fun s h=>Q .normal ⟨s,h,σ.nx+8*ops.size,σ.pn⟩) (QP:=fun y=>y∈L) t ops.size (Array.replicate ops.size false) C (fun k o hk hl=>by simp[Array.getD]at hl) M hc (fun p hp=>by
   have D:goal gs f l m ⟨p.1,p.2,σ.nx+8*ops.size,σ.pn⟩∈List.replicate k (some (want f l m)):=by rw[←e1];exact List.mem_map.2 ⟨p,hp,rfl⟩
   have hk:k≠0:=fun e=>by subst e;simp at D
   exact hq hk _ (qN (List.eq_of_mem_replicate D) x)) (fun y h=>h)
  refine p7 (P:=P) (tb:=tb) (an:=an) (n:=n) (base:=σ.nx) (ops:=ops) (Bw:=Bw) (w0:=w0) I (fun s h a w O q=>?_) (fun y s h a w hy q=>?_) ops.size _ (by simp) ⟨ρ,φ,N,q2.mono qF (fun _ _ h=>h),fun id u hu=> .inl (q3 id u hu)⟩ hB
  ·obtain⟨z,A,V,X,Y⟩:=q.ex;refine⟨⟨s,h,σ.nx+8*ops.size,σ.pn⟩,⟨⟨z,A,V,X,fun id u hu=>?_⟩,J.pn⟩,O⟩;rcases Y id u hu with h1 | ⟨i,j,h1,h2,h3⟩ <;> simp only <;> omega
  ·obtain⟨z,A,V,X,Y⟩:=q.ex;refine⟨⟨s,h,σ.nx+8*ops.size,σ.pn⟩,⟨⟨z,A,V,X,fun id u hu=>?_⟩,J.pn⟩,hp y hy _⟩;rcases Y id u hu with h1 | ⟨i,j,h1,h2,h3⟩ <;> simp only <;> omega
 ·cases B
end
end Go.Tv
