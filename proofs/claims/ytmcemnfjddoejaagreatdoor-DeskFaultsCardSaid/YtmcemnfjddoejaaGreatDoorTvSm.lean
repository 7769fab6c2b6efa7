import Derived.Test.YtmcemnfjddoejaaGreatDoorTvR
namespace Go.Tv
open Go Go.RowKit
def BF(h:Nat→Qz):List ag→List (Option Ty)→Option (List ag×hD)
 | [],[]=>some ([],[])
 | x::c,some T::Ts=>if(cellsOf x).all ag.cell && kP T x then match HA T h x with
  | some (y,u)=>match BF (apply u h) c Ts with
   | some (e,f)=>some (enc false T y::e,u++f)
   | none=>none
  | none=>none
  else none
 | x::c,none::Ts=>match BF h c Ts with
  | some (e,f)=>some (x::e,f)
  | none=>none
 | _,_=>none
def Kx(tb:bP)(c:List ResultVar)(Ts:List (Option Ty))(hout:Qw)(σ:St):Option (ag×List Qz) :=
 match uc tb σ.s σ.h c with
 | some e=>match BF σ.h e Ts with
  | some (j,u)=>some (aJ j,hout.map (fun p=>apply u σ.h p.1))
  | none=>none
 | none=>none
def yX(tb:bP)(n:NS)(c:List ResultVar)(r:ag)(hout:Qw)(e:Exit)(σ:St):Prop :=
 (e = .ret∨e = .normal)∧∃Ts σ1,Le n σ σ1∧Kx tb c Ts hout σ1=some (r,hout.map (fun p=>some p.2))
def Ni(tb:bP)(n:NS)(c:List ResultVar):(ag×Qw)⊕Value→Exit→St→Prop
 | .inl p=>yX tb n c p.1 p.2
 | .inr x=>fun e _=>e = .panic [{ v:=x,recovered:=false }]
def kb{A E:Type}(g:A→ag×Qw)(f:E→Value):A⊕E→(ag×Qw)⊕Value
 | .inl x=> .inl (g x)
 | .inr e=> .inr (f e)
def ba(t:TypeId)(c f:IntKind)(e:Int×Int):Value:= .iface t (.agg #[.int c e.1,.int f e.2])
abbrev il(f:FuncId):Value:= .func (.func f) #[] #[]
/-! e j,for q c p. -/
abbrev ag.i64(x:Int):ag:= .p false (.int .i64) x
abbrev ag.i32(x:Int):ag:= .p false (.int .i32) x
abbrev ag.u32(x:Int):ag:= .p false (.int .u32) x
abbrev ag.u64(x:Int):ag:= .p false (.int .u64) x
abbrev ag.u8(x:Int):ag:= .p false (.int .u8) x
abbrev ag.st(x:QX):ag:= .p false .str x
abbrev ag.bo(x:Bool):ag:= .p false .bool x
def tq(args:List ag)(hin:Qw):St:=⟨fun t=>(args[t]?).getD .unk,fun i=>look hin i,hin.length,hin.length⟩
section
variable{P:Program}{tb:bP}{n:NS}{Bw:Nat→Prop}{w0:cu P}{w:World}{σ:St}{ρ:Nat→QW}{φ:Nat→Nat→Prop}{h:Nat→Qz}
theorem yX.normal{e:List ResultVar}{r:ag}{hout:Qw}(h:yX tb n e r hout .ret σ):∀σ',Le n σ' σ→yX tb n e r hout .normal σ':=fun _ c =>
 ⟨.inr rfl,h.2.elim fun Ts q=>q.elim fun σ1 q=>⟨Ts,σ1,c.trans q.1,q.2⟩⟩
theorem Ff{e:List ResultVar}{r:ag}{hout:Qw}(Ts:List (Option Ty))(j:List G)(f:QV)(l:List (Nat×ag))(m:Qw)(nx pn:Nat)
  (q:goal j f l m σ=some (want f l m)) (c:(σ.pn == pn && kK (HW f) l m nx pn)=true) (u:Kx tb e Ts hout (aA l m nx pn)=some (r,hout.map (fun p=>some p.2))):yX tb n e r hout .ret σ :=
 ⟨.inl rfl,Ts,_,wu q c,u⟩
theorem MM{F:Bool→Addr→Value→Prop}{T:Ty}{y:T.den}{x:ag}{v:Value}(q:(cellsOf x).all ag.cell=true)(p:kP T x=true)(C:V F ρ x v){F':Bool→Addr→Value→Prop}{z:Nat→QW}
  (A:ai (F' false) T y (fun k u=>v.cells.toList[k]? = some u)) (hl:T.size=(cellsOf x).length):V F' z (enc false T y) v:=by
 by_cases c:∃D,x = .agg D
 ·obtain⟨D,rfl⟩:=c;have j:=C;simp only[V]at j;obtain⟨E,rfl,I,J⟩:=j;have e:T.scalar=false:=by simpa [kP]using p
  simp only[enc,e];simp only[Bool.false_eq_true,if_false,V];refine⟨E,rfl,?_,jJ false T y _ (ai.mono (fun _ _ h=>h) (fun k u hk=>by simpa [Value.cells]using hk) A)⟩;rw[eG,hl,I];rfl
 ·have f:cellsOf x=[x]:=by cases x <;> first | rfl | exact(c ⟨_,rfl⟩).elim | cases p
  have e:T.scalar=true:=by cases x <;> first | exact p | exact(c ⟨_,rfl⟩).elim | cases p
  rw[f]at q;simp only[List.all_cons,List.all_nil,Bool.and_true]at q;have B:=fE (tM q C);simp only[enc,e,if_true,V];refine⟨trivial,?_⟩;rw[B]at A;refine ai.gB (fun k u hk hu=>?_) A;rw[Ty.fB e]at hk;obtain rfl:k=0:=by omega
  simp at hu;exact hu.symm
theorem rA:∀ {z:List ag} {Ts:List (Option Ty)} {h:Nat→Qz} {p:List ag} {j:hD},Mem Bw w0 ρ φ h w→BF h z Ts=some (p,j) →
  Mem Bw w0 ρ φ (apply j h) w∧(∀β a v,Fr (own φ h) Bw w β a v→Fr (own φ (apply j h)) Bw w β a v)∧∀c,iP (Fr (own φ h) Bw w) ρ z c→iP (Fr (own φ (apply j h)) Bw w) ρ p c
 | [],[],h,p,j,m,hd=>by
  cases hd;exact⟨m,fun _ _ _ h=>h,fun _ h=>h⟩
 | x::z,some T::Ts,h,p,j,m,hd=>by
  simp only[BF]at hd;split at hd
  ·rename_i A;split at hd
   ·rename_i y u J;split at hd
    ·rename_i B C D;cases hd;obtain⟨L,I,M⟩:=nw m J;obtain⟨E,q,g2⟩:=rA L D;simp only[Bool.and_eq_true]at A;rw[eL];refine⟨E,fun β a v N=>q _ _ _ (I _ _ _ N),fun c e=>?_⟩;cases c with
     | nil=>exact e.elim
     | cons v c =>
      obtain⟨O,Z,r3⟩:=fV A.1 e.1;obtain⟨X,Y⟩:=M _ O;exact⟨MM A.1 A.2 e.1 (ai.mono (q false) (fun _ _ h=>h) X) Y,g2 c (iP.mono I (fun _ _ h=>h) e.2)⟩
    ·cases hd
   ·cases hd
  ·cases hd
 | x::z,none::Ts,h,p,j,m,hd=>by
  simp only[BF]at hd;split at hd
  ·rename_i B C D;cases hd;obtain⟨E,q,g2⟩:=rA m D;refine⟨E,q,fun c e=>?_⟩;cases c with
   | nil=>exact e.elim
   | cons v c=>exact⟨V.mono q (fun _ _ h=>h) e.1,g2 c e.2⟩
  ·cases hd
 | [],_::_,_,_,_,_,hd=>by simp[BF]at hd
 | _::_,[],_,_,_,_,hd=>by simp[BF]at hd
theorem Fw{α:Type}{f:Nat→α}{g:Obj→α}:∀ {l:Qw},l.map (fun p=>f p.1)=l.map (fun p=>g p.2)→∀p∈l,f p.1=g p.2
 | [],_,p,c=>by cases c
 | q::l,h,p,c=>by
  simp only[List.map_cons,List.cons.injEq]at h;rcases List.mem_cons.1 c with rfl | c
  ·exact h.1
  ·exact Fw h.2 p c
theorem KG{F:Bool→Addr→Value→Prop}{p:List ag}{c:QY}(h:iP F ρ p c):V F ρ (aJ p) (if h:c.toArray.size=1 then c.toArray[0]else .tuple c.toArray):=by
 have e:=(ji h).1;match p,c,h with
 | [],[],_=>simp only[aJ,V];exact⟨#[],rfl,rfl,by simp only[VL]⟩
 | [y],[v],q=>exact q.1
 | y::z::p,v::u::c,q =>
  have:¬((v::u::c).toArray.size=1):=by simp
  rw[dif_neg this];simp only[aJ,V];refine⟨_,rfl,by simpa using e.symm,VL.mk fun k x hk=>?_⟩;have:=(ji q).2 k;rw[hk]at this;have j:k<(v::u::c).length:=by rw[←e];exact(List.getElem?_eq_some_iff.1 hk).1
  rw[List.getElem?_eq_getElem j]at this;exact⟨_,by simp[j],this⟩
theorem fP.jH{f:FuncId}{fn:Func}{c:Code}(L:bV P tb)(Y:P.funcs[f]? = some fn)(B:(fn.name == "runtime.NumGoroutine")=false)(hb:fn.body=some c){args:List ag}(Z:args.length≤fn.ntmps)
  {hin hout:Qw} {r:ag} (h:∀Bw w0,W P fn.ntmps Bw w0 c (tq args hin) (yX tb fn.ntmps fn.results.toList r hout)):fP P f args hin r hout:=by
 refine⟨⟨fn,Y,B,by rw[hb];rfl⟩,fun Bw b φ us m C z=>calls_of_wp Y hb ?_⟩;obtain⟨hl,hg⟩:=ji C;have hR:R fn.ntmps Bw b (tq args hin) { tmps:=us++Array.replicate (fn.ntmps - us.size) undef,defers:=[] } b.w:=by
  refine⟨⟨b.pd,φ,m,⟨?_,rfl,fun t=>?_⟩,fun id u hu=>z id u hu⟩,fun i u h=>z i u h⟩
  ·have:us.size=args.length:=by rw[hl,Array.length_toList]
   simp only[Array.size_append,Array.size_replicate];omega
  ·have hv:=hg t;simp only[tq];rcases Nat.lt_or_ge t us.size with q | q
   ·have e:(us++Array.replicate (fn.ntmps - us.size) undef).getD t undef=(us.toList[t]?).getD undef:=by simp[Array.getD_eq_getD_getElem?,Array.getElem?_append,q]
    rw[e];exact hv
   ·have:args[t]? = none:=List.getElem?_eq_none (by rw[hl,Array.length_toList];exact q);rw[this];simp only[Option.getD_none,V]
 refine wp_mono (h Bw b _ _ hR) fun e M w' ⟨σ',N,he,Ts,σ1,O,j⟩=>?_
 have key:M.defers=[]∧∃v,(results fn M.tmps).run P w' = .ok v w' ∧
   ∃v2 D p,Ending.returned v = .returned v2∧Mem Bw b D p (fun i=>look hout i) w'∧V (Fr (own p (fun i=>look hout i)) Bw w') D r v2:=by
  obtain⟨ρ,p,q1,q2,_⟩:=(O _ Bw b M w' N).ex;unfold Kx at j;split at j
  ·rename_i xs X;split at j
   ·rename_i ys u E;simp only[Option.some.injEq,Prod.mk.injEq]at j;obtain⟨rfl,j⟩:=j;obtain⟨J,r1,r2⟩:=iW (P:=P) L q1 q2 X;obtain⟨m1,f1,g1⟩:=rA q1 E;have I:∀i o,look hout i=some o→apply u σ1.h i=some o:=fun i o e=>Fw (f:=fun i=>apply u σ1.h i) (g:=fun o=>some o) j _ (m6 e)
    obtain⟨m2,f2⟩:=m1.less I;have r4:=lC (P:=P) _ fn.results w' r1;refine⟨q2.df,(if h:J.toArray.size=1 then J.toArray[0]else .tuple J.toArray),?_,_,ρ,p,rfl,m2,?_⟩
    ·unfold results;rw[Sem.run_bind];exact(congrArg (fun r=>Result.andThen r (fun a w'=>Sem.run P (pure (if h:a.size=1 then a[0]else Value.tuple a)) w')) r4).trans rfl
    ·exact KG (iP.mono f2 (fun _ _ h=>h) (g1 J r2))
   ·cases j
  ·cases j
 rcases he with rfl | rfl
 ·exact key
 ·exact key
theorem j7.jH{f:FuncId}{fn:Func}{c:Code}(D:P.funcs[f]? = some fn)(p:(fn.name == "runtime.NumGoroutine")=false)(hb:fn.body=some c){args:List ag}(E:args.length≤fn.ntmps)
  {hin:Qw} {x:Value} (h:∀Bw w0,W P fn.ntmps Bw w0 c (tq args hin) (fun e _=>e = .panic [{ v:=x,recovered:=false }])):j7 P f args hin x:=by
 refine⟨⟨fn,D,p,by rw[hb];rfl⟩,fun Bw b φ z m A j=>calls_of_wp D hb ?_⟩;obtain⟨hl,I⟩:=ji A;have J:R fn.ntmps Bw b (tq args hin) { tmps:=z++Array.replicate (fn.ntmps - z.size) undef,defers:=[] } b.w:=by
  refine⟨⟨b.pd,φ,m,⟨?_,rfl,fun t=>?_⟩,fun id u hu=>j id u hu⟩,fun i u h=>j i u h⟩
  ·have:z.size=args.length:=by rw[hl,Array.length_toList]
   simp only[Array.size_append,Array.size_replicate];omega
  ·have L:=I t;simp only[tq];rcases Nat.lt_or_ge t z.size with q | q
   ·have e:(z++Array.replicate (fn.ntmps - z.size) undef).getD t undef=(z.toList[t]?).getD undef:=by simp[Array.getD_eq_getD_getElem?,Array.getElem?_append,q]
    rw[e];exact L
   ·have:args[t]? = none:=List.getElem?_eq_none (by rw[hl,Array.length_toList];exact q);rw[this];simp only[Option.getD_none,V]
 refine wp_mono (h Bw b _ _ J) fun e X w' ⟨σ',B,M⟩=>?_
 subst M;obtain⟨ρ,C,N,O,_⟩:=B.ex;exact⟨O.df,ρ,C,rfl,(N.less (fun i o e=>(by cases e))).1⟩
theorem j7.CJ{f:FuncId}{fn:Func}(E:P.funcs[f]? = some fn)(j:(fn.name == "runtime.NumGoroutine")=false)(hb:fn.body.isNone=false){I:ag}{q u:Bool}{z A:IntKind}{e a:Int}{hin:Qw}{x:Value}
  (h:∀v w,Calls P f #[v,.int z e,.int A a] w fun r w'=>r = .panicked [{ v:=x,recovered:=false }]∧w'=w):j7 P f [I,.p q (.int z) e,.p u (.int A) a] hin x:=by
 refine⟨⟨fn,E,j,hb⟩,fun Bw b φ C m c D=>?_⟩;match B:C.toList,c with
 | [v0,v1,O],c =>
  have J:=bR c.2.1;have L:=bR c.2.2.1;subst J L;have:C = #[v0,.int z e,.int A a]:=Array.ext' B;subst this;exact(h v0 b.w).mono fun r w' ⟨M,N⟩=>⟨b.pd,φ,M,by subst N;exact(m.less (fun i o e=>(by cases e))).1⟩
theorem jc.jH{f:FuncId}{fn:Func}{c:Code}(u:bV P tb)(z:P.funcs[f]? = some fn)(e:(fn.name == "runtime.NumGoroutine")=false)(hb:fn.body=some c){args:List ag}(j:args.length≤fn.ntmps)
  {hin:Qw} {q:(ag×Qw)⊕Value} (h:∀Bw w0,W P fn.ntmps Bw w0 c (tq args hin) (Ni tb fn.ntmps fn.results.toList q)):jc P f args hin q:=by
 cases q with
 | inl p=>exact fP.jH u z e hb j h
 | inr x=>exact j7.jH z e hb j h
def Es{T:Type}(tb:bP)(n:NS)(c:List ResultVar)(g:T→ag×Qw)(v:T)(e:Exit)(σ:St):Prop:=e = .ret∧yX tb n c (g v).1 (g v).2 .ret σ
theorem Ag{T:Type}{c:List ResultVar}{g:T→ag×Qw}{v:T}(h:yX tb n c (g v).1 (g v).2 .ret σ):Es tb n c g v .ret σ:=⟨rfl,h⟩
end
section
variable{P:Program}{tb:bP}{an:An}{n:NS}{base:Nat}{ops:Array Oper}{Bw:Nat→Prop}{w0:cu P}{F W:Nat→QV}
theorem Fl{s c:Nat→ag}{h h':Nat→Qz}{i:Nat}{o:Oper}(e:∀t∈o.looksAt ops,s t=c t)(f:∀i∈j9 h o.op (fp s o.op),h i=h' i):
  DL P tb an n base ops i o s h=DL P tb an n base ops i o c h':=by
 unfold DL;rw[zD (wS e) f];split
 ·split
  ·rfl
  ·rename_i g j;rw[qJ e j]
 ·rfl
structure Ku(P:Program)(tb:bP)(an:An)(n:NS)(base:Nat)(ops:Array Oper)(F:Nat→QV)(QP:Value→Prop)(i:Nat)(s:Nat→ag)(h:Nat→Qz):Prop where
 ex:∃o u y c,ops[i]? = some o∧DL P tb an n base ops i o s h=some (u,y,c)∧c∧(∀j∈j9 h o.op (fp s o.op),j∈F i)∧QP y
def Ib(P:Program)(tb:bP)(an:An)(n:NS)(base:Nat)(ops:Array Oper)(F W:Nat→QV)(Q:(Nat→ag)→(Nat→Qz)→Prop)(e:Value→Prop):Nat→Array Bool→(Nat→ag)→(Nat→Qz)→Prop
 | 0,listed,s,h=>Region.ready .any ops listed=[]∧Q s h
 | c+1,listed,s,h=>(Region.ready .any ops listed=[]→Q s h) ∧
  ∀i∈Region.ready .any ops listed,(∃f h',qc P tb an n base ops F W i s h f h'∧Ib P tb an n base ops F W Q e c (listed.setIfInBounds i true) f h')∨Ku P tb an n base ops F e i s h
theorem Gt{I:Value→Prop}{i j:Nat}{B f:Oper}(hi:ops[i]? = some B)(J:ops[j]? = some f)(C:B.apart ops f=true)(V:Aw (W i) (F j)=true)
  {s L:Nat→ag} {h q:Nat→Qz} (X:qc P tb an n base ops F W i s h L q) (Y:Ku P tb an n base ops F I j L q):Ku P tb an n base ops F I j s h:=by
 obtain⟨o,x,u,c,M,e2,e3,e4,Z,rfl,rfl⟩:=X.ex;obtain⟨o',v,y,c',N,f2,f3,O,f5⟩:=Y.ex;rw[hi]at M;cases M;rw[J]at N;cases N;obtain⟨p1,p2,p3⟩:=Oper.apart_spec C;have z:∀t∈f.looksAt ops,dE s B.dst x t=s t:=fun t ht=>yD fun k hk e=>by subst e;exact p1 k hk ht
 have A:∀k∈j9 (apply u h) f.op (fp (dE s B.dst x) f.op),apply u h k=h k:=fun k hk=>gS fun p hp e=>qq V (Z p hp) (by rw[e];exact O k hk)
 have g2:=Fl (P:=P) (tb:=tb) (an:=an) (n:=n) (base:=base) (i:=j) z A;rw[f2]at g2;have D:=nT z;have E:=pV A;exact⟨f,v,y,c',J,g2.symm,f3,fun k hk=>O k (by rw[E,D];exact hk),f5⟩
theorem xu{Q:(Nat→ag)→(Nat→Qz)→Prop}{Z:Value→Prop}{i:Nat}{oi:Oper}(hi:ops[i]? = some oi):∀(p:Nat) (listed:Array Bool) {s B:Nat→ag} {h q:Nat→Qz},
  py ops listed→(∀j C,ops[j]? = some C→j≠i→listed.getD j true=false→((qv ops).getD j 0).testBit i=false→uh ops F W i j oi C=true) →
  i∈Region.ready .any ops listed→qc P tb an n base ops F W i s h B q→Ib P tb an n base ops F W Q Z p (listed.setIfInBounds i true) B q→Ib P tb an n base ops F W Q Z (p+1) listed s h
 | 0,listed,s,B,h,q,_,_,A,u,H=>by
  refine⟨fun e=>(by rw[e]at A;cases A),fun j D=>?_⟩;by_cases c:j=i
  ·subst c;exact .inl ⟨B,q,u,H⟩
  ·have:=ready_mono D c;rw[H.1]at this;cases this
 | p+1,listed,s,B,h,q,E,v,A,u,H=>by
  refine⟨fun e=>(by rw[e]at A;cases A),fun j D=>?_⟩;by_cases c:j=i
  ·subst c;exact .inl ⟨B,q,u,H⟩
  ·obtain⟨z,C,x,I⟩:=mem_ready.1 D;have J:((qv ops).getD j 0).testBit i=false:=by
    cases hb:((qv ops).getD j 0).testBit i with
    | false=>rfl
    | true =>
     have O:=rE E (j+1) j C (by omega) x I hb;have h0:=(mem_ready.1 A).1;rcases Nat.lt_or_ge i listed.size with h' | h'
     ·simp[h']at h0 O;rw[h0]at O;cases O
     ·simp[Array.getElem?_eq_none h']at O
   have f:=v j C x c z J;simp only[uh,Bool.and_eq_true]at f;rcases H.2 j (ready_mono D c)with⟨a1,a3,a2,H2⟩ | L
   ·obtain⟨sj,V,b1,b2⟩:=yl hi x f.1.1.1 f.1.1.2 f.1.2 f.2 u a2;refine .inl ⟨sj,V,b1,xu hi p (listed.setIfInBounds j true) (E.add D) (fun k ok hk X M Y=>?_) (ready_mono A (Ne.symm c)) b2 ?_⟩
    ·refine v k ok hk X ?_ Y;by_cases N:j=k
     ·subst N;exact z
     ·rw[getD_set_ne true N]at M;exact M
    ·rw[Array.setIfInBounds_comm _ _ c];exact H2
   ·exact .inr (Gt hi x f.1.1.1 f.1.1.2 u L)
theorem qK(E:bV P tb){QA:(Nat→ag)→(Nat→Qz)→Prop}{QP:Value→Prop}{Q:Exit→Act→World→Prop}
  (O:∀s h a w,QA s h→G0 n base Bw w0 (fun i=>i<ops.size) s h a w→Q .normal a w) (hP:∀y s h a w,QP y→G0 n base Bw w0 (fun i=>i<ops.size) s h a w→Q (.panic [{ v:=y,recovered:=false }]) a w):∀(f:Nat) (listed:Array Bool) {s:Nat→ag} {h:Nat→Qz} {a:Act} {w:World},listed.size=ops.size →
  G0 n base Bw w0 (fun i=>listed.getD i false=true) s h a w→Ib P tb an n base ops F W QA QP f listed s h→wpAny P .any ops Q f listed a w
 | 0,listed,s,h,a,w,q,I,H=>by
  refine⟨H.1,O s h a w H.2 ?_⟩;obtain⟨ρ,φ,z,A,B⟩:=I.ex;refine⟨ρ,φ,z,A,fun id u hu=>(B id u hu).imp (fun h=>h) fun⟨i,j,p,C⟩=>⟨i,j,?_,C⟩⟩;rcases Nat.lt_or_ge i listed.size with h' | h'
  ·omega
  ·simp[Array.getElem?_eq_none h']at p
 | f+1,listed,s,h,a,w,q,I,H=>by
  refine⟨fun e=>O s h a w (H.1 e) ?_,fun i hi=>?_⟩
  ·obtain⟨ρ,φ,z,A,B⟩:=I.ex;refine⟨ρ,φ,z,A,fun id u hu=>(B id u hu).imp (fun h=>h) fun⟨i,j,p,C⟩=>⟨i,j,?_,C⟩⟩;rcases Nat.lt_or_ge i listed.size with h' | h'
   ·omega
   ·simp[Array.getElem?_eq_none h']at p
  ·obtain⟨J,oi,V,_⟩:=mem_ready.1 hi;have L:i<listed.size:=by rw[q];exact(Array.getElem?_eq_some_iff.1 V).1
   have M:¬(listed.getD i false=true):=fun e=>by simp[L]at J e;rw[J]at e;cases e
   rcases H.2 i hi with⟨s',h',X,H'⟩ | N
   ·obtain⟨o,x,u,c,Y,Z,e3,e4,e5,rfl,rfl⟩:=X.ex;refine jY E I Y M Z e3 fun a' w' D=>qK E O hP f _ (by simpa using q) ?_ H'
    obtain⟨ρ,φ,z,A,B⟩:=D.ex;refine⟨ρ,φ,z,A,fun id v hv=>(B id v hv).imp (fun h=>h) fun⟨j,j',p,C⟩=>⟨j,j',?_,C⟩⟩;rcases p with p | rfl
    ·exact getD_set_true p
    ·simp[L]
   ·obtain⟨o,u,y,c,Y,Z,e3,e4,e5⟩:=N.ex;refine xR I Y M Z e3 fun w' D=>hP y s (apply u h) a w' e5 ?_
    obtain⟨ρ,φ,z,A,B⟩:=D.ex;refine⟨ρ,φ,z,A,fun id v hv=>(B id v hv).imp (fun h=>h) fun⟨j,j',p,C⟩=>⟨j,j',?_,C⟩⟩;rcases p with p | rfl
    ·rcases Nat.lt_or_ge j listed.size with h' | h'
     ·omega
     ·simp[Array.getElem?_eq_none h']at p
    ·omega
inductive DT where
 | leaf
 | one (i:Nat) (t:DT)
 | two (i:Nat) (t:DT) (j:Nat) (u:DT)
 | dead (i:Nat)
 | twoD (i:Nat) (t:DT) (j:Nat)
def DT.depth:DT→Nat
 | .leaf=>0
 | .one _ t=>t.depth+1
 | .two _ t _ u=>max t.depth u.depth+1
 | .dead _=>1
 | .twoD _ t _=>t.depth+1
abbrev Nv:=List ((Nat→ag)×(Nat→Qz))×List Prop×QY
def stepT(P:Program)(tb:bP)(an:An)(n:NS)(base:Nat)(ops:Array Oper)(F W:Nat→QV)(i:Nat)(s:Nat→ag)(h:Nat→Qz):Option ((Nat→ag)×(Nat→Qz)×Prop) :=
 match ops[i]? with
 | some o=>match pw P tb an n base ops i o s h with
  | some (x,u,c)=>if(j9 h o.op (fp s o.op)).all (fun j=>(F i).contains j) && u.all (fun p=>(W i).contains p.1)then some (dE s o.dst x,apply u h,c)else none
  | none=>none
 | none=>none
def J9(P:Program)(tb:bP)(an:An)(n:NS)(base:Nat)(ops:Array Oper)(F:Nat→QV)(i:Nat)(s:Nat→ag)(h:Nat→Qz):Option (Value×Prop) :=
 match ops[i]? with
 | some o=>match DL P tb an n base ops i o s h with
  | some (_,y,c)=>if(j9 h o.op (fp s o.op)).all (fun j=>(F i).contains j)then some (y,c)else none
  | none=>none
 | none=>none
def runT(P:Program)(tb:bP)(an:An)(n:NS)(base:Nat)(ops:Array Oper)(F W:Nat→QV)(A:QV):DT→Array Bool→(Nat→ag)→(Nat→Qz)→Option Nv
 | .leaf,listed,s,h=>if(Region.ready .any ops listed).isEmpty then some ([(s,h)],[],[])else none
 | .one i t,listed,s,h=>if(Region.ready .any ops listed).contains i && F6 ops F W A listed i then match stepT P tb an n base ops F W i s h with
   | some (E,h',c)=>match runT P tb an n base ops F W A t (listed.setIfInBounds i true) E h' with
    | some (l,e,f)=>some (l,c::e,f)
    | none=>none
   | none=>none
  else none
 | .two i t j u,listed,s,h=>if Region.ready .any ops listed == [i,j]then match stepT P tb an n base ops F W i s h,stepT P tb an n base ops F W j s h with
   | some (p,q,v),some (I,J,x)=>match runT P tb an n base ops F W A t (listed.setIfInBounds i true) p q,runT P tb an n base ops F W A u (listed.setIfInBounds j true) I J with
    | some (L,z,B),some (M,C,D)=>some (L++M,v::x::(z++C),B++D)
    | _,_=>none
   | _,_=>none
  else none
 | .dead i,listed,s,h=>if Region.ready .any ops listed == [i]then match J9 P tb an n base ops F i s h with
   | some (y,c)=>some ([],[c],[y])
   | none=>none
  else none
 | .twoD i t j,listed,s,h=>if Region.ready .any ops listed == [i,j]then match stepT P tb an n base ops F W i s h,J9 P tb an n base ops F j s h with
   | some (p,q,v),some (y,x)=>match runT P tb an n base ops F W A t (listed.setIfInBounds i true) p q with
    | some (l,e,f)=>some (l,v::x::e,y::f)
    | none=>none
   | _,_=>none
  else none
theorem me{i:Nat}{s j:Nat→ag}{h h':Nat→Qz}{c:Prop}(e:stepT P tb an n base ops F W i s h=some (j,h',c))(p:c):qc P tb an n base ops F W i s h j h':=by
 unfold stepT at e;split at e
 ·rename_i o q;split at e
  ·rename_i x u z v;split at e
   ·rename_i f;cases e;simp only[Bool.and_eq_true,List.all_eq_true,List.contains_eq_mem,decide_eq_true_eq]at f;exact⟨o,x,u,c,q,v,p,f.1,f.2,rfl,rfl⟩
   ·cases e
  ·cases e
 ·cases e
theorem xG{f:Value→Prop}{i:Nat}{s:Nat→ag}{h:Nat→Qz}{y:Value}{c:Prop}(e:J9 P tb an n base ops F i s h=some (y,c))(p:c)(q:f y):Ku P tb an n base ops F f i s h:=by
 unfold J9 at e;split at e
 ·rename_i o v;split at e
  ·rename_i u z A x;split at e
   ·rename_i j;cases e;simp only[List.all_eq_true,List.contains_eq_mem,decide_eq_true_eq]at j;exact⟨o,u,y,c,v,x,p,j,q⟩
   ·cases e
  ·cases e
 ·cases e
theorem vH:∀ {a b:List Prop},pz (a++b)→pz a∧pz b
 | [],_,h=>⟨trivial,h⟩
 | _::_,_,h=>let ⟨x,y⟩:=vH h.2;⟨⟨h.1,x⟩,y⟩
theorem lA{QA:(Nat→ag)→(Nat→Qz)→Prop}{QP:Value→Prop}:∀(t:DT) (f:Nat) (listed:Array Bool) {s:Nat→ag} {h:Nat→Qz} {l:List ((Nat→ag)×(Nat→Qz))} {A:List Prop} {B:QY},t.depth≤f→py ops listed →
  runT P tb an n base ops F W (qv ops) t listed s h=some (l,A,B)→pz A→(∀p∈l,QA p.1 p.2)→(∀y∈B,QP y)→Ib P tb an n base ops F W QA QP f listed s h
 | .leaf,f,listed,s,h,l,A,B,_,_,q,_,hl,_=>by
  simp only[runT]at q;split at q
  ·rename_i he;cases q;have J:Region.ready .any ops listed=[]:=by simpa using he
   have:=hl (s,h) (by simp);cases f with
   | zero=>exact⟨J,this⟩
   | succ f=>exact⟨fun _=>this,fun i hi=>by rw[J]at hi;cases hi⟩
  ·cases q
 | .one i t,0,listed,s,h,l,A,B,hd,_,_,_,_,_=>by simp[DT.depth]at hd
 | .one i t,f+1,listed,s,h,l,A,B,hd,x,q,z,hl,C=>by
  simp only[runT]at q;split at q
  ·rename_i v;simp only[Bool.and_eq_true,List.contains_eq_mem,decide_eq_true_eq]at v;split at q
   ·rename_i s' h' c M;split at q
    ·rename_i l' a1 a2 N;cases q;obtain⟨_,oi,L,_⟩:=mem_ready.1 v.1;exact xu L f listed x (xO L v.2) v.1 (me M z.1) (lA t f _ (by simp only[DT.depth]at hd;omega) (x.add v.1) N z.2 hl C)
    ·cases q
   ·cases q
  ·cases q
 | .two i t j u,0,listed,s,h,l,A,B,hd,_,_,_,_,_=>by simp[DT.depth]at hd
 | .two i t j u,f+1,listed,s,h,l,A,B,hd,x,q,z,hl,C=>by
  simp only[runT]at q;split at q
  ·rename_i v;simp only[beq_iff_eq]at v;split at q
   ·rename_i O V c1 s2 h2 c2 D E;split at q
    ·rename_i l1 X Y l2 a3 a4 I Z;cases q;obtain⟨k1,k2⟩:=vH z.2.2;simp only[DT.depth]at hd;have hi:i∈Region.ready .any ops listed:=by rw[v];simp
     have hj:j∈Region.ready .any ops listed:=by rw[v];simp
     refine⟨fun e=>(by rw[v]at e;cases e),fun k hk=>?_⟩;rw[v]at hk;simp only[List.mem_cons,List.not_mem_nil,or_false]at hk;rcases hk with rfl | rfl
     ·exact .inl ⟨O,V,me D z.1,lA t f _ (by omega) (x.add hi) I k1 (fun p hp=>hl p (List.mem_append_left _ hp)) (fun y h=>C y (List.mem_append_left _ h))⟩
     ·exact .inl ⟨s2,h2,me E z.2.1,lA u f _ (by omega) (x.add hj) Z k2 (fun p hp=>hl p (List.mem_append_right _ hp)) (fun y h=>C y (List.mem_append_right _ h))⟩
    ·cases q
   ·cases q
  ·cases q
 | .dead i,0,listed,s,h,l,A,B,hd,_,_,_,_,_=>by simp[DT.depth]at hd
 | .dead i,f+1,listed,s,h,l,A,B,hd,x,q,z,hl,C=>by
  simp only[runT]at q;split at q
  ·rename_i v;simp only[beq_iff_eq]at v;split at q
   ·rename_i y c M;cases q;refine⟨fun e=>(by rw[v]at e;cases e),fun k hk=>?_⟩;rw[v]at hk;simp only[List.mem_cons,List.not_mem_nil,or_false]at hk;subst hk;exact .inr (xG M z.1 (C y (by simp)))
   ·cases q
  ·cases q
 | .twoD i t j,0,listed,s,h,l,A,B,hd,_,_,_,_,_=>by simp[DT.depth]at hd
 | .twoD i t j,f+1,listed,s,h,l,A,B,hd,x,q,z,hl,C=>by
  simp only[runT]at q;split at q
  ·rename_i v;simp only[beq_iff_eq]at v;split at q
   ·rename_i O V c1 y c2 D E;split at q
    ·rename_i l1 X Y I;cases q;simp only[DT.depth]at hd;have hi:i∈Region.ready .any ops listed:=by rw[v];simp
     refine⟨fun e=>(by rw[v]at e;cases e),fun k hk=>?_⟩;rw[v]at hk;simp only[List.mem_cons,List.not_mem_nil,or_false]at hk;rcases hk with rfl | rfl
     ·exact .inl ⟨O,V,me D z.1,lA t f _ (by omega) (x.add hi) I z.2.2 hl (fun y h=>C y (List.mem_cons_of_mem _ h))⟩
     ·exact .inr (xG E z.2.1 (C y (by simp)))
    ·cases q
   ·cases q
  ·cases q
end
section
variable{P:Program}{tb:bP}{n:NS}{Bw:Nat→Prop}{w0:cu P}{σ:St}{Q:Exit→St→Prop}
def Jz(c:List G)(f:QV)(l:List (Nat×ag))(m:Qw)(nx pn:Nat)(r:Option Nv):Option (List (Option (List ag×List Qz))×List Prop×QY) :=
 match r with
 | some (e,j,q)=>some (e.map (fun p=>goal c f l m ⟨p.1,p.2,nx,pn⟩),j,q)
 | none=>none
theorem pW(E:bV P tb)(hm:P.follows .mixedOrders=true)(an:An)(t:DT)(D:List (QV×QV))(k:Nat)(ys:QY){id:Nat}{ops:Array Oper}(gs:List G)(f:QV)(l:List (Nat×ag))(m:Qw)(nx pn:Nat)(cs:List Prop)
  (A:Jz gs f l m (σ.nx+8*ops.size) σ.pn (runT P tb an n σ.nx ops (rj D) (rS D) (qv ops) t (Array.replicate ops.size false) σ.s σ.h)=some (List.replicate k (some (want f l m)),cs,ys)) (q:(σ.pn == pn && kK (HW f) l m nx pn && decide (t.depth≤ops.size))=true) (hc:pz cs)
  (hq:k≠0→∀σ',Le n σ' (aA l m nx pn)→Q .normal σ') (I:∀y∈ys,∀σ',Q (.panic [{ v:=y,recovered:=false }]) σ'):W P n Bw w0 (.region id ops true) σ Q:=fun a w J=>by
 rw[Bool.and_eq_true,decide_eq_true_eq]at q;obtain⟨q,B⟩:=q;unfold Jz at A;split at A
 ·rename_i ls a1 L M;simp only[Option.some.injEq,Prod.mk.injEq]at A;obtain⟨e1,rfl,rfl⟩:=A;obtain⟨ρ,φ,q1,q2,q3⟩:=J.ex;obtain⟨N,qF⟩:=q1.drew;refine wp_region_any hm ?_;have hB:=lA (P:=P) (tb:=tb) (an:=an) (n:=n) (base:=σ.nx) (ops:=ops) (F:=rj D) (W:=rS D) (QA:=fun s h=>Q .normal ⟨s,h,σ.nx+8*ops.size,σ.pn⟩) (QP:=fun y=>y∈L) t ops.size (Array.replicate ops.size false) B (fun k o hk hl=>by simp[Array.getD]at hl) M hc (fun p I=>by
   have C:goal gs f l m ⟨p.1,p.2,σ.nx+8*ops.size,σ.pn⟩∈List.replicate k (some (want f l m)):=by rw[←e1];exact List.mem_map.2 ⟨p,I,rfl⟩
   have hk:k≠0:=fun e=>by subst e;simp at C
   exact hq hk _ (wu (List.eq_of_mem_replicate C) q)) (fun y h=>h)
  refine qK (P:=P) (tb:=tb) (an:=an) (n:=n) (base:=σ.nx) (ops:=ops) (Bw:=Bw) (w0:=w0) E (fun s h a w O c=>?_) (fun y s h a w hy c=>?_) ops.size _ (by simp) ⟨ρ,φ,N,q2.mono qF (fun _ _ h=>h),fun id u hu=> .inl (q3 id u hu)⟩ hB
  ·obtain⟨x,z,V,X,Y⟩:=c.ex;refine⟨⟨s,h,σ.nx+8*ops.size,σ.pn⟩,⟨⟨x,z,V,X,fun id u hu=>?_⟩,J.pn⟩,O⟩;rcases Y id u hu with Z | ⟨i,j,Z,h2,h3⟩ <;> simp only <;> omega
  ·obtain⟨x,z,V,X,Y⟩:=c.ex;refine⟨⟨s,h,σ.nx+8*ops.size,σ.pn⟩,⟨⟨x,z,V,X,fun id u hu=>?_⟩,J.pn⟩,I y hy _⟩;rcases Y id u hu with Z | ⟨i,j,Z,h2,h3⟩ <;> simp only <;> omega
 ·cases A
end
end Go.Tv
