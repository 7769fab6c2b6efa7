import Derived.Test.YtbedjpdfkmfplaaGreatDoorTvR
namespace Go.Tv
open Go Go.RowKit
def CO(h:Nat→Qz):List ag→List (Option Ty)→Option (List ag×iu)
 | [],[]=>some ([],[])
 | x::e,some T::Ts=>if(cellsOf x).all ag.cell && kY T x then match HE T h x with
  | some (y,u)=>match CO (apply u h) e Ts with
   | some (f,j)=>some (enc false T y::f,u++j)
   | none=>none
  | none=>none
  else none
 | x::e,none::Ts=>match CO h e Ts with
  | some (f,j)=>some (x::f,j)
  | none=>none
 | _,_=>none
def Ky(tb:bQ)(e:List ResultVar)(Ts:List (Option Ty))(hout:Qw)(σ:St):Option (ag×List Qz) :=
 match uy tb σ.s σ.h e with
 | some j=>match CO σ.h j Ts with
  | some (q,u)=>some (aM q,hout.map (fun p=>apply u σ.h p.1))
  | none=>none
 | none=>none
def yR(tb:bQ)(n:NS)(j:List ResultVar)(r:ag)(hout:Qw)(e:Exit)(σ:St):Prop :=
 (e = .ret∨e = .normal)∧∃Ts σ1,Le n σ σ1∧Ky tb j Ts hout σ1=some (r,hout.map (fun p=>some p.2))
def M4(tb:bQ)(n:NS)(f:List ResultVar):(ag×Qw)⊕Value→Exit→St→Prop
 | .inl p=>yR tb n f p.1 p.2
 | .inr x=>fun e _=>e = .panic [{ v:=x,recovered:=false }]
def kH{A E:Type}(g:A→ag×Qw)(f:E→Value):A⊕E→(ag×Qw)⊕Value
 | .inl x=> .inl (g x)
 | .inr e=> .inr (f e)
def aZ(t:TypeId)(f j:IntKind)(e:Int×Int):Value:= .iface t (.agg #[.int f e.1,.int j e.2])
abbrev zO(f:FuncId):Value:= .func (.func f) #[] #[]
/-! j q,for v e u. -/
abbrev ag.i64(x:Int):ag:= .p false (.int .i64) x
abbrev ag.i32(x:Int):ag:= .p false (.int .i32) x
abbrev ag.u32(x:Int):ag:= .p false (.int .u32) x
abbrev ag.u64(x:Int):ag:= .p false (.int .u64) x
abbrev ag.u8(x:Int):ag:= .p false (.int .u8) x
abbrev ag.st(x:QX):ag:= .p false .str x
abbrev ag.bo(x:Bool):ag:= .p false .bool x
def sE(args:List ag)(hin:Qw):St:=⟨fun t=>(args[t]?).getD .unk,fun i=>look hin i,hin.length,hin.length⟩
section
variable{P:Program}{tb:bQ}{n:NS}{Bw:Nat→Prop}{w0:cE P}{w:World}{σ:St}{ρ:Nat→QW}{φ:Nat→Nat→Prop}{h:Nat→Qz}
theorem yR.normal{j:List ResultVar}{r:ag}{hout:Qw}(h:yR tb n j r hout .ret σ):∀σ',Le n σ' σ→yR tb n j r hout .normal σ':=fun _ e =>
 ⟨.inr rfl,h.2.elim fun Ts q=>q.elim fun σ1 q=>⟨Ts,σ1,e.trans q.1,q.2⟩⟩
theorem EB{j:List ResultVar}{r:ag}{hout:Qw}(Ts:List (Option Ty))(q:List G)(f:QV)(l:List (Nat×ag))(m:Qw)(nx pn:Nat)
  (u:goal q f l m σ=some (want f l m)) (e:(σ.pn == pn && lh (Jf f) l m nx pn)=true) (v:Ky tb j Ts hout (aA l m nx pn)=some (r,hout.map (fun p=>some p.2))):yR tb n j r hout .ret σ :=
 ⟨.inl rfl,Ts,_,vW u e,v⟩
theorem Nv{F:Bool→Addr→Value→Prop}{T:Ty}{y:T.den}{x:ag}{v:Value}(A:(cellsOf x).all ag.cell=true)(z:kY T x=true)(E:V F ρ x v){F':Bool→Addr→Value→Prop}{B:Nat→QW}
  (C:ai (F' false) T y (fun k u=>v.cells.toList[k]? = some u)) (hl:T.size=(cellsOf x).length):V F' B (enc false T y) v:=by
 by_cases e:∃I,x = .agg I
 ·obtain⟨I,rfl⟩:=e;have q:=E;simp only[V]at q;obtain⟨J,rfl,L,M⟩:=q;have f:T.scalar=false:=by simpa [kY]using z
  simp only[enc,f];simp only[Bool.false_eq_true,if_false,V];refine⟨J,rfl,?_,jX false T y _ (ai.mono (fun _ _ h=>h) (fun k u hk=>by simpa [Value.cells]using hk) C)⟩;rw[eW,hl,L];rfl
 ·have j:cellsOf x=[x]:=by cases x <;> first | rfl | exact(e ⟨_,rfl⟩).elim | cases z
  have f:T.scalar=true:=by cases x <;> first | exact z | exact(e ⟨_,rfl⟩).elim | cases z
  rw[j]at A;simp only[List.all_cons,List.all_nil,Bool.and_true]at A;have D:=fW (sT A E);simp only[enc,f,if_true,V];refine⟨trivial,?_⟩;rw[D]at C;refine ai.gV (fun k u hk hu=>?_) C;rw[Ty.fT f]at hk;obtain rfl:k=0:=by omega
  simp at hu;exact hu.symm
theorem rj:∀ {B:List ag} {Ts:List (Option Ty)} {h:Nat→Qz} {z:List ag} {q:iu},Mem Bw w0 ρ φ h w→CO h B Ts=some (z,q) →
  Mem Bw w0 ρ φ (apply q h) w∧(∀β a v,Fr (own φ h) Bw w β a v→Fr (own φ (apply q h)) Bw w β a v)∧∀e,jf (Fr (own φ h) Bw w) ρ B e→jf (Fr (own φ (apply q h)) Bw w) ρ z e
 | [],[],h,z,q,m,hd=>by
  cases hd;exact⟨m,fun _ _ _ h=>h,fun _ h=>h⟩
 | x::B,some T::Ts,h,z,q,m,hd=>by
  simp only[CO]at hd;split at hd
  ·rename_i C;split at hd
   ·rename_i y u M;split at hd
    ·rename_i D E I;cases hd;obtain⟨N,L,O⟩:=nq m M;obtain⟨J,A,g2⟩:=rj N I;simp only[Bool.and_eq_true]at C;rw[fm];refine⟨J,fun β a v X=>A _ _ _ (L _ _ _ X),fun e j=>?_⟩;cases e with
     | nil=>exact j.elim
     | cons v e =>
      obtain⟨Y,r2,r3⟩:=gv C.1 j.1;obtain⟨Z,s2⟩:=O _ Y;exact⟨Nv C.1 C.2 j.1 (ai.mono (A false) (fun _ _ h=>h) Z) s2,g2 e (jf.mono L (fun _ _ h=>h) j.2)⟩
    ·cases hd
   ·cases hd
  ·cases hd
 | x::B,none::Ts,h,z,q,m,hd=>by
  simp only[CO]at hd;split at hd
  ·rename_i D E I;cases hd;obtain⟨J,A,g2⟩:=rj m I;refine⟨J,A,fun e j=>?_⟩;cases e with
   | nil=>exact j.elim
   | cons v e=>exact⟨V.mono A (fun _ _ h=>h) j.1,g2 e j.2⟩
  ·cases hd
 | [],_::_,_,_,_,_,hd=>by simp[CO]at hd
 | _::_,[],_,_,_,_,hd=>by simp[CO]at hd
theorem FV{α:Type}{f:Nat→α}{g:Obj→α}:∀ {l:Qw},l.map (fun p=>f p.1)=l.map (fun p=>g p.2)→∀p∈l,f p.1=g p.2
 | [],_,p,e=>by cases e
 | q::l,h,p,e=>by
  simp only[List.map_cons,List.cons.injEq]at h;rcases List.mem_cons.1 e with rfl | e
  ·exact h.1
  ·exact FV h.2 p e
theorem JY{F:Bool→Addr→Value→Prop}{u:List ag}{e:QY}(h:jf F ρ u e):V F ρ (aM u) (if h:e.toArray.size=1 then e.toArray[0]else .tuple e.toArray):=by
 have j:=(jh h).1;match u,e,h with
 | [],[],_=>simp only[aM,V];exact⟨#[],rfl,rfl,by simp only[VL]⟩
 | [y],[v],z=>exact z.1
 | y::B::u,v::A::e,z =>
  have:¬((v::A::e).toArray.size=1):=by simp
  rw[dif_neg this];simp only[aM,V];refine⟨_,rfl,by simpa using j.symm,VL.mk fun k x hk=>?_⟩;have:=(jh z).2 k;rw[hk]at this;have q:k<(v::A::e).length:=by rw[←j];exact(List.getElem?_eq_some_iff.1 hk).1
  rw[List.getElem?_eq_getElem q]at this;exact⟨_,by simp[q],this⟩
theorem gN.jZ{f:FuncId}{fn:Func}{c:Code}(M:bY P tb)(Z:P.funcs[f]? = some fn)(C:(fn.name == "runtime.NumGoroutine")=false)(hb:fn.body=some c){args:List ag}(a1:args.length≤fn.ntmps)
  {hin hout:Qw} {r:ag} (h:∀Bw w0,W P fn.ntmps Bw w0 c (sE args hin) (yR tb fn.ntmps fn.results.toList r hout)):gN P f args hin r hout:=by
 refine⟨⟨fn,Z,C,by rw[hb];rfl⟩,fun Bw b φ us m D B=>calls_of_wp Z hb ?_⟩;obtain⟨hl,hg⟩:=jh D;have hR:R fn.ntmps Bw b (sE args hin) { tmps:=us++Array.replicate (fn.ntmps - us.size) undef,defers:=[] } b.w:=by
  refine⟨⟨b.pk,φ,m,⟨?_,rfl,fun t=>?_⟩,fun id u hu=>B id u hu⟩,fun i u h=>B i u h⟩
  ·have:us.size=args.length:=by rw[hl,Array.length_toList]
   simp only[Array.size_append,Array.size_replicate];omega
  ·have hv:=hg t;simp only[sE];rcases Nat.lt_or_ge t us.size with q | q
   ·have e:(us++Array.replicate (fn.ntmps - us.size) undef).getD t undef=(us.toList[t]?).getD undef:=by simp[Array.getD_eq_getD_getElem?,Array.getElem?_append,q]
    rw[e];exact hv
   ·have:args[t]? = none:=List.getElem?_eq_none (by rw[hl,Array.length_toList];exact q);rw[this];simp only[Option.getD_none,V]
 refine wp_mono (h Bw b _ _ hR) fun e N w' ⟨σ',O,he,Ts,σ1,X,j⟩=>?_
 have key:N.defers=[]∧∃v,(results fn N.tmps).run P w' = .ok v w' ∧
   ∃v2 E z,Ending.returned v = .returned v2∧Mem Bw b E z (fun i=>look hout i) w'∧V (Fr (own z (fun i=>look hout i)) Bw w') E r v2:=by
  obtain⟨ρ,z,q1,q2,_⟩:=(X _ Bw b N w' O).ex;unfold Ky at j;split at j
  ·rename_i xs Y;split at j
   ·rename_i ys u I;simp only[Option.some.injEq,Prod.mk.injEq]at j;obtain⟨rfl,j⟩:=j;obtain⟨L,r1,r2⟩:=ji (P:=P) M q1 q2 Y;obtain⟨m1,f1,g1⟩:=rj q1 I;have J:∀i o,look hout i=some o→apply u σ1.h i=some o:=fun i o e=>FV (f:=fun i=>apply u σ1.h i) (g:=fun o=>some o) j _ (nf e)
    obtain⟨m2,f2⟩:=m1.less J;have r4:=mj (P:=P) _ fn.results w' r1;refine⟨q2.df,(if h:L.toArray.size=1 then L.toArray[0]else .tuple L.toArray),?_,_,ρ,z,rfl,m2,?_⟩
    ·unfold results;rw[Sem.run_bind];exact(congrArg (fun r=>Result.andThen r (fun a w'=>Sem.run P (pure (if h:a.size=1 then a[0]else Value.tuple a)) w')) r4).trans rfl
    ·exact JY (jf.mono f2 (fun _ _ h=>h) (g1 L r2))
   ·cases j
  ·cases j
 rcases he with rfl | rfl
 ·exact key
 ·exact key
theorem kg.jZ{f:FuncId}{fn:Func}{c:Code}(E:P.funcs[f]? = some fn)(z:(fn.name == "runtime.NumGoroutine")=false)(hb:fn.body=some c){args:List ag}(I:args.length≤fn.ntmps)
  {hin:Qw} {x:Value} (h:∀Bw w0,W P fn.ntmps Bw w0 c (sE args hin) (fun e _=>e = .panic [{ v:=x,recovered:=false }])):kg P f args hin x:=by
 refine⟨⟨fn,E,z,by rw[hb];rfl⟩,fun Bw b φ A m B j=>calls_of_wp E hb ?_⟩;obtain⟨hl,J⟩:=jh B;have L:R fn.ntmps Bw b (sE args hin) { tmps:=A++Array.replicate (fn.ntmps - A.size) undef,defers:=[] } b.w:=by
  refine⟨⟨b.pk,φ,m,⟨?_,rfl,fun t=>?_⟩,fun id u hu=>j id u hu⟩,fun i u h=>j i u h⟩
  ·have:A.size=args.length:=by rw[hl,Array.length_toList]
   simp only[Array.size_append,Array.size_replicate];omega
  ·have M:=J t;simp only[sE];rcases Nat.lt_or_ge t A.size with q | q
   ·have e:(A++Array.replicate (fn.ntmps - A.size) undef).getD t undef=(A.toList[t]?).getD undef:=by simp[Array.getD_eq_getD_getElem?,Array.getElem?_append,q]
    rw[e];exact M
   ·have:args[t]? = none:=List.getElem?_eq_none (by rw[hl,Array.length_toList];exact q);rw[this];simp only[Option.getD_none,V]
 refine wp_mono (h Bw b _ _ L) fun e Y w' ⟨σ',C,N⟩=>?_
 subst N;obtain⟨ρ,D,O,X,_⟩:=C.ex;exact⟨X.df,ρ,D,rfl,(O.less (fun i o e=>(by cases e))).1⟩
theorem kg.Cy{f:FuncId}{fn:Func}(I:P.funcs[f]? = some fn)(q:(fn.name == "runtime.NumGoroutine")=false)(hb:fn.body.isNone=false){J:ag}{u z:Bool}{A B:IntKind}{e a:Int}{hin:Qw}{x:Value}
  (h:∀v w,Calls P f #[v,.int A e,.int B a] w fun r w'=>r = .panicked [{ v:=x,recovered:=false }]∧w'=w):kg P f [J,.p u (.int A) e,.p z (.int B) a] hin x:=by
 refine⟨⟨fn,I,q,hb⟩,fun Bw b φ D m j E=>?_⟩;match C:D.toList,j with
 | [v0,v1,V],j =>
  have L:=bR j.2.1;have M:=bR j.2.2.1;subst L M;have:D = #[v0,.int A e,.int B a]:=Array.ext' C;subst this;exact(h v0 b.w).mono fun r w' ⟨N,O⟩=>⟨b.pk,φ,N,by subst O;exact(m.less (fun i o e=>(by cases e))).1⟩
theorem jt.jZ{f:FuncId}{fn:Func}{c:Code}(u:bY P tb)(z:P.funcs[f]? = some fn)(e:(fn.name == "runtime.NumGoroutine")=false)(hb:fn.body=some c){args:List ag}(j:args.length≤fn.ntmps)
  {hin:Qw} {q:(ag×Qw)⊕Value} (h:∀Bw w0,W P fn.ntmps Bw w0 c (sE args hin) (M4 tb fn.ntmps fn.results.toList q)):jt P f args hin q:=by
 cases q with
 | inl p=>exact gN.jZ u z e hb j h
 | inr x=>exact kg.jZ z e hb j h
def ED{T:Type}(tb:bQ)(n:NS)(f:List ResultVar)(g:T→ag×Qw)(v:T)(e:Exit)(σ:St):Prop:=e = .ret∧yR tb n f (g v).1 (g v).2 .ret σ
theorem zr{T:Type}{e:List ResultVar}{g:T→ag×Qw}{v:T}(h:yR tb n e (g v).1 (g v).2 .ret σ):ED tb n e g v .ret σ:=⟨rfl,h⟩
end
section
variable{P:Program}{tb:bQ}{an:An}{n:NS}{base:Nat}{ops:Array Oper}{Bw:Nat→Prop}{w0:cE P}{F W:Nat→QV}
theorem E7{s e:Nat→ag}{h h':Nat→Qz}{i:Nat}{o:Oper}(f:∀t∈o.looksAt ops,s t=e t)(j:∀i∈kA h o.op (fP s o.op),h i=h' i):
  BA P tb an n base ops i o s h=BA P tb an n base ops i o e h':=by
 unfold BA;rw[zu (wM f) j];split
 ·split
  ·rfl
  ·rename_i g q;rw[qZ f q]
 ·rfl
structure KN(P:Program)(tb:bQ)(an:An)(n:NS)(base:Nat)(ops:Array Oper)(F:Nat→QV)(QP:Value→Prop)(i:Nat)(s:Nat→ag)(h:Nat→Qz):Prop where
 ex:∃o u y c,ops[i]? = some o∧BA P tb an n base ops i o s h=some (u,y,c)∧c∧(∀j∈kA h o.op (fP s o.op),j∈F i)∧QP y
def Iu(P:Program)(tb:bQ)(an:An)(n:NS)(base:Nat)(ops:Array Oper)(F W:Nat→QV)(Q:(Nat→ag)→(Nat→Qz)→Prop)(f:Value→Prop):Nat→Array Bool→(Nat→ag)→(Nat→Qz)→Prop
 | 0,listed,s,h=>Region.ready .any ops listed=[]∧Q s h
 | e+1,listed,s,h=>(Region.ready .any ops listed=[]→Q s h) ∧
  ∀i∈Region.ready .any ops listed,(∃j h',pY P tb an n base ops F W i s h j h'∧Iu P tb an n base ops F W Q f e (listed.setIfInBounds i true) j h')∨KN P tb an n base ops F f i s h
theorem Gr{I:Value→Prop}{i j:Nat}{B f:Oper}(hi:ops[i]? = some B)(J:ops[j]? = some f)(C:B.apart ops f=true)(V:A0 (W i) (F j)=true)
  {s L:Nat→ag} {h q:Nat→Qz} (X:pY P tb an n base ops F W i s h L q) (Y:KN P tb an n base ops F I j L q):KN P tb an n base ops F I j s h:=by
 obtain⟨o,x,u,c,M,e2,e3,e4,Z,rfl,rfl⟩:=X.ex;obtain⟨o',v,y,c',N,f2,f3,O,f5⟩:=Y.ex;rw[hi]at M;cases M;rw[J]at N;cases N;obtain⟨p1,p2,p3⟩:=Oper.apart_spec C;have z:∀t∈f.looksAt ops,dN s B.dst x t=s t:=fun t ht=>yx fun k hk e=>by subst e;exact p1 k hk ht
 have A:∀k∈kA (apply u h) f.op (fP (dN s B.dst x) f.op),apply u h k=h k:=fun k hk=>lu fun p hp e=>qv V (Z p hp) (by rw[e];exact O k hk)
 have g2:=E7 (P:=P) (tb:=tb) (an:=an) (n:=n) (base:=base) (i:=j) z A;rw[f2]at g2;have D:=oV z;have E:=qd A;exact⟨f,v,y,c',J,g2.symm,f3,fun k hk=>O k (by rw[E,D];exact hk),f5⟩
theorem xA{Q:(Nat→ag)→(Nat→Qz)→Prop}{QP:Value→Prop}{i:Nat}{oi:Oper}(hi:ops[i]? = some oi):∀(q:Nat) (listed:Array Bool) {s E:Nat→ag} {h u:Nat→Qz},
  qi ops listed→(∀j I,ops[j]? = some I→j≠i→listed.getD j true=false→((qI ops).getD j 0).testBit i=false→uo ops F W i j oi I=true) →
  i∈Region.ready .any ops listed→pY P tb an n base ops F W i s h E u→Iu P tb an n base ops F W Q QP q (listed.setIfInBounds i true) E u→Iu P tb an n base ops F W Q QP (q+1) listed s h
 | 0,listed,s,E,h,u,_,_,C,A,H=>by
  refine⟨fun e=>(by rw[e]at C;cases C),fun j J=>?_⟩;by_cases f:j=i
  ·subst f;exact .inl ⟨E,u,A,H⟩
  ·have:=ready_mono J f;rw[H.1]at this;cases this
 | q+1,listed,s,E,h,u,L,v,C,A,H=>by
  refine⟨fun e=>(by rw[e]at C;cases C),fun j J=>?_⟩;by_cases f:j=i
  ·subst f;exact .inl ⟨E,u,A,H⟩
  ·obtain⟨B,I,D,M⟩:=mem_ready.1 J;have N:((qI ops).getD j 0).testBit i=false:=by
    cases hb:((qI ops).getD j 0).testBit i with
    | false=>rfl
    | true =>
     have X:=rn L (j+1) j I (by omega) D M hb;have h0:=(mem_ready.1 C).1;rcases Nat.lt_or_ge i listed.size with h' | h'
     ·simp[h']at h0 X;rw[h0]at X;cases X
     ·simp[Array.getElem?_eq_none h']at X
   have z:=v j I D f B N;simp only[uo,Bool.and_eq_true]at z;rcases H.2 j (ready_mono J f)with⟨a4,a5,a2,H2⟩ | a3
   ·obtain⟨sj,Y,b1,b2⟩:=xf hi D z.1.1.1 z.1.1.2 z.1.2 z.2 A a2;refine .inl ⟨sj,Y,b1,xA hi q (listed.setIfInBounds j true) (L.add J) (fun k ok hk Z O a1=>?_) (ready_mono C (Ne.symm f)) b2 ?_⟩
    ·refine v k ok hk Z ?_ a1;by_cases V:j=k
     ·subst V;exact B
     ·rw[getD_set_ne true V]at O;exact O
    ·rw[Array.setIfInBounds_comm _ _ f];exact H2
   ·grind (splits:=6) (ematch:=4) [Gr]
theorem qT(I:bY P tb){QA:(Nat→ag)→(Nat→Qz)→Prop}{QP:Value→Prop}{Q:Exit→Act→World→Prop}
  (V:∀s h a w,QA s h→Hh n base Bw w0 (fun i=>i<ops.size) s h a w→Q .normal a w) (hP:∀y s h a w,QP y→Hh n base Bw w0 (fun i=>i<ops.size) s h a w→Q (.panic [{ v:=y,recovered:=false }]) a w):∀(f:Nat) (listed:Array Bool) {s:Nat→ag} {h:Nat→Qz} {a:Act} {w:World},listed.size=ops.size →
  Hh n base Bw w0 (fun i=>listed.getD i false=true) s h a w→Iu P tb an n base ops F W QA QP f listed s h→wpAny P .any ops Q f listed a w
 | 0,listed,s,h,a,w,z,J,H=>by
  refine⟨H.1,V s h a w H.2 ?_⟩;obtain⟨ρ,φ,A,B,C⟩:=J.ex;refine⟨ρ,φ,A,B,fun id u hu=>(C id u hu).imp (fun h=>h) fun⟨i,j,q,D⟩=>⟨i,j,?_,D⟩⟩;rcases Nat.lt_or_ge i listed.size with h' | h'
  ·omega
  ·simp[Array.getElem?_eq_none h']at q
 | f+1,listed,s,h,a,w,z,J,H=>by
  refine⟨fun e=>V s h a w (H.1 e) ?_,fun i hi=>?_⟩
  ·obtain⟨ρ,φ,A,B,C⟩:=J.ex;refine⟨ρ,φ,A,B,fun id u hu=>(C id u hu).imp (fun h=>h) fun⟨i,j,q,D⟩=>⟨i,j,?_,D⟩⟩;rcases Nat.lt_or_ge i listed.size with h' | h'
   ·omega
   ·simp[Array.getElem?_eq_none h']at q
  ·obtain⟨L,oi,X,_⟩:=mem_ready.1 hi;have M:i<listed.size:=by rw[z];exact(Array.getElem?_eq_some_iff.1 X).1
   have N:¬(listed.getD i false=true):=fun e=>by simp[M]at L e;rw[L]at e;cases e
   rcases H.2 i hi with⟨s',h',Y,H'⟩ | O
   ·obtain⟨o,x,u,c,Z,e2,e3,e4,e5,rfl,rfl⟩:=Y.ex;refine ka I J Z N e2 e3 fun a' w' E=>qT I V hP f _ (by simpa using z) ?_ H'
    obtain⟨ρ,φ,A,B,C⟩:=E.ex;refine⟨ρ,φ,A,B,fun id v hv=>(C id v hv).imp (fun h=>h) fun⟨j,j',q,D⟩=>⟨j,j',?_,D⟩⟩;rcases q with q | rfl
    ·exact getD_set_true q
    ·simp[M]
   ·obtain⟨o,u,y,c,Z,e2,e3,e4,e5⟩:=O.ex;refine xK J Z N e2 e3 fun w' E=>hP y s (apply u h) a w' e5 ?_
    obtain⟨ρ,φ,A,B,C⟩:=E.ex;refine⟨ρ,φ,A,B,fun id v hv=>(C id v hv).imp (fun h=>h) fun⟨j,j',q,D⟩=>⟨j,j',?_,D⟩⟩;rcases q with q | rfl
    ·grind
    ·omega
inductive DT where
 | leaf
 | one (i:Nat) (t:DT)
 | two (i:Nat) (t:DT) (j:Nat) (u:DT)
 | dead (i:Nat)
 | twoD (i:Nat) (t:DT) (j:Nat)
def DT.depth:DT→Nat
 | .leaf=>0
 | .one _ t=>t.depth+1
 | .two _ t _ u=>max t.depth u.depth+1
 | .dead _=>1
 | .twoD _ t _=>t.depth+1
abbrev MG:=List ((Nat→ag)×(Nat→Qz))×List Prop×QY
def stepT(P:Program)(tb:bQ)(an:An)(n:NS)(base:Nat)(ops:Array Oper)(F W:Nat→QV)(i:Nat)(s:Nat→ag)(h:Nat→Qz):Option ((Nat→ag)×(Nat→Qz)×Prop) :=
 match ops[i]? with
 | some o=>match qc P tb an n base ops i o s h with
  | some (x,u,c)=>if(kA h o.op (fP s o.op)).all (fun j=>(F i).contains j) && u.all (fun p=>(W i).contains p.1)then some (dN s o.dst x,apply u h,c)else none
  | none=>none
 | none=>none
def KC(P:Program)(tb:bQ)(an:An)(n:NS)(base:Nat)(ops:Array Oper)(F:Nat→QV)(i:Nat)(s:Nat→ag)(h:Nat→Qz):Option (Value×Prop) :=
 match ops[i]? with
 | some o=>match BA P tb an n base ops i o s h with
  | some (_,y,c)=>if(kA h o.op (fP s o.op)).all (fun j=>(F i).contains j)then some (y,c)else none
  | none=>none
 | none=>none
def runT(P:Program)(tb:bQ)(an:An)(n:NS)(base:Nat)(ops:Array Oper)(F W:Nat→QV)(A:QV):DT→Array Bool→(Nat→ag)→(Nat→Qz)→Option MG
 | .leaf,listed,s,h=>if(Region.ready .any ops listed).isEmpty then some ([(s,h)],[],[])else none
 | .one i t,listed,s,h=>if(Region.ready .any ops listed).contains i && F6 ops F W A listed i then match stepT P tb an n base ops F W i s h with
   | some (J,h',c)=>match runT P tb an n base ops F W A t (listed.setIfInBounds i true) J h' with
    | some (l,e,f)=>some (l,c::e,f)
    | none=>none
   | none=>none
  else none
 | .two i t j u,listed,s,h=>if Region.ready .any ops listed == [i,j]then match stepT P tb an n base ops F W i s h,stepT P tb an n base ops F W j s h with
   | some (q,v,z),some (L,M,B)=>match runT P tb an n base ops F W A t (listed.setIfInBounds i true) q v,runT P tb an n base ops F W A u (listed.setIfInBounds j true) L M with
    | some (N,C,D),some (O,E,I)=>some (N++O,z::B::(C++E),D++I)
    | _,_=>none
   | _,_=>none
  else none
 | .dead i,listed,s,h=>if Region.ready .any ops listed == [i]then match KC P tb an n base ops F i s h with
   | some (y,c)=>some ([],[c],[y])
   | none=>none
  else none
 | .twoD i t j,listed,s,h=>if Region.ready .any ops listed == [i,j]then match stepT P tb an n base ops F W i s h,KC P tb an n base ops F j s h with
   | some (q,v,z),some (y,B)=>match runT P tb an n base ops F W A t (listed.setIfInBounds i true) q v with
    | some (l,e,f)=>some (l,z::B::e,y::f)
    | none=>none
   | _,_=>none
  else none
theorem mE{i:Nat}{s j:Nat→ag}{h h':Nat→Qz}{c:Prop}(e:stepT P tb an n base ops F W i s h=some (j,h',c))(q:c):pY P tb an n base ops F W i s h j h':=by
 unfold stepT at e;split at e
 ·rename_i o v;split at e
  ·rename_i x u A z;split at e
   ·rename_i f;cases e;simp only[Bool.and_eq_true,List.all_eq_true,List.contains_eq_mem,decide_eq_true_eq]at f;exact⟨o,x,u,c,v,z,q,f.1,f.2,rfl,rfl⟩
   ·cases e
  ·cases e
 ·cases e
theorem xW{f:Value→Prop}{i:Nat}{s:Nat→ag}{h:Nat→Qz}{y:Value}{c:Prop}(e:KC P tb an n base ops F i s h=some (y,c))(q:c)(v:f y):KN P tb an n base ops F f i s h:=by
 unfold KC at e;split at e
 ·rename_i o z;split at e
  ·rename_i u B C A;split at e
   ·rename_i j;cases e;simp only[List.all_eq_true,List.contains_eq_mem,decide_eq_true_eq]at j;exact⟨o,u,y,c,z,A,q,j,v⟩
   ·cases e
  ·cases e
 ·cases e
theorem vt:∀ {a b:List Prop},qj (a++b)→qj a∧qj b
 | [],_,h=>⟨trivial,h⟩
 | _::_,_,h=>let ⟨x,y⟩:=vt h.2;⟨⟨h.1,x⟩,y⟩
theorem lN{QA:(Nat→ag)→(Nat→Qz)→Prop}{QP:Value→Prop}:∀(t:DT) (f:Nat) (listed:Array Bool) {s:Nat→ag} {h:Nat→Qz} {l:List ((Nat→ag)×(Nat→Qz))} {B:List Prop} {C:QY},t.depth≤f→qi ops listed →
  runT P tb an n base ops F W (qI ops) t listed s h=some (l,B,C)→qj B→(∀p∈l,QA p.1 p.2)→(∀y∈C,QP y)→Iu P tb an n base ops F W QA QP f listed s h
 | .leaf,f,listed,s,h,l,B,C,_,_,q,_,hl,_=>by
  simp only[runT]at q;split at q
  ·rename_i he;cases q;have L:Region.ready .any ops listed=[]:=by simpa using he
   have:=hl (s,h) (by simp);cases f with
   | zero=>exact⟨L,this⟩
   | succ f=>exact⟨fun _=>this,fun i hi=>by rw[L]at hi;cases hi⟩
  ·cases q
 | .one i t,0,listed,s,h,l,B,C,hd,_,_,_,_,_=>by simp[DT.depth]at hd
 | .one i t,f+1,listed,s,h,l,B,C,hd,z,q,A,hl,D=>by
  simp only[runT]at q;split at q
  ·rename_i v;simp only[Bool.and_eq_true,List.contains_eq_mem,decide_eq_true_eq]at v;split at q
   ·rename_i s' h' c N;split at q
    ·rename_i l' a2 a3 O;cases q;obtain⟨_,oi,M,_⟩:=mem_ready.1 v.1;exact xA M f listed z (xu M v.2) v.1 (mE N A.1) (lN t f _ (by simp only[DT.depth]at hd;omega) (z.add v.1) O A.2 hl D)
    ·cases q
   ·cases q
  ·cases q
 | .two i t j u,0,listed,s,h,l,B,C,hd,_,_,_,_,_=>by simp[DT.depth]at hd
 | .two i t j u,f+1,listed,s,h,l,B,C,hd,z,q,A,hl,D=>by
  simp only[runT]at q;split at q
  ·rename_i v;simp only[beq_iff_eq]at v;split at q
   ·rename_i V X c1 s2 h2 c2 E I;split at q
    ·rename_i l1 Y Z l2 a4 a5 J a1;cases q;obtain⟨k1,k2⟩:=vt A.2.2;simp only[DT.depth]at hd;have hi:i∈Region.ready .any ops listed:=by rw[v];simp
     have hj:j∈Region.ready .any ops listed:=by rw[v];simp
     refine⟨fun e=>(by rw[v]at e;cases e),fun k hk=>?_⟩;rw[v]at hk;simp only[List.mem_cons,List.not_mem_nil,or_false]at hk;rcases hk with rfl | rfl
     ·exact .inl ⟨V,X,mE E A.1,lN t f _ (by omega) (z.add hi) J k1 (fun p hp=>hl p (List.mem_append_left _ hp)) (fun y h=>D y (List.mem_append_left _ h))⟩
     ·exact .inl ⟨s2,h2,mE I A.2.1,lN u f _ (by omega) (z.add hj) a1 k2 (fun p hp=>hl p (List.mem_append_right _ hp)) (fun y h=>D y (List.mem_append_right _ h))⟩
    ·cases q
   ·cases q
  ·cases q
 | .dead i,0,listed,s,h,l,B,C,hd,_,_,_,_,_=>by simp[DT.depth]at hd
 | .dead i,f+1,listed,s,h,l,B,C,hd,z,q,A,hl,D=>by
  simp only[runT]at q;split at q
  ·rename_i v;simp only[beq_iff_eq]at v;split at q
   ·rename_i y c N;cases q;refine⟨fun e=>(by rw[v]at e;cases e),fun k hk=>?_⟩;rw[v]at hk;simp only[List.mem_cons,List.not_mem_nil,or_false]at hk;subst hk;exact .inr (xW N A.1 (D y (by simp)))
   ·cases q
  ·cases q
 | .twoD i t j,0,listed,s,h,l,B,C,hd,_,_,_,_,_=>by simp[DT.depth]at hd
 | .twoD i t j,f+1,listed,s,h,l,B,C,hd,z,q,A,hl,D=>by
  simp only[runT]at q;split at q
  ·rename_i v;simp only[beq_iff_eq]at v;split at q
   ·rename_i V X c1 y c2 E I;split at q
    ·rename_i l1 Y Z J;cases q;simp only[DT.depth]at hd;have hi:i∈Region.ready .any ops listed:=by rw[v];simp
     refine⟨fun e=>(by rw[v]at e;cases e),fun k hk=>?_⟩;rw[v]at hk;simp only[List.mem_cons,List.not_mem_nil,or_false]at hk;rcases hk with rfl | rfl
     ·exact .inl ⟨V,X,mE E A.1,lN t f _ (by omega) (z.add hi) J A.2.2 hl (fun y h=>D y (List.mem_cons_of_mem _ h))⟩
     ·exact .inr (xW I A.2.1 (D y (by simp)))
    ·cases q
   ·cases q
  ·cases q
end
section
variable{P:Program}{tb:bQ}{n:NS}{Bw:Nat→Prop}{w0:cE P}{σ:St}{Q:Exit→St→Prop}
def IX(e:List G)(f:QV)(l:List (Nat×ag))(m:Qw)(nx pn:Nat)(r:Option MG):Option (List (Option (List ag×List Qz))×List Prop×QY) :=
 match r with
 | some (j,q,u)=>some (j.map (fun p=>goal e f l m ⟨p.1,p.2,nx,pn⟩),q,u)
 | none=>none
theorem qk(J:bY P tb)(hm:P.follows .mixedOrders=true)(an:An)(t:DT)(I:List (QV×QV))(k:Nat)(ys:QY){id:Nat}{ops:Array Oper}(gs:List G)(f:QV)(l:List (Nat×ag))(m:Qw)(nx pn:Nat)(cs:List Prop)
  (C:IX gs f l m (σ.nx+8*ops.size) σ.pn (runT P tb an n σ.nx ops (ry I) (rU I) (qI ops) t (Array.replicate ops.size false) σ.s σ.h)=some (List.replicate k (some (want f l m)),cs,ys)) (z:(σ.pn == pn && lh (Jf f) l m nx pn && decide (t.depth≤ops.size))=true) (hc:qj cs)
  (hq:k≠0→∀σ',Le n σ' (aA l m nx pn)→Q .normal σ') (L:∀y∈ys,∀σ',Q (.panic [{ v:=y,recovered:=false }]) σ'):W P n Bw w0 (.region id ops true) σ Q:=fun a w M=>by
 rw[Bool.and_eq_true,decide_eq_true_eq]at z;obtain⟨z,D⟩:=z;unfold IX at C;split at C
 ·rename_i ls a1 N O;simp only[Option.some.injEq,Prod.mk.injEq]at C;obtain⟨e1,rfl,rfl⟩:=C;obtain⟨ρ,φ,q1,q2,q3⟩:=M.ex;obtain⟨V,qF⟩:=q1.drew;refine wp_region_any hm ?_;have hB:=lN (P:=P) (tb:=tb) (an:=an) (n:=n) (base:=σ.nx) (ops:=ops) (F:=ry I) (W:=rU I) (QA:=fun s h=>Q .normal ⟨s,h,σ.nx+8*ops.size,σ.pn⟩) (QP:=fun y=>y∈N) t ops.size (Array.replicate ops.size false) D (fun k o hk hl=>by simp[Array.getD]at hl) O hc (fun p L=>by
   have E:goal gs f l m ⟨p.1,p.2,σ.nx+8*ops.size,σ.pn⟩∈List.replicate k (some (want f l m)):=by rw[←e1];exact List.mem_map.2 ⟨p,L,rfl⟩
   have hk:k≠0:=fun e=>by subst e;simp at E
   exact hq hk _ (vW (List.eq_of_mem_replicate E) z)) (fun y h=>h)
  refine qT (P:=P) (tb:=tb) (an:=an) (n:=n) (base:=σ.nx) (ops:=ops) (Bw:=Bw) (w0:=w0) J (fun s h a w X q=>?_) (fun y s h a w hy q=>?_) ops.size _ (by simp) ⟨ρ,φ,V,q2.mono qF (fun _ _ h=>h),fun id u hu=> .inl (q3 id u hu)⟩ hB
  ·obtain⟨A,B,Y,Z,r3⟩:=q.ex;refine⟨⟨s,h,σ.nx+8*ops.size,σ.pn⟩,⟨⟨A,B,Y,Z,fun id u hu=>?_⟩,M.pn⟩,X⟩;rcases r3 id u hu with h1 | ⟨i,j,h1,h2,h3⟩ <;> simp only <;> omega
  ·obtain⟨A,B,Y,Z,r3⟩:=q.ex;refine⟨⟨s,h,σ.nx+8*ops.size,σ.pn⟩,⟨⟨A,B,Y,Z,fun id u hu=>?_⟩,M.pn⟩,L y hy _⟩;rcases r3 id u hu with h1 | ⟨i,j,h1,h2,h3⟩ <;> simp only <;> omega
 ·cases C
end
end Go.Tv
