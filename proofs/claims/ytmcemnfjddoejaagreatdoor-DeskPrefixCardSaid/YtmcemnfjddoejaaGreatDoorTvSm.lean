/- Functions that are handed objects, or answer some. -/
import Derived.Test.YtmcemnfjddoejaaGreatDoorTvR
namespace Go.Tv
open Go Go.RowKit
def Co(h:Nat→Option Obj):List ag→List (Option Ty)→Option (List ag×hZ)
 | [],[]=>some ([],[])
 | x::c,some T::Ts=>if(cellsOf x).all ag.cell && kB T x then match F5 T h x with
  | some (y,u)=>match Co (apply u h) c Ts with
   | some (e,f)=>some (enc false T y::e,u++f)
   | none=>none
  | none=>none
  else none
 | x::c,none::Ts=>match Co h c Ts with
  | some (e,f)=>some (x::e,f)
  | none=>none
 | _,_=>none
def IC(tb:bR)(c:List ResultVar)(Ts:List (Option Ty))(hout:List (Nat×Obj))(σ:St):Option (ag×List (Option Obj)) :=
 match tv tb σ.s σ.h c with
 | some e=>match Co σ.h e Ts with
  | some (j,u)=>some (aG j,hout.map (fun p=>apply u σ.h p.1))
  | none=>none
 | none=>none
def xU(tb:bR)(n:NS)(c:List ResultVar)(r:ag)(hout:List (Nat×Obj))(e:Exit)(σ:St):Prop :=
 (e = .ret∨e = .normal)∧∃Ts σ1,Le n σ σ1∧IC tb c Ts hout σ1=some (r,hout.map (fun p=>some p.2))
def K8(tb:bR)(n:NS)(c:List ResultVar):(ag×List (Nat×Obj))⊕Value→Exit→St→Prop
 | .inl p=>xU tb n c p.1 p.2
 | .inr x=>fun e _=>e = .panic [{ v:=x,recovered:=false }]
def j8{A E:Type}(g:A→ag×List (Nat×Obj))(f:E→Value):A⊕E→(ag×List (Nat×Obj))⊕Value
 | .inl x=> .inl (g x)
 | .inr e=> .inr (f e)
def aT(t:TypeId)(c f:IntKind)(e:Int×Int):Value:= .iface t (.agg #[.int c e.1,.int f e.2])
abbrev hU(f:FuncId):Value:= .func (.func f) #[] #[]
/-! e j,for m c k. -/
abbrev ag.i64(x:Int):ag:= .p false (.int .i64) x
abbrev ag.i32(x:Int):ag:= .p false (.int .i32) x
abbrev ag.u32(x:Int):ag:= .p false (.int .u32) x
abbrev ag.u64(x:Int):ag:= .p false (.int .u64) x
abbrev ag.u8(x:Int):ag:= .p false (.int .u8) x
abbrev ag.st(x:List UInt8):ag:= .p false .str x
abbrev ag.bo(x:Bool):ag:= .p false .bool x
def rR(args:List ag)(hin:List (Nat×Obj)):St:=⟨fun t=>(args[t]?).getD .unk,fun i=>look hin i,hin.length,hin.length⟩
section
variable{P:Program}{tb:bR}{n:NS}{Bw:Nat→Prop}{w0:b9 P}{w:World}{σ:St}{ρ:Nat→Option Value}{φ:Nat→Nat→Prop}{h:Nat→Option Obj}
theorem xU.normal{e:List ResultVar}{r:ag}{hout:List (Nat×Obj)}(h:xU tb n e r hout .ret σ):∀σ',Le n σ' σ→xU tb n e r hout .normal σ':=fun _ c =>
 ⟨.inr rfl,h.2.elim fun Ts q=>q.elim fun σ1 q=>⟨Ts,σ1,c.trans q.1,q.2⟩⟩
theorem C8{e:List ResultVar}{r:ag}{hout:List (Nat×Obj)}(Ts:List (Option Ty))(j:List G)(f:List Nat)(l:List (Nat×ag))(m:List (Nat×Obj))(nx pn:Nat)
  (k:goal j f l m σ=some (want f l m)) (c:(σ.pn == pn && kA (Gt f) l m nx pn)=true) (q:IC tb e Ts hout (ay l m nx pn)=some (r,hout.map (fun p=>some p.2))):xU tb n e r hout .ret σ :=
 ⟨.inl rfl,Ts,_,vC k c,q⟩
theorem KB{F:Bool→Addr→Value→Prop}{T:Ty}{y:T.den}{x:ag}{v:Value}(p:(cellsOf x).all ag.cell=true)(m:kB T x=true)(C:V F ρ x v){F':Bool→Addr→Value→Prop}{q:Nat→Option Value}
  (z:ai (F' false) T y (fun k u=>v.cells.toList[k]? = some u)) (hl:T.size=(cellsOf x).length):V F' q (enc false T y) v:=by
 by_cases c:∃D,x = .agg D
 ·obtain⟨D,rfl⟩:=c;have j:=C;simp only[V]at j;obtain⟨E,rfl,I,J⟩:=j;have e:T.scalar=false:=by simpa [kB]using m
  simp only[enc,e];simp only[Bool.false_eq_true,if_false,V];refine⟨E,rfl,?_,jE false T y _ (ai.mono (fun _ _ h=>h) (fun k u A=>by simpa [Value.cells]using A) z)⟩;rw[dR,hl,I];rfl
 ·have f:cellsOf x=[x]:=by cases x <;> first | rfl | exact(c ⟨_,rfl⟩).elim | cases m
  have e:T.scalar=true:=by cases x <;> first | exact m | exact(c ⟨_,rfl⟩).elim | cases m
  rw[f]at p;simp only[List.all_cons,List.all_nil,Bool.and_true]at p;have B:=iE (rz p C);simp only[enc,e,if_true,V];refine⟨trivial,?_⟩;rw[B]at z;refine ai.fR (fun k u A hu=> ?_) z;rw[Ty.eS e]at A;obtain rfl:k=0:=by omega
  simp at hu;exact hu.symm
theorem qL:∀ {z:List ag} {Ts:List (Option Ty)} {h:Nat→Option Obj} {p:List ag} {k:hZ},Mem Bw w0 ρ φ h w→Co h z Ts=some (p,k) →
  Mem Bw w0 ρ φ (apply k h) w∧(∀β a v,Fr (own φ h) Bw w β a v→Fr (own φ (apply k h)) Bw w β a v)∧∀e,iA (Fr (own φ h) Bw w) ρ z e→iA (Fr (own φ (apply k h)) Bw w) ρ p e
 | [],[],h,p,k,m,c=>by
  cases c;exact⟨m,fun _ _ _ h=>h,fun _ h=>h⟩
 | x::z,some T::Ts,h,p,k,m,c=>by
  simp only[Co]at c;split at c
  ·rename_i A;split at c
   ·rename_i y u J;split at c
    ·rename_i B C D;cases c;obtain⟨L,I,M⟩:=mN m J;obtain⟨E,q,g2⟩:=qL L D;simp only[Bool.and_eq_true]at A;rw[gG];refine⟨E,fun β a v N=>q _ _ _ (I _ _ _ N),fun e j=> ?_⟩;cases e with
     | nil=>exact j.elim
     | cons v e =>
      obtain⟨O,Y,Z⟩:=fA A.1 j.1;obtain⟨R,X⟩:=M _ O;exact⟨KB A.1 A.2 j.1 (ai.mono (q false) (fun _ _ h=>h) R) X,g2 e (iA.mono I (fun _ _ h=>h) j.2)⟩
    ·cases c
   ·cases c
  ·cases c
 | x::z,none::Ts,h,p,k,m,c=>by
  simp only[Co]at c;split at c
  ·rename_i B C D;cases c;obtain⟨E,q,g2⟩:=qL m D;refine⟨E,q,fun e j=> ?_⟩;cases e with
   | nil=>exact j.elim
   | cons v e=>exact⟨V.mono q (fun _ _ h=>h) j.1,g2 e j.2⟩
  ·cases c
 | [],_::_,_,_,_,_,c=>by simp[Co]at c
 | _::_,[],_,_,_,_,c=>by simp[Co]at c
theorem Ee{α:Type}{f:Nat→α}{g:Obj→α}:∀ {l:List (Nat×Obj)},l.map (fun p=>f p.1)=l.map (fun p=>g p.2)→∀p∈l,f p.1=g p.2
 | [],_,p,c=>by cases c
 | q::l,h,p,c=>by
  simp only[List.map_cons,List.cons.injEq]at h;rcases List.mem_cons.1 c with rfl | c
  ·exact h.1
  ·exact Ee h.2 p c
theorem If{F:Bool→Addr→Value→Prop}{m:List ag}{c:List Value}(h:iA F ρ m c):V F ρ (aG m) (if h:c.toArray.size=1 then c.toArray[0]else .tuple c.toArray):=by
 have e:=(iS h).1;match m,c,h with
 | [],[],_=>simp only[aG,V];exact⟨#[],rfl,rfl,by simp only[VL]⟩
 | [y],[v],p=>exact p.1
 | y::z::m,v::q::c,p =>
  have:¬((v::q::c).toArray.size=1):=by simp
  rw[dif_neg this];simp only[aG,V];refine⟨_,rfl,by simpa using e.symm,VL.mk fun k x u=> ?_⟩;have:=(iS p).2 k;rw[u]at this;have j:k<(v::q::c).length:=by rw[←e];exact(List.getElem?_eq_some_iff.1 u).1
  rw[List.getElem?_eq_getElem j]at this;exact⟨_,by simp[j],this⟩
theorem ff.jD{f:FuncId}{fn:Func}{c:Code}(J:bS P tb)(X:P.funcs[f]? = some fn)(z:(fn.name == "runtime.NumGoroutine")=false)(hb:fn.body=some c){args:List ag}(Y:args.length≤fn.ntmps)
  {hin hout:List (Nat×Obj)} {r:ag} (h:∀Bw w0,W P fn.ntmps Bw w0 c (rR args hin) (xU tb fn.ntmps fn.results.toList r hout)):ff P f args hin r hout:=by
 refine⟨⟨fn,X,z,by rw[hb];rfl⟩,fun Bw b φ us m B p=>calls_of_wp X hb ?_⟩;obtain⟨hl,hg⟩:=iS B;have hR:R fn.ntmps Bw b (rR args hin) { tmps:=us++Array.replicate (fn.ntmps - us.size) undef,defers:=[] } b.w:=by
  refine⟨⟨b.pM,φ,m,⟨?_,rfl,fun t=> ?_⟩,fun id u hu=>p id u hu⟩,fun i u h=>p i u h⟩
  ·have:us.size=args.length:=by rw[hl,Array.length_toList]
   simp only[Array.size_append,Array.size_replicate];omega
  ·have hv:=hg t;simp only[rR];rcases Nat.lt_or_ge t us.size with q | q
   ·have e:(us++Array.replicate (fn.ntmps - us.size) undef).getD t undef=(us.toList[t]?).getD undef:=by simp[Array.getD_eq_getD_getElem?,Array.getElem?_append,q]
    rw[e];exact hv
   ·have:args[t]? = none:=List.getElem?_eq_none (by rw[hl,Array.length_toList];exact q);rw[this];simp only[Option.getD_none,V]
 refine wp_mono (h Bw b _ _ hR) fun e L w' ⟨σ',M,he,Ts,σ1,N,j⟩=> ?_
 have key:L.defers=[]∧∃v,(results fn L.tmps).run P w' = .ok v w' ∧
   ∃Z C k,Ending.returned v = .returned Z∧Mem Bw b C k (fun i=>look hout i) w'∧V (Fr (own k (fun i=>look hout i)) Bw w') C r Z:=by
  obtain⟨ρ,k,q1,q2,_⟩:=(N _ Bw b L w' M).ex;unfold IC at j;split at j
  ·rename_i xs O;split at j
   ·rename_i ys u D;simp only[Option.some.injEq,Prod.mk.injEq]at j;obtain⟨rfl,j⟩:=j;obtain⟨I,r1,r2⟩:=iD (P:=P) J q1 q2 O;obtain⟨m1,f1,g1⟩:=qL q1 D;have E:∀i o,look hout i=some o→apply u σ1.h i=some o:=fun i o e=>Ee (f:=fun i=>apply u σ1.h i) (g:=fun o=>some o) j _ (mA e)
    obtain⟨m2,f2⟩:=m1.less E;have r4:=lG (P:=P) _ fn.results w' r1;refine⟨q2.df,(if h:I.toArray.size=1 then I.toArray[0]else .tuple I.toArray),?_,_,ρ,k,rfl,m2,?_⟩
    ·unfold results;rw[Sem.run_bind];exact(congrArg (fun r=>Result.andThen r (fun a w'=>Sem.run P (pure (if h:a.size=1 then a[0]else Value.tuple a)) w')) r4).trans rfl
    ·exact If (iA.mono f2 (fun _ _ h=>h) (g1 I r2))
   ·cases j
  ·cases j
 rcases he with rfl | rfl
 ·exact key
 ·exact key
theorem jP.jD{f:FuncId}{fn:Func}{c:Code}(C:P.funcs[f]? = some fn)(k:(fn.name == "runtime.NumGoroutine")=false)(hb:fn.body=some c){args:List ag}(D:args.length≤fn.ntmps)
  {hin:List (Nat×Obj)} {x:Value} (h:∀Bw w0,W P fn.ntmps Bw w0 c (rR args hin) (fun e _=>e = .panic [{ v:=x,recovered:=false }])):jP P f args hin x:=by
 refine⟨⟨fn,C,k,by rw[hb];rfl⟩,fun Bw b φ p m z j=>calls_of_wp C hb ?_⟩;obtain⟨hl,E⟩:=iS z;have I:R fn.ntmps Bw b (rR args hin) { tmps:=p++Array.replicate (fn.ntmps - p.size) undef,defers:=[] } b.w:=by
  refine⟨⟨b.pM,φ,m,⟨?_,rfl,fun t=> ?_⟩,fun id u hu=>j id u hu⟩,fun i u h=>j i u h⟩
  ·have:p.size=args.length:=by rw[hl,Array.length_toList]
   simp only[Array.size_append,Array.size_replicate];omega
  ·have J:=E t;simp only[rR];rcases Nat.lt_or_ge t p.size with q | q
   ·have e:(p++Array.replicate (fn.ntmps - p.size) undef).getD t undef=(p.toList[t]?).getD undef:=by simp[Array.getD_eq_getD_getElem?,Array.getElem?_append,q]
    rw[e];exact J
   ·have:args[t]? = none:=List.getElem?_eq_none (by rw[hl,Array.length_toList];exact q);rw[this];simp only[Option.getD_none,V]
 refine wp_mono (h Bw b _ _ I) fun e O w' ⟨σ',A,L⟩=> ?_
 subst L;obtain⟨ρ,B,M,N,_⟩:=A.ex;exact⟨N.df,ρ,B,rfl,(M.less (fun i o e=>(by cases e))).1⟩
theorem jP.B0{f:FuncId}{fn:Func}(D:P.funcs[f]? = some fn)(j:(fn.name == "runtime.NumGoroutine")=false)(hb:fn.body.isNone=false){E:ag}{k q:Bool}{u z:IntKind}{e a:Int}{hin:List (Nat×Obj)}{x:Value}
  (h:∀v w,Calls P f #[v,.int u e,.int z a] w fun r w'=>r = .panicked [{ v:=x,recovered:=false }]∧w'=w):jP P f [E,.p k (.int u) e,.p q (.int z) a] hin x:=by
 refine⟨⟨fn,D,j,hb⟩,fun Bw b φ B m c C=> ?_⟩;match A:B.toList,c with
 | [v0,v1,N],c =>
  have I:=bV c.2.1;have J:=bV c.2.2.1;subst I J;have:B = #[v0,.int u e,.int z a]:=Array.ext' A;subst this;exact(h v0 b.w).mono fun r w' ⟨L,M⟩=>⟨b.pM,φ,L,by subst M;exact(m.less (fun i o e=>(by cases e))).1⟩
theorem iO.jD{f:FuncId}{fn:Func}{c:Code}(m:bS P tb)(q:P.funcs[f]? = some fn)(e:(fn.name == "runtime.NumGoroutine")=false)(hb:fn.body=some c){args:List ag}(j:args.length≤fn.ntmps)
  {hin:List (Nat×Obj)} {k:(ag×List (Nat×Obj))⊕Value} (h:∀Bw w0,W P fn.ntmps Bw w0 c (rR args hin) (K8 tb fn.ntmps fn.results.toList k)):iO P f args hin k:=by
 cases k with
 | inl p=>exact ff.jD m q e hb j h
 | inr x=>exact jP.jD q e hb j h
def Da{T:Type}(tb:bR)(n:NS)(c:List ResultVar)(g:T→ag×List (Nat×Obj))(v:T)(e:Exit)(σ:St):Prop:=e = .ret∧xU tb n c (g v).1 (g v).2 .ret σ
theorem zu{T:Type}{c:List ResultVar}{g:T→ag×List (Nat×Obj)}{v:T}(h:xU tb n c (g v).1 (g v).2 .ret σ):Da tb n c g v .ret σ:=⟨rfl,h⟩
end
end Go.Tv
namespace Go.Tv
open Go Go.RowKit
section
variable{P:Program}{tb:bR}{an:An}{n:NS}{base:Nat}{ops:Array Oper}{Bw:Nat→Prop}{w0:b9 P}{F W:Nat→List Nat}
theorem C1{s c:Nat→ag}{h h':Nat→Option Obj}{i:Nat}{o:Oper}(e:∀t∈o.looksAt ops,s t=c t)(f:∀i∈jM h o.op (eG s o.op),h i=h' i):
  Bm P tb an n base ops i o s h=Bm P tb an n base ops i o c h':=by
 unfold Bm;rw[yO (xJ e) f];split
 ·split
  ·rfl
  ·rename_i g j;rw[qm e j]
 ·rfl
structure IV(P:Program)(tb:bR)(an:An)(n:NS)(base:Nat)(ops:Array Oper)(F:Nat→List Nat)(QP:Value→Prop)(i:Nat)(s:Nat→ag)(h:Nat→Option Obj):Prop where
 ex:∃o u y c,ops[i]? = some o∧Bm P tb an n base ops i o s h=some (u,y,c)∧c∧(∀j∈jM h o.op (eG s o.op),j∈F i)∧QP y
def Hs(P:Program)(tb:bR)(an:An)(n:NS)(base:Nat)(ops:Array Oper)(F W:Nat→List Nat)(Q:(Nat→ag)→(Nat→Option Obj)→Prop)(e:Value→Prop):Nat→Array Bool→(Nat→ag)→(Nat→Option Obj)→Prop
 | 0,listed,s,h=>Region.ready .any ops listed=[]∧Q s h
 | c+1,listed,s,h=>(Region.ready .any ops listed=[]→Q s h) ∧
  ∀i∈Region.ready .any ops listed,(∃f h',pd P tb an n base ops F W i s h f h'∧Hs P tb an n base ops F W Q e c (listed.setIfInBounds i true) f h')∨IV P tb an n base ops F e i s h
theorem EU{I:Value→Prop}{i j:Nat}{B f:Oper}(hi:ops[i]? = some B)(J:ops[j]? = some f)(C:B.apart ops f=true)(R:Af (W i) (F j)=true)
  {s L:Nat→ag} {h m:Nat→Option Obj} (V:pd P tb an n base ops F W i s h L m) (X:IV P tb an n base ops F I j L m):IV P tb an n base ops F I j s h:=by
 obtain⟨o,x,u,c,M,e2,e3,e4,Y,rfl,rfl⟩:=V.ex;obtain⟨o',v,y,Z,N,f2,f3,O,f5⟩:=X.ex;rw[hi]at M;cases M;rw[J]at N;cases N;obtain⟨p1,p2,p3⟩:=Oper.apart_spec C;have q:∀t∈f.looksAt ops,dr s B.dst x t=s t:=fun t ht=>xH fun k z e=>by subst e;exact p1 k z ht
 have A:∀k∈jM (apply u h) f.op (eG (dr s B.dst x) f.op),apply u h k=h k:=fun k z=>fj fun p hp e=>pR R (Y p hp) (by rw[e];exact O k z)
 have g2:=C1 (P:=P) (tb:=tb) (an:=an) (n:=n) (base:=base) (i:=j) q A;rw[f2]at g2;have D:=nJ q;have E:=py A;exact⟨f,v,y,Z,J,g2.symm,f3,fun k z=>O k (by rw[E,D];exact z),f5⟩
theorem xx{Q:(Nat→ag)→(Nat→Option Obj)→Prop}{X:Value→Prop}{i:Nat}{Y:Oper}(hi:ops[i]? = some Y):∀(m:Nat) (listed:Array Bool) {s A:Nat→ag} {h p:Nat→Option Obj},
  oU ops listed→(∀j B,ops[j]? = some B→j≠i→listed.getD j true=false→((p9 ops).getD j 0).testBit i=false→tQ ops F W i j Y B=true) →
  i∈Region.ready .any ops listed→pd P tb an n base ops F W i s h A p→Hs P tb an n base ops F W Q X m (listed.setIfInBounds i true) A p→Hs P tb an n base ops F W Q X (m+1) listed s h
 | 0,listed,s,A,h,p,_,_,z,q,H=>by
  refine⟨fun e=>(by rw[e]at z;cases z),fun j C=> ?_⟩;by_cases c:j=i
  ·subst c;exact .inl ⟨A,p,q,H⟩
  ·have:=ready_mono C c;rw[H.1]at this;cases this
 | m+1,listed,s,A,h,p,D,u,z,q,H=>by
  refine⟨fun e=>(by rw[e]at z;cases z),fun j C=> ?_⟩;by_cases c:j=i
  ·subst c;exact .inl ⟨A,p,q,H⟩
  ·obtain⟨x,B,v,E⟩:=mem_ready.1 C;have I:((p9 ops).getD j 0).testBit i=false:=by
    cases hb:((p9 ops).getD j 0).testBit i with
    | false=>rfl
    | true =>
     have N:=qM D (j+1) j B (by omega) v E hb;have Z:=(mem_ready.1 z).1;rcases Nat.lt_or_ge i listed.size with h' | h'
     ·simp[h']at Z N;rw[Z]at N;cases N
     ·simp[Array.getElem?_eq_none h']at N
   have f:=u j B v c x I;simp only[tQ,Bool.and_eq_true]at f;rcases H.2 j (ready_mono C c)with⟨a1,a3,a2,H2⟩ | J
   ·obtain⟨sj,O,b1,b2⟩:=xa hi v f.1.1.1 f.1.1.2 f.1.2 f.2 q a2;refine .inl ⟨sj,O,b1,xx hi m (listed.setIfInBounds j true) (D.add C) (fun k ok hk R L V=> ?_) (ready_mono z (Ne.symm c)) b2 ?_⟩
    ·refine u k ok hk R ?_ V;by_cases M:j=k
     ·subst M;exact x
     ·rw[getD_set_ne true M]at L;exact L
    ·rw[Array.setIfInBounds_comm _ _ c];exact H2
   ·exact .inr (EU hi v f.1.1.1 f.1.1.2 q J)
theorem qx(C:bS P tb){QA:(Nat→ag)→(Nat→Option Obj)→Prop}{QP:Value→Prop}{Q:Exit→Act→World→Prop}
  (M:∀s h a w,QA s h→FZ n base Bw w0 (fun i=>i<ops.size) s h a w→Q .normal a w) (hP:∀y s h a w,QP y→FZ n base Bw w0 (fun i=>i<ops.size) s h a w→Q (.panic [{ v:=y,recovered:=false }]) a w):∀(f:Nat) (listed:Array Bool) {s:Nat→ag} {h:Nat→Option Obj} {a:Act} {w:World},listed.size=ops.size →
  FZ n base Bw w0 (fun i=>listed.getD i false=true) s h a w→Hs P tb an n base ops F W QA QP f listed s h→wpAny P .any ops Q f listed a w
 | 0,listed,s,h,a,w,m,D,H=>by
  refine⟨H.1,M s h a w H.2 ?_⟩;obtain⟨ρ,φ,p,q,z⟩:=D.ex;refine⟨ρ,φ,p,q,fun id u hu=>(z id u hu).imp (fun h=>h) fun⟨i,j,k,A⟩=>⟨i,j,?_,A⟩⟩;rcases Nat.lt_or_ge i listed.size with h' | h'
  ·omega
  ·simp[Array.getElem?_eq_none h']at k
 | f+1,listed,s,h,a,w,m,D,H=>by
  refine⟨fun e=>M s h a w (H.1 e) ?_,fun i hi=> ?_⟩
  ·obtain⟨ρ,φ,p,q,z⟩:=D.ex;refine⟨ρ,φ,p,q,fun id u hu=>(z id u hu).imp (fun h=>h) fun⟨i,j,k,A⟩=>⟨i,j,?_,A⟩⟩;rcases Nat.lt_or_ge i listed.size with h' | h'
   ·omega
   ·simp[Array.getElem?_eq_none h']at k
  ·obtain⟨E,oi,N,_⟩:=mem_ready.1 hi;have I:i<listed.size:=by rw[m];exact(Array.getElem?_eq_some_iff.1 N).1
   have J:¬(listed.getD i false=true):=fun e=>by simp[I]at E e;rw[E]at e;cases e
   rcases H.2 i hi with⟨s',h',O,H'⟩ | L
   ·obtain⟨o,x,u,c,R,V,X,e4,e5,rfl,rfl⟩:=O.ex;refine jO C D R J V X fun a' w' B=>qx C M hP f _ (by simpa using m) ?_ H'
    obtain⟨ρ,φ,p,q,z⟩:=B.ex;refine⟨ρ,φ,p,q,fun id v Y=>(z id v Y).imp (fun h=>h) fun⟨j,Z,k,A⟩=>⟨j,Z,?_,A⟩⟩;rcases k with k | rfl
    ·exact getD_set_true k
    ·simp[I]
   ·obtain⟨o,u,y,c,R,V,X,e4,e5⟩:=L.ex;refine wc D R J V X fun w' B=>hP y s (apply u h) a w' e5 ?_
    obtain⟨ρ,φ,p,q,z⟩:=B.ex;refine⟨ρ,φ,p,q,fun id v Y=>(z id v Y).imp (fun h=>h) fun⟨j,Z,k,A⟩=>⟨j,Z,?_,A⟩⟩;rcases k with k | rfl
    ·rcases Nat.lt_or_ge j listed.size with h' | h'
     ·omega
     ·simp[Array.getElem?_eq_none h']at k
    ·omega
inductive DT where
 | leaf
 | one (i:Nat) (t:DT)
 | two (i:Nat) (t:DT) (j:Nat) (u:DT)
 | dead (i:Nat)
 | twoD (i:Nat) (t:DT) (j:Nat)
def DT.depth:DT→Nat
 | .leaf=>0
 | .one _ t=>t.depth+1
 | .two _ t _ u=>max t.depth u.depth+1
 | .dead _=>1
 | .twoD _ t _=>t.depth+1
abbrev Ky:=List ((Nat→ag)×(Nat→Option Obj))×List Prop×List Value
def stepT(P:Program)(tb:bR)(an:An)(n:NS)(base:Nat)(ops:Array Oper)(F W:Nat→List Nat)(i:Nat)(s:Nat→ag)(h:Nat→Option Obj):Option ((Nat→ag)×(Nat→Option Obj)×Prop) :=
 match ops[i]? with
 | some o=>match pf P tb an n base ops i o s h with
  | some (x,u,c)=>if(jM h o.op (eG s o.op)).all (fun j=>(F i).contains j) && u.all (fun p=>(W i).contains p.1)then some (dr s o.dst x,apply u h,c)else none
  | none=>none
 | none=>none
def IL(P:Program)(tb:bR)(an:An)(n:NS)(base:Nat)(ops:Array Oper)(F:Nat→List Nat)(i:Nat)(s:Nat→ag)(h:Nat→Option Obj):Option (Value×Prop) :=
 match ops[i]? with
 | some o=>match Bm P tb an n base ops i o s h with
  | some (_,y,c)=>if(jM h o.op (eG s o.op)).all (fun j=>(F i).contains j)then some (y,c)else none
  | none=>none
 | none=>none
def runT(P:Program)(tb:bR)(an:An)(n:NS)(base:Nat)(ops:Array Oper)(F W:Nat→List Nat)(A:List Nat):DT→Array Bool→(Nat→ag)→(Nat→Option Obj)→Option Ky
 | .leaf,listed,s,h=>if(Region.ready .any ops listed).isEmpty then some ([(s,h)],[],[])else none
 | .one i t,listed,s,h=>if(Region.ready .any ops listed).contains i && Ec ops F W A listed i then match stepT P tb an n base ops F W i s h with
   | some (C,h',c)=>match runT P tb an n base ops F W A t (listed.setIfInBounds i true) C h' with
    | some (l,e,f)=>some (l,c::e,f)
    | none=>none
   | none=>none
  else none
 | .two i t j u,listed,s,h=>if Region.ready .any ops listed == [i,j]then match stepT P tb an n base ops F W i s h,stepT P tb an n base ops F W j s h with
   | some (k,m,p),some (D,E,q)=>match runT P tb an n base ops F W A t (listed.setIfInBounds i true) k m,runT P tb an n base ops F W A u (listed.setIfInBounds j true) D E with
    | some (I,v,x),some (J,z,B)=>some (I++J,p::q::(v++z),x++B)
    | _,_=>none
   | _,_=>none
  else none
 | .dead i,listed,s,h=>if Region.ready .any ops listed == [i]then match IL P tb an n base ops F i s h with
   | some (y,c)=>some ([],[c],[y])
   | none=>none
  else none
 | .twoD i t j,listed,s,h=>if Region.ready .any ops listed == [i,j]then match stepT P tb an n base ops F W i s h,IL P tb an n base ops F j s h with
   | some (k,m,p),some (y,q)=>match runT P tb an n base ops F W A t (listed.setIfInBounds i true) k m with
    | some (l,e,f)=>some (l,p::q::e,y::f)
    | none=>none
   | _,_=>none
  else none
theorem lX{i:Nat}{s j:Nat→ag}{h h':Nat→Option Obj}{c:Prop}(e:stepT P tb an n base ops F W i s h=some (j,h',c))(k:c):pd P tb an n base ops F W i s h j h':=by
 unfold stepT at e;split at e
 ·rename_i o m;split at e
  ·rename_i x u q p;split at e
   ·rename_i f;cases e;simp only[Bool.and_eq_true,List.all_eq_true,List.contains_eq_mem,decide_eq_true_eq]at f;exact⟨o,x,u,c,m,p,k,f.1,f.2,rfl,rfl⟩
   ·cases e
  ·cases e
 ·cases e
theorem xC{f:Value→Prop}{i:Nat}{s:Nat→ag}{h:Nat→Option Obj}{y:Value}{c:Prop}(e:IL P tb an n base ops F i s h=some (y,c))(k:c)(m:f y):IV P tb an n base ops F f i s h:=by
 unfold IL at e;split at e
 ·rename_i o p;split at e
  ·rename_i u v x q;split at e
   ·rename_i j;cases e;simp only[List.all_eq_true,List.contains_eq_mem,decide_eq_true_eq]at j;exact⟨o,u,y,c,p,q,k,j,m⟩
   ·cases e
  ·cases e
 ·cases e
theorem uC:∀ {a b:List Prop},oQ (a++b)→oQ a∧oQ b
 | [],_,h=>⟨trivial,h⟩
 | _::_,_,h=>let ⟨x,y⟩:=uC h.2;⟨⟨h.1,x⟩,y⟩
theorem kQ{QA:(Nat→ag)→(Nat→Option Obj)→Prop}{QP:Value→Prop}:∀(t:DT) (f:Nat) (listed:Array Bool) {s:Nat→ag} {h:Nat→Option Obj} {l:List ((Nat→ag)×(Nat→Option Obj))} {A:List Prop} {B:List Value},t.depth≤f→oU ops listed →
  runT P tb an n base ops F W (p9 ops) t listed s h=some (l,A,B)→oQ A→(∀p∈l,QA p.1 p.2)→(∀y∈B,QP y)→Hs P tb an n base ops F W QA QP f listed s h
 | .leaf,f,listed,s,h,l,A,B,_,_,m,_,hl,_=>by
  simp only[runT]at m;split at m
  ·rename_i he;cases m;have L:Region.ready .any ops listed=[]:=by simpa using he
   have:=hl (s,h) (by simp);cases f with
   | zero=>exact⟨L,this⟩
   | succ f=>exact⟨fun _=>this,fun i hi=>by rw[L]at hi;cases hi⟩
  ·cases m
 | .one i t,0,listed,s,h,l,A,B,x,_,_,_,_,_=>by simp[DT.depth]at x
 | .one i t,f+1,listed,s,h,l,A,B,x,v,m,z,hl,D=>by
  simp only[runT]at m;split at m
  ·rename_i q;simp only[Bool.and_eq_true,List.contains_eq_mem,decide_eq_true_eq]at q;split at m
   ·rename_i s' h' c N;split at m
    ·rename_i l' a1 a2 O;cases m;obtain⟨_,oi,M,_⟩:=mem_ready.1 q.1;exact xx M f listed v (wV M q.2) q.1 (lX N z.1) (kQ t f _ (by simp only[DT.depth]at x;omega) (v.add q.1) O z.2 hl D)
    ·cases m
   ·cases m
  ·cases m
 | .two i t j u,0,listed,s,h,l,A,B,x,_,_,_,_,_=>by simp[DT.depth]at x
 | .two i t j u,f+1,listed,s,h,l,A,B,x,v,m,z,hl,D=>by
  simp only[runT]at m;split at m
  ·rename_i q;simp only[beq_iff_eq]at q;split at m
   ·rename_i R V c1 s2 h2 c2 E I;split at m
    ·rename_i l1 X Y l2 a3 a4 J Z;cases m;obtain⟨k1,k2⟩:=uC z.2.2;simp only[DT.depth]at x;have hi:i∈Region.ready .any ops listed:=by rw[q];simp
     have hj:j∈Region.ready .any ops listed:=by rw[q];simp
     refine⟨fun e=>(by rw[q]at e;cases e),fun k C=> ?_⟩;rw[q]at C;simp only[List.mem_cons,List.not_mem_nil,or_false]at C;rcases C with rfl | rfl
     ·exact .inl ⟨R,V,lX E z.1,kQ t f _ (by omega) (v.add hi) J k1 (fun p hp=>hl p (List.mem_append_left _ hp)) (fun y h=>D y (List.mem_append_left _ h))⟩
     ·exact .inl ⟨s2,h2,lX I z.2.1,kQ u f _ (by omega) (v.add hj) Z k2 (fun p hp=>hl p (List.mem_append_right _ hp)) (fun y h=>D y (List.mem_append_right _ h))⟩
    ·cases m
   ·cases m
  ·cases m
 | .dead i,0,listed,s,h,l,A,B,x,_,_,_,_,_=>by simp[DT.depth]at x
 | .dead i,f+1,listed,s,h,l,A,B,x,v,m,z,hl,D=>by
  simp only[runT]at m;split at m
  ·rename_i q;simp only[beq_iff_eq]at q;split at m
   ·rename_i y c N;cases m;refine⟨fun e=>(by rw[q]at e;cases e),fun k C=> ?_⟩;rw[q]at C;simp only[List.mem_cons,List.not_mem_nil,or_false]at C;subst C;exact .inr (xC N z.1 (D y (by simp)))
   ·cases m
  ·cases m
 | .twoD i t j,0,listed,s,h,l,A,B,x,_,_,_,_,_=>by simp[DT.depth]at x
 | .twoD i t j,f+1,listed,s,h,l,A,B,x,v,m,z,hl,D=>by
  simp only[runT]at m;split at m
  ·rename_i q;simp only[beq_iff_eq]at q;split at m
   ·rename_i R V c1 y c2 E I;split at m
    ·rename_i l1 X Y J;cases m;simp only[DT.depth]at x;have hi:i∈Region.ready .any ops listed:=by rw[q];simp
     refine⟨fun e=>(by rw[q]at e;cases e),fun k C=> ?_⟩;rw[q]at C;simp only[List.mem_cons,List.not_mem_nil,or_false]at C;rcases C with rfl | rfl
     ·exact .inl ⟨R,V,lX E z.1,kQ t f _ (by omega) (v.add hi) J z.2.2 hl (fun y h=>D y (List.mem_cons_of_mem _ h))⟩
     ·exact .inr (xC I z.2.1 (D y (by simp)))
    ·cases m
   ·cases m
  ·cases m
end
section
variable{P:Program}{tb:bR}{n:NS}{Bw:Nat→Prop}{w0:b9 P}{σ:St}{Q:Exit→St→Prop}
def Hf(c:List G)(f:List Nat)(l:List (Nat×ag))(m:List (Nat×Obj))(nx pn:Nat)(r:Option Ky):Option (List (Option (List ag×List (Option Obj)))×List Prop×List Value) :=
 match r with
 | some (e,j,k)=>some (e.map (fun p=>goal c f l m ⟨p.1,p.2,nx,pn⟩),j,k)
 | none=>none
theorem pH(E:bS P tb)(hm:P.follows .mixedOrders=true)(an:An)(t:DT)(D:List (List Nat×List Nat))(k:Nat)(Z:List Value){id:Nat}{ops:Array Oper}(gs:List G)(f:List Nat)(l:List (Nat×ag))(m:List (Nat×Obj))(nx pn:Nat)(cs:List Prop)
  (A:Hf gs f l m (σ.nx+8*ops.size) σ.pn (runT P tb an n σ.nx ops (qQ D) (qI D) (p9 ops) t (Array.replicate ops.size false) σ.s σ.h)=some (List.replicate k (some (want f l m)),cs,Z)) (q:(σ.pn == pn && kA (Gt f) l m nx pn && decide (t.depth≤ops.size))=true) (hc:oQ cs)
  (hq:k≠0→∀σ',Le n σ' (ay l m nx pn)→Q .normal σ') (I:∀y∈Z,∀σ',Q (.panic [{ v:=y,recovered:=false }]) σ'):W P n Bw w0 (.region id ops true) σ Q:=fun a w J=>by
 rw[Bool.and_eq_true,decide_eq_true_eq]at q;obtain⟨q,B⟩:=q;unfold Hf at A;split at A
 ·rename_i ls a1 L M;simp only[Option.some.injEq,Prod.mk.injEq]at A;obtain⟨e1,rfl,rfl⟩:=A;obtain⟨ρ,φ,q1,q2,q3⟩:=J.ex;obtain⟨N,qF⟩:=q1.drew;refine wp_region_any hm ?_;have hB:=kQ (P:=P) (tb:=tb) (an:=an) (n:=n) (base:=σ.nx) (ops:=ops) (F:=qQ D) (W:=qI D) (QA:=fun s h=>Q .normal ⟨s,h,σ.nx+8*ops.size,σ.pn⟩) (QP:=fun y=>y∈L) t ops.size (Array.replicate ops.size false) B (fun k o hk hl=>by simp[Array.getD]at hl) M hc (fun p I=>by
   have C:goal gs f l m ⟨p.1,p.2,σ.nx+8*ops.size,σ.pn⟩∈List.replicate k (some (want f l m)):=by rw[←e1];exact List.mem_map.2 ⟨p,I,rfl⟩
   have hk:k≠0:=fun e=>by subst e;simp at C
   exact hq hk _ (vC (List.eq_of_mem_replicate C) q)) (fun y h=>h)
  refine qx (P:=P) (tb:=tb) (an:=an) (n:=n) (base:=σ.nx) (ops:=ops) (Bw:=Bw) (w0:=w0) E (fun s h a w O c=> ?_) (fun y s h a w hy c=> ?_) ops.size _ (by simp) ⟨ρ,φ,N,q2.mono qF (fun _ _ h=>h),fun id u hu=> .inl (q3 id u hu)⟩ hB
  ·obtain⟨x,z,R,V,X⟩:=c.ex;refine⟨⟨s,h,σ.nx+8*ops.size,σ.pn⟩,⟨⟨x,z,R,V,fun id u hu=> ?_⟩,J.pn⟩,O⟩;rcases X id u hu with Y | ⟨i,j,Y,h2,h3⟩ <;> simp only <;> omega
  ·obtain⟨x,z,R,V,X⟩:=c.ex;refine⟨⟨s,h,σ.nx+8*ops.size,σ.pn⟩,⟨⟨x,z,R,V,fun id u hu=> ?_⟩,J.pn⟩,I y hy _⟩;rcases X id u hu with Y | ⟨i,j,Y,h2,h3⟩ <;> simp only <;> omega
 ·cases A
end
end Go.Tv
