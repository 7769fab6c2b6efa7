import Derived.Test.YtobbjfkfmdiklaaGreatDoorTvR
namespace Go.Tv
open Go Go.RowKit
def AY(h:Nat→Qz):List af→List (Option Ty)→Option (List af×gZ)
 | [],[]=>some ([],[])
 | x::f,some T::Ts=>if(cellsOf x).all af.cell && kH T x then match F1 T h x with
  | some (y,u)=>match AY (apply u h) f Ts with
   | some (j,p)=>some (enc false T y::j,u++p)
   | none=>none
  | none=>none
  else none
 | x::f,none::Ts=>match AY h f Ts with
  | some (j,p)=>some (x::j,p)
  | none=>none
 | _,_=>none
def IG(tb:bQ)(j:List ResultVar)(Ts:List (Option Ty))(hout:Qk)(σ:St):Option (af×List Qz) :=
 match tp tb σ.s σ.h j with
 | some q=>match AY σ.h q Ts with
  | some (v,u)=>some (aL v,hout.map (fun p=>apply u σ.h p.1))
  | none=>none
 | none=>none
def xG(tb:bQ)(n:NS)(j:List ResultVar)(r:af)(hout:Qk)(e:Exit)(σ:St):Prop :=
 (e = .ret∨e = .normal)∧∃Ts σ1,Le n σ σ1∧IG tb j Ts hout σ1=some (r,hout.map (fun p=>some p.2))
def LC(tb:bQ)(n:NS)(f:List ResultVar):(af×Qk)⊕Value→Exit→St→Prop
 | .inl p=>xG tb n f p.1 p.2
 | .inr x=>fun e _=>e = .panic [{ v:=x,recovered:=false }]
def ky{A E:Type}(g:A→af×Qk)(f:E→Value):A⊕E→(af×Qk)⊕Value
 | .inl x=> .inl (g x)
 | .inr e=> .inr (f e)
def aY(t:TypeId)(f j:IntKind)(e:Int×Int):Value:= .iface t (.agg #[.int f e.1,.int j e.2])
abbrev yi(f:FuncId):Value:= .func (.func f) #[] #[]
/-! p q,for v j u. -/
abbrev af.i64(x:Int):af:= .p false (.int .i64) x
abbrev af.i32(x:Int):af:= .p false (.int .i32) x
abbrev af.u32(x:Int):af:= .p false (.int .u32) x
abbrev af.u64(x:Int):af:= .p false (.int .u64) x
abbrev af.u8(x:Int):af:= .p false (.int .u8) x
abbrev af.st(x:QX):af:= .p false .str x
abbrev af.bo(x:Bool):af:= .p false .bool x
def sv(args:List af)(hin:Qk):St:=⟨fun t=>(args[t]?).getD .unk,fun i=>look hin i,hin.length,hin.length⟩
section
variable{P:Program}{tb:bQ}{n:NS}{Bw:Nat→Prop}{w0:cr P}{w:World}{σ:St}{ρ:Nat→QW}{φ:Nat→Nat→Prop}{h:Nat→Qz}
theorem xG.normal{p:List ResultVar}{r:af}{hout:Qk}(h:xG tb n p r hout .ret σ):∀σ',Le n σ' σ→xG tb n p r hout .normal σ':=fun _ j =>
 ⟨.inr rfl,h.2.elim fun Ts q=>q.elim fun σ1 q=>⟨Ts,σ1,j.trans q.1,q.2⟩⟩
theorem CJ{q:List ResultVar}{r:af}{hout:Qk}(Ts:List (Option Ty))(u:List G)(f:QV)(l:List (Nat×af))(m:Qk)(nx pn:Nat)
  (h1:goal u f l m σ=some (want f l m)) (j:(σ.pn == pn && kU (H3 f) l m nx pn)=true) (h2:IG tb q Ts hout (az l m nx pn)=some (r,hout.map (fun p=>some p.2))):xG tb n q r hout .ret σ :=
 ⟨.inl rfl,Ts,_,uV h1 j,h2⟩
theorem Mc{F:Bool→Addr→Value→Prop}{T:Ty}{y:T.den}{x:af}{v:Value}(hc:(cellsOf x).all af.cell=true)(z:kH T x=true)(D:V F ρ x v){F':Bool→Addr→Value→Prop}{A:Nat→QW}
  (B:ah (F' false) T y (fun k u=>v.cells.toList[k]? = some u)) (hl:T.size=(cellsOf x).length):V F' A (enc false T y) v:=by
 by_cases f:∃E,x = .agg E
 ·obtain⟨E,rfl⟩:=f;have q:=D;simp only[V]at q;obtain⟨I,rfl,J,L⟩:=q;have j:T.scalar=false:=by simpa [kH]using z
  simp only[enc,j];simp only[Bool.false_eq_true,if_false,V];refine⟨I,rfl,?_,jN false T y _ (ah.mono (fun _ _ h=>h) (fun k u hk=>by simpa [Value.cells]using hk) B)⟩;rw[eQ,hl,J];rfl
 ·have p:cellsOf x=[x]:=by cases x <;> first | rfl | exact(f ⟨_,rfl⟩).elim | cases z
  have j:T.scalar=true:=by cases x <;> first | exact z | exact(f ⟨_,rfl⟩).elim | cases z
  rw[p]at hc;simp only[List.all_cons,List.all_nil,Bool.and_true]at hc;have C:=fM (sJ hc D);simp only[enc,j,if_true,V];refine⟨trivial,?_⟩;rw[C]at B;refine ah.gw (fun k u hk hu=>?_) B;rw[Ty.fF j]at hk;obtain rfl:k=0:=by omega
  simp at hu;exact hu.symm
theorem qB:∀ {B:List af} {Ts:List (Option Ty)} {h:Nat→Qz} {z:List af} {q:gZ},Mem Bw w0 ρ φ h w→AY h B Ts=some (z,q) →
  Mem Bw w0 ρ φ (apply q h) w∧(∀β a v,Fr (own φ h) Bw w β a v→Fr (own φ (apply q h)) Bw w β a v)∧∀j,iS (Fr (own φ h) Bw w) ρ B j→iS (Fr (own φ (apply q h)) Bw w) ρ z j
 | [],[],h,z,q,m,hd=>by
  cases hd;exact⟨m,fun _ _ _ h=>h,fun _ h=>h⟩
 | x::B,some T::Ts,h,z,q,m,hd=>by
  simp only[AY]at hd;split at hd
  ·rename_i hc;split at hd
   ·rename_i y u h1;split at hd
    ·rename_i C D h2;cases hd;obtain⟨J,I,L⟩:=m6 m h1;obtain⟨E,A,g2⟩:=qB J h2;simp only[Bool.and_eq_true]at hc;rw[eU];refine⟨E,fun β a v M=>A _ _ _ (I _ _ _ M),fun j p=>?_⟩;cases j with
     | nil=>exact p.elim
     | cons v j =>
      obtain⟨N,Y,Z⟩:=fV hc.1 p.1;obtain⟨O,X⟩:=L _ N;exact⟨Mc hc.1 hc.2 p.1 (ah.mono (A false) (fun _ _ h=>h) O) X,g2 j (iS.mono I (fun _ _ h=>h) p.2)⟩
    ·cases hd
   ·cases hd
  ·cases hd
 | x::B,none::Ts,h,z,q,m,hd=>by
  simp only[AY]at hd;split at hd
  ·rename_i C D h2;cases hd;obtain⟨E,A,g2⟩:=qB m h2;refine⟨E,A,fun j p=>?_⟩;cases j with
   | nil=>exact p.elim
   | cons v j=>exact⟨V.mono A (fun _ _ h=>h) p.1,g2 j p.2⟩
  ·cases hd
 | [],_::_,_,_,_,_,hd=>by simp[AY]at hd
 | _::_,[],_,_,_,_,hd=>by simp[AY]at hd
theorem Em{α:Type}{f:Nat→α}{g:Obj→α}:∀ {l:Qk},l.map (fun p=>f p.1)=l.map (fun p=>g p.2)→∀p∈l,f p.1=g p.2
 | [],_,p,hp=>by cases hp
 | q::l,h,p,hp=>by
  simp only[List.map_cons,List.cons.injEq]at h;rcases List.mem_cons.1 hp with rfl | hp
  ·exact h.1
  ·exact Em h.2 p hp
theorem Jy{F:Bool→Addr→Value→Prop}{u:List af}{j:QY}(h:iS F ρ u j):V F ρ (aL u) (if h:j.toArray.size=1 then j.toArray[0]else .tuple j.toArray):=by
 have p:=(iY h).1;match u,j,h with
 | [],[],_=>simp only[aL,V];exact⟨#[],rfl,rfl,by simp only[VL]⟩
 | [y],[v],z=>exact z.1
 | y::B::u,v::A::j,z =>
  have:¬((v::A::j).toArray.size=1):=by simp
  rw[dif_neg this];simp only[aL,V];refine⟨_,rfl,by simpa using p.symm,VL.mk fun k x hk=>?_⟩;have:=(iY z).2 k;rw[hk]at this;have q:k<(v::A::j).length:=by rw[←p];exact(List.getElem?_eq_some_iff.1 hk).1
  rw[List.getElem?_eq_getElem q]at this;exact⟨_,by simp[q],this⟩
theorem jy.jO{f:FuncId}{fn:Func}{c:Code}(M:cb P tb)(Z:P.funcs[f]? = some fn)(B:(fn.name == "runtime.NumGoroutine")=false)(hb:fn.body=some c){args:List af}(a1:args.length≤fn.ntmps)
  {hin hout:Qk} {r:af} (h:∀Bw w0,W P fn.ntmps Bw w0 c (sv args hin) (xG tb fn.ntmps fn.results.toList r hout)):jy P f args hin r hout:=by
 refine⟨⟨fn,Z,B,by rw[hb];rfl⟩,fun Bw b φ C m D z=>calls_of_wp Z hb ?_⟩;obtain⟨hl,hg⟩:=iY D;have hR:R fn.ntmps Bw b (sv args hin) { tmps:=C++Array.replicate (fn.ntmps - C.size) undef,defers:=[] } b.w:=by
  refine⟨⟨b.oX,φ,m,⟨?_,rfl,fun t=>?_⟩,fun id u hu=>z id u hu⟩,fun i u h=>z i u h⟩
  ·have:C.size=args.length:=by rw[hl,Array.length_toList]
   simp only[Array.size_append,Array.size_replicate];omega
  ·have hv:=hg t;simp only[sv];rcases Nat.lt_or_ge t C.size with q | q
   ·have e:(C++Array.replicate (fn.ntmps - C.size) undef).getD t undef=(C.toList[t]?).getD undef:=by simp[Array.getD_eq_getD_getElem?,Array.getElem?_append,q]
    rw[e];exact hv
   ·have:args[t]? = none:=List.getElem?_eq_none (by rw[hl,Array.length_toList];exact q);rw[this];simp only[Option.getD_none,V]
 refine wp_mono (h Bw b _ _ hR) fun e N w' ⟨σ',O,he,Ts,σ1,X,j⟩=>?_
 have key:N.defers=[]∧∃v,(results fn N.tmps).run P w' = .ok v w' ∧
   ∃v2 E p,Ending.returned v = .returned v2∧Mem Bw b E p (fun i=>look hout i) w'∧V (Fr (own p (fun i=>look hout i)) Bw w') E r v2:=by
  obtain⟨ρ,p,q1,q2,_⟩:=(X _ Bw b N w' O).ex;unfold IG at j;split at j
  ·rename_i xs Y;split at j
   ·rename_i ys u I;simp only[Option.some.injEq,Prod.mk.injEq]at j;obtain⟨rfl,j⟩:=j;obtain⟨L,r1,r2⟩:=iV (P:=P) M q1 q2 Y;obtain⟨m1,f1,g1⟩:=qB q1 I;have J:∀i o,look hout i=some o→apply u σ1.h i=some o:=fun i o e=>Em (f:=fun i=>apply u σ1.h i) (g:=fun o=>some o) j _ (mQ e)
    obtain⟨m2,f2⟩:=m1.less J;have r4:=lz (P:=P) _ fn.results w' r1;refine⟨q2.df,(if h:L.toArray.size=1 then L.toArray[0]else .tuple L.toArray),?_,_,ρ,p,rfl,m2,?_⟩
    ·unfold results;rw[Sem.run_bind];exact(congrArg (fun r=>Result.andThen r (fun a w'=>Sem.run P (pure (if h:a.size=1 then a[0]else Value.tuple a)) w')) r4).trans rfl
    ·exact Jy (iS.mono f2 (fun _ _ h=>h) (g1 L r2))
   ·cases j
  ·cases j
 rcases he with rfl | rfl
 ·exact key
 ·exact key
theorem jR.jO{f:FuncId}{fn:Func}{c:Code}(D:P.funcs[f]? = some fn)(p:(fn.name == "runtime.NumGoroutine")=false)(hb:fn.body=some c){args:List af}(E:args.length≤fn.ntmps)
  {hin:Qk} {x:Value} (h:∀Bw w0,W P fn.ntmps Bw w0 c (sv args hin) (fun e _=>e = .panic [{ v:=x,recovered:=false }])):jR P f args hin x:=by
 refine⟨⟨fn,D,p,by rw[hb];rfl⟩,fun Bw b φ z m A j=>calls_of_wp D hb ?_⟩;obtain⟨hl,I⟩:=iY A;have J:R fn.ntmps Bw b (sv args hin) { tmps:=z++Array.replicate (fn.ntmps - z.size) undef,defers:=[] } b.w:=by
  refine⟨⟨b.oX,φ,m,⟨?_,rfl,fun t=>?_⟩,fun id u hu=>j id u hu⟩,fun i u h=>j i u h⟩
  ·have:z.size=args.length:=by rw[hl,Array.length_toList]
   simp only[Array.size_append,Array.size_replicate];omega
  ·have L:=I t;simp only[sv];rcases Nat.lt_or_ge t z.size with q | q
   ·have e:(z++Array.replicate (fn.ntmps - z.size) undef).getD t undef=(z.toList[t]?).getD undef:=by simp[Array.getD_eq_getD_getElem?,Array.getElem?_append,q]
    rw[e];exact L
   ·have:args[t]? = none:=List.getElem?_eq_none (by rw[hl,Array.length_toList];exact q);rw[this];simp only[Option.getD_none,V]
 refine wp_mono (h Bw b _ _ J) fun e X w' ⟨σ',B,M⟩=>?_
 subst M;obtain⟨ρ,C,N,O,_⟩:=B.ex;exact⟨O.df,ρ,C,rfl,(N.less (fun i o e=>(by cases e))).1⟩
theorem jR.Cd{f:FuncId}{fn:Func}(I:P.funcs[f]? = some fn)(q:(fn.name == "runtime.NumGoroutine")=false)(hb:fn.body.isNone=false){J:af}{u z:Bool}{A B:IntKind}{e a:Int}{hin:Qk}{x:Value}
  (h:∀v w,Calls P f #[v,.int A e,.int B a] w fun r w'=>r = .panicked [{ v:=x,recovered:=false }]∧w'=w):jR P f [J,.p u (.int A) e,.p z (.int B) a] hin x:=by
 refine⟨⟨fn,I,q,hb⟩,fun Bw b φ D m j E=>?_⟩;match C:D.toList,j with
 | [v0,v1,N],j =>
  have L:=bV j.2.1;have M:=bV j.2.2.1;subst L M;have:D = #[v0,.int A e,.int B a]:=Array.ext' C;subst this;exact(h v0 b.w).mono fun r w' ⟨h1,h2⟩=>⟨b.oX,φ,h1,by subst h2;exact(m.less (fun i o e=>(by cases e))).1⟩
theorem iT.jO{f:FuncId}{fn:Func}{c:Code}(z:cb P tb)(A:P.funcs[f]? = some fn)(j:(fn.name == "runtime.NumGoroutine")=false)(hb:fn.body=some c){args:List af}(q:args.length≤fn.ntmps)
  {hin:Qk} {u:(af×Qk)⊕Value} (h:∀Bw w0,W P fn.ntmps Bw w0 c (sv args hin) (LC tb fn.ntmps fn.results.toList u)):iT P f args hin u:=by
 cases u with
 | inl p=>exact jy.jO z A j hb q h
 | inr x=>exact jR.jO A j hb q h
def Df{T:Type}(tb:bQ)(n:NS)(f:List ResultVar)(g:T→af×Qk)(v:T)(e:Exit)(σ:St):Prop:=e = .ret∧xG tb n f (g v).1 (g v).2 .ret σ
theorem yL{T:Type}{f:List ResultVar}{g:T→af×Qk}{v:T}(h:xG tb n f (g v).1 (g v).2 .ret σ):Df tb n f g v .ret σ:=⟨rfl,h⟩
end
section
variable{P:Program}{tb:bQ}{an:An}{n:NS}{base:Nat}{ops:Array Oper}{Bw:Nat→Prop}{w0:cr P}{F W:Nat→QV}
theorem C8{s f:Nat→af}{h h':Nat→Qz}{i:Nat}{o:Oper}(j:∀t∈o.looksAt ops,s t=f t)(p:∀i∈j3 h o.op (fp s o.op),h i=h' i):
  AW P tb an n base ops i o s h=AW P tb an n base ops i o f h':=by
 unfold AW;rw[yG (vQ j) p];split
 ·split
  ·rfl
  ·rename_i g q;rw[qj j q]
 ·rfl
structure IT(P:Program)(tb:bQ)(an:An)(n:NS)(base:Nat)(ops:Array Oper)(F:Nat→QV)(QP:Value→Prop)(i:Nat)(s:Nat→af)(h:Nat→Qz):Prop where
 ex:∃o u y c,ops[i]? = some o∧AW P tb an n base ops i o s h=some (u,y,c)∧c∧(∀j∈j3 h o.op (fp s o.op),j∈F i)∧QP y
def Hq(P:Program)(tb:bQ)(an:An)(n:NS)(base:Nat)(ops:Array Oper)(F W:Nat→QV)(Q:(Nat→af)→(Nat→Qz)→Prop)(j:Value→Prop):Nat→Array Bool→(Nat→af)→(Nat→Qz)→Prop
 | 0,listed,s,h=>Region.ready .any ops listed=[]∧Q s h
 | f+1,listed,s,h=>(Region.ready .any ops listed=[]→Q s h) ∧
  ∀i∈Region.ready .any ops listed,(∃p h',pk P tb an n base ops F W i s h p h'∧Hq P tb an n base ops F W Q j f (listed.setIfInBounds i true) p h')∨IT P tb an n base ops F j i s h
theorem EW{I:Value→Prop}{i j:Nat}{B f:Oper}(hi:ops[i]? = some B)(J:ops[j]? = some f)(C:B.apart ops f=true)(h1:zo (W i) (F j)=true)
  {s L:Nat→af} {h q:Nat→Qz} (V:pk P tb an n base ops F W i s h L q) (X:IT P tb an n base ops F I j L q):IT P tb an n base ops F I j s h:=by
 obtain⟨o,x,u,c,M,e2,e3,e4,Y,rfl,rfl⟩:=V.ex;obtain⟨o',v,y,c',N,Z,f3,O,f5⟩:=X.ex;rw[hi]at M;cases M;rw[J]at N;cases N;obtain⟨p1,p2,p3⟩:=Oper.apart_spec C;have z:∀t∈f.looksAt ops,kr s B.dst x t=s t:=fun t ht=>vo fun k hk e=>by subst e;exact p1 k hk ht
 have A:∀k∈j3 (apply u h) f.op (fp (kr s B.dst x) f.op),apply u h k=h k:=fun k hk=>gG fun p hp e=>pJ h1 (Y p hp) (by rw[e];exact O k hk)
 have g2:=C8 (P:=P) (tb:=tb) (an:=an) (n:=n) (base:=base) (i:=j) z A;rw[Z]at g2;have D:=nv z;have E:=pq A;exact⟨f,v,y,c',J,g2.symm,f3,fun k hk=>O k (by rw[E,D];exact hk),f5⟩
theorem wo{Q:(Nat→af)→(Nat→Qz)→Prop}{Z:Value→Prop}{i:Nat}{oi:Oper}(hi:ops[i]? = some oi):∀(q:Nat) (listed:Array Bool) {s C:Nat→af} {h u:Nat→Qz},
  py ops listed→(∀j D,ops[j]? = some D→j≠i→listed.getD j true=false→((pV ops).getD j 0).testBit i=false→tB ops F W i j oi D=true) →
  i∈Region.ready .any ops listed→pk P tb an n base ops F W i s h C u→Hq P tb an n base ops F W Q Z q (listed.setIfInBounds i true) C u→Hq P tb an n base ops F W Q Z (q+1) listed s h
 | 0,listed,s,C,h,u,_,_,B,v,H=>by
  refine⟨fun e=>(by rw[e]at B;cases B),fun j E=>?_⟩;by_cases f:j=i
  ·subst f;exact .inl ⟨C,u,v,H⟩
  ·have:=ready_mono E f;rw[H.1]at this;cases this
 | q+1,listed,s,C,h,u,I,x,B,v,H=>by
  refine⟨fun e=>(by rw[e]at B;cases B),fun j E=>?_⟩;by_cases f:j=i
  ·subst f;exact .inl ⟨C,u,v,H⟩
  ·obtain⟨A,D,z,J⟩:=mem_ready.1 E;have L:((pV ops).getD j 0).testBit i=false:=by
    cases hb:((pV ops).getD j 0).testBit i with
    | false=>rfl
    | true =>
     have h1:=qT I (j+1) j D (by omega) z J hb;have h0:=(mem_ready.1 B).1;rcases Nat.lt_or_ge i listed.size with h' | h'
     ·simp[h']at h0 h1;rw[h0]at h1;cases h1
     ·simp[Array.getElem?_eq_none h']at h1
   have p:=x j D z f A L;simp only[tB,Bool.and_eq_true]at p;rcases H.2 j (ready_mono E f)with⟨a1,a3,a2,H2⟩ | M
   ·obtain⟨sj,V,b1,b2⟩:=vv hi z p.1.1.1 p.1.1.2 p.1.2 p.2 v a2;refine .inl ⟨sj,V,b1,wo hi q (listed.setIfInBounds j true) (I.add E) (fun k ok hk X N Y=>?_) (ready_mono B (Ne.symm f)) b2 ?_⟩
    ·refine x k ok hk X ?_ Y;by_cases O:j=k
     ·subst O;exact A
     ·rw[getD_set_ne true O]at N;exact N
    ·rw[Array.setIfInBounds_comm _ _ f];exact H2
   ·exact .inr (EW hi z p.1.1.1 p.1.1.2 v M)
theorem qm(C:cb P tb){QA:(Nat→af)→(Nat→Qz)→Prop}{QP:Value→Prop}{Q:Exit→Act→World→Prop}
  (L:∀s h a w,QA s h→Fx n base Bw w0 (fun i=>i<ops.size) s h a w→Q .normal a w) (hP:∀y s h a w,QP y→Fx n base Bw w0 (fun i=>i<ops.size) s h a w→Q (.panic [{ v:=y,recovered:=false }]) a w):∀(f:Nat) (listed:Array Bool) {s:Nat→af} {h:Nat→Qz} {a:Act} {w:World},listed.size=ops.size →
  Fx n base Bw w0 (fun i=>listed.getD i false=true) s h a w→Hq P tb an n base ops F W QA QP f listed s h→wpAny P .any ops Q f listed a w
 | 0,listed,s,h,a,w,p,hm,H=>by
  refine⟨H.1,L s h a w H.2 ?_⟩;obtain⟨ρ,φ,q,z,A⟩:=hm.ex;refine⟨ρ,φ,q,z,fun id u hu=>(A id u hu).imp (fun h=>h) fun⟨i,j,h1,h2⟩=>⟨i,j,?_,h2⟩⟩;rcases Nat.lt_or_ge i listed.size with h' | h'
  ·omega
  ·simp[Array.getElem?_eq_none h']at h1
 | f+1,listed,s,h,a,w,p,hm,H=>by
  refine⟨fun e=>L s h a w (H.1 e) ?_,fun i hi=>?_⟩
  ·obtain⟨ρ,φ,q,z,A⟩:=hm.ex;refine⟨ρ,φ,q,z,fun id u hu=>(A id u hu).imp (fun h=>h) fun⟨i,j,h1,h2⟩=>⟨i,j,?_,h2⟩⟩;rcases Nat.lt_or_ge i listed.size with h' | h'
   ·omega
   ·simp[Array.getElem?_eq_none h']at h1
  ·obtain⟨D,oi,M,_⟩:=mem_ready.1 hi;have E:i<listed.size:=by rw[p];exact(Array.getElem?_eq_some_iff.1 M).1
   have I:¬(listed.getD i false=true):=fun e=>by simp[E]at D e;rw[D]at e;cases e
   rcases H.2 i hi with⟨s',h',N,H'⟩ | J
   ·obtain⟨o,x,u,c,O,V,X,e4,e5,rfl,rfl⟩:=N.ex;refine ke C hm O I V X fun a' w' B=>qm C L hP f _ (by simpa using p) ?_ H'
    obtain⟨ρ,φ,q,z,A⟩:=B.ex;refine⟨ρ,φ,q,z,fun id v Y=>(A id v Y).imp (fun h=>h) fun⟨j,Z,h1,h2⟩=>⟨j,Z,?_,h2⟩⟩;rcases h1 with h1 | rfl
    ·exact getD_set_true h1
    ·simp[E]
   ·obtain⟨o,u,y,c,O,V,X,e4,e5⟩:=J.ex;refine vA hm O I V X fun w' B=>hP y s (apply u h) a w' e5 ?_
    obtain⟨ρ,φ,q,z,A⟩:=B.ex;refine⟨ρ,φ,q,z,fun id v Y=>(A id v Y).imp (fun h=>h) fun⟨j,Z,h1,h2⟩=>⟨j,Z,?_,h2⟩⟩;rcases h1 with h1 | rfl
    ·rcases Nat.lt_or_ge j listed.size with h' | h'
     ·omega
     ·simp[Array.getElem?_eq_none h']at h1
    ·omega
inductive DT where
 | leaf
 | one (i:Nat) (t:DT)
 | two (i:Nat) (t:DT) (j:Nat) (u:DT)
 | dead (i:Nat)
 | twoD (i:Nat) (t:DT) (j:Nat)
def DT.depth:DT→Nat
 | .leaf=>0
 | .one _ t=>t.depth+1
 | .two _ t _ u=>max t.depth u.depth+1
 | .dead _=>1
 | .twoD _ t _=>t.depth+1
abbrev LN:=List ((Nat→af)×(Nat→Qz))×List Prop×QY
def stepT(P:Program)(tb:bQ)(an:An)(n:NS)(base:Nat)(ops:Array Oper)(F W:Nat→QV)(i:Nat)(s:Nat→af)(h:Nat→Qz):Option ((Nat→af)×(Nat→Qz)×Prop) :=
 match ops[i]? with
 | some o=>match pB P tb an n base ops i o s h with
  | some (x,u,c)=>if(j3 h o.op (fp s o.op)).all (fun j=>(F i).contains j) && u.all (fun p=>(W i).contains p.1)then some (kr s o.dst x,apply u h,c)else none
  | none=>none
 | none=>none
def Ju(P:Program)(tb:bQ)(an:An)(n:NS)(base:Nat)(ops:Array Oper)(F:Nat→QV)(i:Nat)(s:Nat→af)(h:Nat→Qz):Option (Value×Prop) :=
 match ops[i]? with
 | some o=>match AW P tb an n base ops i o s h with
  | some (_,y,c)=>if(j3 h o.op (fp s o.op)).all (fun j=>(F i).contains j)then some (y,c)else none
  | none=>none
 | none=>none
def runT(P:Program)(tb:bQ)(an:An)(n:NS)(base:Nat)(ops:Array Oper)(F W:Nat→QV)(A:QV):DT→Array Bool→(Nat→af)→(Nat→Qz)→Option LN
 | .leaf,listed,s,h=>if(Region.ready .any ops listed).isEmpty then some ([(s,h)],[],[])else none
 | .one i t,listed,s,h=>if(Region.ready .any ops listed).contains i && D5 ops F W A listed i then match stepT P tb an n base ops F W i s h with
   | some (E,h',c)=>match runT P tb an n base ops F W A t (listed.setIfInBounds i true) E h' with
    | some (l,f,p)=>some (l,c::f,p)
    | none=>none
   | none=>none
  else none
 | .two i t j u,listed,s,h=>if Region.ready .any ops listed == [i,j]then match stepT P tb an n base ops F W i s h,stepT P tb an n base ops F W j s h with
   | some (q,h1,v),some (I,h2,x)=>match runT P tb an n base ops F W A t (listed.setIfInBounds i true) q h1,runT P tb an n base ops F W A u (listed.setIfInBounds j true) I h2 with
    | some (J,z,B),some (L,C,D)=>some (J++L,v::x::(z++C),B++D)
    | _,_=>none
   | _,_=>none
  else none
 | .dead i,listed,s,h=>if Region.ready .any ops listed == [i]then match Ju P tb an n base ops F i s h with
   | some (y,c)=>some ([],[c],[y])
   | none=>none
  else none
 | .twoD i t j,listed,s,h=>if Region.ready .any ops listed == [i,j]then match stepT P tb an n base ops F W i s h,Ju P tb an n base ops F j s h with
   | some (q,h1,v),some (y,x)=>match runT P tb an n base ops F W A t (listed.setIfInBounds i true) q h1 with
    | some (l,f,p)=>some (l,v::x::f,y::p)
    | none=>none
   | _,_=>none
  else none
theorem mf{i:Nat}{s p:Nat→af}{h h':Nat→Qz}{c:Prop}(f:stepT P tb an n base ops F W i s h=some (p,h',c))(hc:c):pk P tb an n base ops F W i s h p h':=by
 unfold stepT at f;split at f
 ·rename_i o ho;split at f
  ·rename_i x u c' q;split at f
   ·rename_i j;cases f;simp only[Bool.and_eq_true,List.all_eq_true,List.contains_eq_mem,decide_eq_true_eq]at j;exact⟨o,x,u,c,ho,q,hc,j.1,j.2,rfl,rfl⟩
   ·cases f
  ·cases f
 ·cases f
theorem we{j:Value→Prop}{i:Nat}{s:Nat→af}{h:Nat→Qz}{y:Value}{c:Prop}(f:Ju P tb an n base ops F i s h=some (y,c))(hc:c)(q:j y):IT P tb an n base ops F j i s h:=by
 unfold Ju at f;split at f
 ·rename_i o ho;split at f
  ·rename_i u x c' v;split at f
   ·rename_i p;cases f;simp only[List.all_eq_true,List.contains_eq_mem,decide_eq_true_eq]at p;exact⟨o,u,y,c,ho,v,hc,p,q⟩
   ·cases f
  ·cases f
 ·cases f
theorem ua:∀ {a b:List Prop},pj (a++b)→pj a∧pj b
 | [],_,h=>⟨trivial,h⟩
 | _::_,_,h=>let ⟨x,y⟩:=ua h.2;⟨⟨h.1,x⟩,y⟩
theorem lF{QA:(Nat→af)→(Nat→Qz)→Prop}{QP:Value→Prop}:∀(t:DT) (f:Nat) (listed:Array Bool) {s:Nat→af} {h:Nat→Qz} {l:List ((Nat→af)×(Nat→Qz))} {z:List Prop} {A:QY},t.depth≤f→py ops listed →
  runT P tb an n base ops F W (pV ops) t listed s h=some (l,z,A)→pj z→(∀p∈l,QA p.1 p.2)→(∀y∈A,QP y)→Hq P tb an n base ops F W QA QP f listed s h
 | .leaf,f,listed,s,h,l,z,A,_,_,q,_,hl,_=>by
  simp only[runT]at q;split at q
  ·rename_i Y;cases q;have I:Region.ready .any ops listed=[]:=by simpa using Y
   have:=hl (s,h) (by simp);cases f with
   | zero=>exact⟨I,this⟩
   | succ f=>exact⟨fun _=>this,fun i hi=>by rw[I]at hi;cases hi⟩
  ·cases q
 | .one i t,0,listed,s,h,l,z,A,hd,_,_,_,_,_=>by simp[DT.depth]at hd
 | .one i t,f+1,listed,s,h,l,z,A,hd,x,q,hc,hl,B=>by
  simp only[runT]at q;split at q
  ·rename_i v;simp only[Bool.and_eq_true,List.contains_eq_mem,decide_eq_true_eq]at v;split at q
   ·rename_i s' h' c L;split at q
    ·rename_i l' Z a1 M;cases q;obtain⟨_,oi,J,_⟩:=mem_ready.1 v.1;exact wo J f listed x (vI J v.2) v.1 (mf L hc.1) (lF t f _ (by simp only[DT.depth]at hd;omega) (x.add v.1) M hc.2 hl B)
    ·cases q
   ·cases q
  ·cases q
 | .two i t j u,0,listed,s,h,l,z,A,hd,_,_,_,_,_=>by simp[DT.depth]at hd
 | .two i t j u,f+1,listed,s,h,l,z,A,hd,x,q,hc,hl,B=>by
  simp only[runT]at q;split at q
  ·rename_i v;simp only[beq_iff_eq]at v;split at q
   ·rename_i N h1 c1 s2 h2 c2 C D;split at q
    ·rename_i l1 O V l2 a2 a3 E X;cases q;obtain⟨k1,k2⟩:=ua hc.2.2;simp only[DT.depth]at hd;have hi:i∈Region.ready .any ops listed:=by rw[v];simp
     have hj:j∈Region.ready .any ops listed:=by rw[v];simp
     refine⟨fun e=>(by rw[v]at e;cases e),fun k hk=>?_⟩;rw[v]at hk;simp only[List.mem_cons,List.not_mem_nil,or_false]at hk;rcases hk with rfl | rfl
     ·exact .inl ⟨N,h1,mf C hc.1,lF t f _ (by omega) (x.add hi) E k1 (fun p hp=>hl p (List.mem_append_left _ hp)) (fun y h=>B y (List.mem_append_left _ h))⟩
     ·exact .inl ⟨s2,h2,mf D hc.2.1,lF u f _ (by omega) (x.add hj) X k2 (fun p hp=>hl p (List.mem_append_right _ hp)) (fun y h=>B y (List.mem_append_right _ h))⟩
    ·cases q
   ·cases q
  ·cases q
 | .dead i,0,listed,s,h,l,z,A,hd,_,_,_,_,_=>by simp[DT.depth]at hd
 | .dead i,f+1,listed,s,h,l,z,A,hd,x,q,hc,hl,B=>by
  simp only[runT]at q;split at q
  ·rename_i v;simp only[beq_iff_eq]at v;split at q
   ·rename_i y c L;cases q;refine⟨fun e=>(by rw[v]at e;cases e),fun k hk=>?_⟩;rw[v]at hk;simp only[List.mem_cons,List.not_mem_nil,or_false]at hk;subst hk;exact .inr (we L hc.1 (B y (by simp)))
   ·cases q
  ·cases q
 | .twoD i t j,0,listed,s,h,l,z,A,hd,_,_,_,_,_=>by simp[DT.depth]at hd
 | .twoD i t j,f+1,listed,s,h,l,z,A,hd,x,q,hc,hl,B=>by
  simp only[runT]at q;split at q
  ·rename_i v;simp only[beq_iff_eq]at v;split at q
   ·rename_i N h1 c1 y c2 C D;split at q
    ·rename_i l1 O V E;cases q;simp only[DT.depth]at hd;have hi:i∈Region.ready .any ops listed:=by rw[v];simp
     refine⟨fun e=>(by rw[v]at e;cases e),fun k hk=>?_⟩;rw[v]at hk;simp only[List.mem_cons,List.not_mem_nil,or_false]at hk;rcases hk with rfl | rfl
     ·exact .inl ⟨N,h1,mf C hc.1,lF t f _ (by omega) (x.add hi) E hc.2.2 hl (fun y h=>B y (List.mem_cons_of_mem _ h))⟩
     ·exact .inr (we D hc.2.1 (B y (by simp)))
    ·cases q
   ·cases q
  ·cases q
end
section
variable{P:Program}{tb:bQ}{n:NS}{Bw:Nat→Prop}{w0:cr P}{σ:St}{Q:Exit→St→Prop}
def Hi(j:List G)(f:QV)(l:List (Nat×af))(m:Qk)(nx pn:Nat)(r:Option LN):Option (List (Option (List af×List Qz))×List Prop×QY) :=
 match r with
 | some (q,u,v)=>some (q.map (fun p=>goal j f l m ⟨p.1,p.2,nx,pn⟩),u,v)
 | none=>none
theorem oI(I:cb P tb)(hm:P.follows .mixedOrders=true)(an:An)(t:DT)(E:List (QV×QV))(k:Nat)(Z:QY){id:Nat}{ops:Array Oper}(gs:List G)(f:QV)(l:List (Nat×af))(m:Qk)(nx pn:Nat)(cs:List Prop)
  (B:Hi gs f l m (σ.nx+8*ops.size) σ.pn (runT P tb an n σ.nx ops (qG E) (qy E) (pV ops) t (Array.replicate ops.size false) σ.s σ.h)=some (List.replicate k (some (want f l m)),cs,Z)) (x:(σ.pn == pn && kU (H3 f) l m nx pn && decide (t.depth≤ops.size))=true) (hc:pj cs)
  (hq:k≠0→∀σ',Le n σ' (az l m nx pn)→Q .normal σ') (hp:∀y∈Z,∀σ',Q (.panic [{ v:=y,recovered:=false }]) σ'):W P n Bw w0 (.region id ops true) σ Q:=fun a w J=>by
 rw[Bool.and_eq_true,decide_eq_true_eq]at x;obtain⟨x,C⟩:=x;unfold Hi at B;split at B
 ·rename_i ls a1 L M;simp only[Option.some.injEq,Prod.mk.injEq]at B;obtain⟨e1,rfl,rfl⟩:=B;obtain⟨ρ,φ,q1,q2,q3⟩:=J.ex;obtain⟨N,qF⟩:=q1.drew;refine wp_region_any hm ?_;have hB:=lF (P:=P) (tb:=tb) (an:=an) (n:=n) (base:=σ.nx) (ops:=ops) (F:=qG E) (W:=qy E) (QA:=fun s h=>Q .normal ⟨s,h,σ.nx+8*ops.size,σ.pn⟩) (QP:=fun y=>y∈L) t ops.size (Array.replicate ops.size false) C (fun k o hk hl=>by simp[Array.getD]at hl) M hc (fun p hp=>by
   have D:goal gs f l m ⟨p.1,p.2,σ.nx+8*ops.size,σ.pn⟩∈List.replicate k (some (want f l m)):=by rw[←e1];exact List.mem_map.2 ⟨p,hp,rfl⟩
   have hk:k≠0:=fun e=>by subst e;simp at D
   exact hq hk _ (uV (List.eq_of_mem_replicate D) x)) (fun y h=>h)
  refine qm (P:=P) (tb:=tb) (an:=an) (n:=n) (base:=σ.nx) (ops:=ops) (Bw:=Bw) (w0:=w0) I (fun s h a w O q=>?_) (fun y s h a w hy q=>?_) ops.size _ (by simp) ⟨ρ,φ,N,q2.mono qF (fun _ _ h=>h),fun id u hu=> .inl (q3 id u hu)⟩ hB
  ·obtain⟨z,A,V,X,Y⟩:=q.ex;refine⟨⟨s,h,σ.nx+8*ops.size,σ.pn⟩,⟨⟨z,A,V,X,fun id u hu=>?_⟩,J.pn⟩,O⟩;rcases Y id u hu with h1 | ⟨i,j,h1,h2,h3⟩ <;> simp only <;> omega
  ·obtain⟨z,A,V,X,Y⟩:=q.ex;refine⟨⟨s,h,σ.nx+8*ops.size,σ.pn⟩,⟨⟨z,A,V,X,fun id u hu=>?_⟩,J.pn⟩,hp y hy _⟩;rcases Y id u hu with h1 | ⟨i,j,h1,h2,h3⟩ <;> simp only <;> omega
 ·cases B
end
end Go.Tv
