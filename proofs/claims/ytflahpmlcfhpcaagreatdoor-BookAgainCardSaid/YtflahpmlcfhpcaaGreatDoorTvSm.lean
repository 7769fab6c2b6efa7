import Derived.Test.YtflahpmlcfhpcaaGreatDoorTvR
namespace Go.Tv
open Go Go.RowKit
def zS(h:Nat→Qz):List ag→List (Option Ty)→Option (List ag×gZ)
 | [],[]=>some ([],[])
 | x::e,some T::Ts=>if(cellsOf x).all ag.cell && kz T x then match Fa T h x with
  | some (y,u)=>match zS (apply u h) e Ts with
   | some (f,j)=>some (enc false T y::f,u++j)
   | none=>none
  | none=>none
  else none
 | x::e,none::Ts=>match zS h e Ts with
  | some (f,j)=>some (x::f,j)
  | none=>none
 | _,_=>none
def Iz(tb:bU)(e:List ResultVar)(Ts:List (Option Ty))(hout:Qw)(σ:St):Option (ag×List Qz) :=
 match sN tb σ.s σ.h e with
 | some j=>match zS σ.h j Ts with
  | some (q,u)=>some (aM q,hout.map (fun p=>apply u σ.h p.1))
  | none=>none
 | none=>none
def xy(tb:bU)(n:NS)(j:List ResultVar)(r:ag)(hout:Qw)(e:Exit)(σ:St):Prop :=
 (e = .ret∨e = .normal)∧∃Ts σ1,Le n σ σ1∧Iz tb j Ts hout σ1=some (r,hout.map (fun p=>some p.2))
def La(tb:bU)(n:NS)(f:List ResultVar):(ag×Qw)⊕Value→Exit→St→Prop
 | .inl p=>xy tb n f p.1 p.2
 | .inr x=>fun e _=>e = .panic [{ v:=x,recovered:=false }]
def jZ{A E:Type}(g:A→ag×Qw)(f:E→Value):A⊕E→(ag×Qw)⊕Value
 | .inl x=> .inl (g x)
 | .inr e=> .inr (f e)
def aY(t:TypeId)(f j:IntKind)(e:Int×Int):Value:= .iface t (.agg #[.int f e.1,.int j e.2])
abbrev yk(f:FuncId):Value:= .func (.func f) #[] #[]
/-! j p,for u e q. -/
abbrev ag.i64(x:Int):ag:= .p false (.int .i64) x
abbrev ag.i32(x:Int):ag:= .p false (.int .i32) x
abbrev ag.u32(x:Int):ag:= .p false (.int .u32) x
abbrev ag.u64(x:Int):ag:= .p false (.int .u64) x
abbrev ag.u8(x:Int):ag:= .p false (.int .u8) x
abbrev ag.st(x:QX):ag:= .p false .str x
abbrev ag.bo(x:Bool):ag:= .p false .bool x
def qH(args:List ag)(hin:Qw):St:=⟨fun t=>(args[t]?).getD .unk,fun i=>look hin i,hin.length,hin.length⟩
section
variable{P:Program}{tb:bU}{n:NS}{Bw:Nat→Prop}{w0:cw P}{w:World}{σ:St}{ρ:Nat→QW}{φ:Nat→Nat→Prop}{h:Nat→Qz}
theorem xy.normal{j:List ResultVar}{r:ag}{hout:Qw}(h:xy tb n j r hout .ret σ):∀σ',Le n σ' σ→xy tb n j r hout .normal σ':=fun _ e =>
 ⟨.inr rfl,h.2.elim fun Ts q=>q.elim fun σ1 q=>⟨Ts,σ1,e.trans q.1,q.2⟩⟩
theorem BX{j:List ResultVar}{r:ag}{hout:Qw}(Ts:List (Option Ty))(q:List G)(f:QV)(l:List (Nat×ag))(m:Qw)(nx pn:Nat)
  (u:goal q f l m σ=some (want f l m)) (e:(σ.pn == pn && kG (GL f) l m nx pn)=true) (v:Iz tb j Ts hout (aA l m nx pn)=some (r,hout.map (fun p=>some p.2))):xy tb n j r hout .ret σ :=
 ⟨.inl rfl,Ts,_,uy u e,v⟩
theorem KC{F:Bool→Addr→Value→Prop}{T:Ty}{y:T.den}{x:ag}{v:Value}(hc:(cellsOf x).all ag.cell=true)(q:kz T x=true)(C:V F ρ x v){F':Bool→Addr→Value→Prop}{z:Nat→QW}
  (A:ah (F' false) T y (fun k u=>v.cells.toList[k]? = some u)) (hl:T.size=(cellsOf x).length):V F' z (enc false T y) v:=by
 by_cases e:∃D,x = .agg D
 ·obtain⟨D,rfl⟩:=e;have p:=C;simp only[V]at p;obtain⟨E,rfl,I,J⟩:=p;have f:T.scalar=false:=by simpa [kz]using q
  simp only[enc,f];simp only[Bool.false_eq_true,if_false,V];refine⟨E,rfl,?_,jB false T y _ (ah.mono (fun _ _ h=>h) (fun k u hk=>by simpa [Value.cells]using hk) A)⟩;rw[eW,hl,I];rfl
 ·have j:cellsOf x=[x]:=by cases x <;> first | rfl | exact(e ⟨_,rfl⟩).elim | cases q
  have f:T.scalar=true:=by cases x <;> first | exact q | exact(e ⟨_,rfl⟩).elim | cases q
  rw[j]at hc;simp only[List.all_cons,List.all_nil,Bool.and_true]at hc;have B:=fF (qV hc C);simp only[enc,f,if_true,V];refine⟨trivial,?_⟩;rw[B]at A;refine ah.gD (fun k u hk hu=>?_) A;rw[Ty.fD f]at hk;obtain rfl:k=0:=by omega
  simp at hu;exact hu.symm
theorem p9:∀ {A:List ag} {Ts:List (Option Ty)} {h:Nat→Qz} {q:List ag} {p:gZ},Mem Bw w0 ρ φ h w→zS h A Ts=some (q,p) →
  Mem Bw w0 ρ φ (apply p h) w∧(∀β a v,Fr (own φ h) Bw w β a v→Fr (own φ (apply p h)) Bw w β a v)∧∀e,iL (Fr (own φ h) Bw w) ρ A e→iL (Fr (own φ (apply p h)) Bw w) ρ q e
 | [],[],h,q,p,m,hd=>by
  cases hd;exact⟨m,fun _ _ _ h=>h,fun _ h=>h⟩
 | x::A,some T::Ts,h,q,p,m,hd=>by
  simp only[zS]at hd;split at hd
  ·rename_i hc;split at hd
   ·rename_i y u J;split at hd
    ·rename_i B C D;cases hd;obtain⟨L,I,M⟩:=mI m J;obtain⟨E,z,g2⟩:=p9 L D;simp only[Bool.and_eq_true]at hc;rw[eU];refine⟨E,fun β a v N=>z _ _ _ (I _ _ _ N),fun e j=>?_⟩;cases e with
     | nil=>exact j.elim
     | cons v e =>
      obtain⟨O,Z,r3⟩:=fW hc.1 j.1;obtain⟨X,Y⟩:=M _ O;exact⟨KC hc.1 hc.2 j.1 (ah.mono (z false) (fun _ _ h=>h) X) Y,g2 e (iL.mono I (fun _ _ h=>h) j.2)⟩
    ·cases hd
   ·cases hd
  ·cases hd
 | x::A,none::Ts,h,q,p,m,hd=>by
  simp only[zS]at hd;split at hd
  ·rename_i B C D;cases hd;obtain⟨E,z,g2⟩:=p9 m D;refine⟨E,z,fun e j=>?_⟩;cases e with
   | nil=>exact j.elim
   | cons v e=>exact⟨V.mono z (fun _ _ h=>h) j.1,g2 e j.2⟩
  ·cases hd
 | [],_::_,_,_,_,_,hd=>by simp[zS]at hd
 | _::_,[],_,_,_,_,hd=>by simp[zS]at hd
theorem Dj{α:Type}{f:Nat→α}{g:Obj→α}:∀ {l:Qw},l.map (fun p=>f p.1)=l.map (fun p=>g p.2)→∀p∈l,f p.1=g p.2
 | [],_,p,e=>by cases e
 | q::l,h,p,e=>by
  simp only[List.map_cons,List.cons.injEq]at h;rcases List.mem_cons.1 e with rfl | e
  ·exact h.1
  ·exact Dj h.2 p e
theorem HW{F:Bool→Addr→Value→Prop}{q:List ag}{e:QY}(h:iL F ρ q e):V F ρ (aM q) (if h:e.toArray.size=1 then e.toArray[0]else .tuple e.toArray):=by
 have j:=(je h).1;match q,e,h with
 | [],[],_=>simp only[aM,V];exact⟨#[],rfl,rfl,by simp only[VL]⟩
 | [y],[v],u=>exact u.1
 | y::A::q,v::z::e,u =>
  have:¬((v::z::e).toArray.size=1):=by simp
  rw[dif_neg this];simp only[aM,V];refine⟨_,rfl,by simpa using j.symm,VL.mk fun k x hk=>?_⟩;have:=(je u).2 k;rw[hk]at this;have p:k<(v::z::e).length:=by rw[←j];exact(List.getElem?_eq_some_iff.1 hk).1
  rw[List.getElem?_eq_getElem p]at this;exact⟨_,by simp[p],this⟩
theorem hY.jC{f:FuncId}{fn:Func}{c:Code}(M:cg P tb)(Z:P.funcs[f]? = some fn)(B:(fn.name == "runtime.NumGoroutine")=false)(hb:fn.body=some c){args:List ag}(a1:args.length≤fn.ntmps)
  {hin hout:Qw} {r:ag} (h:∀Bw w0,W P fn.ntmps Bw w0 c (qH args hin) (xy tb fn.ntmps fn.results.toList r hout)):hY P f args hin r hout:=by
 refine⟨⟨fn,Z,B,by rw[hb];rfl⟩,fun Bw b φ C m D z=>calls_of_wp Z hb ?_⟩;obtain⟨hl,hg⟩:=je D;have hR:R fn.ntmps Bw b (qH args hin) { tmps:=C++Array.replicate (fn.ntmps - C.size) undef,defers:=[] } b.w:=by
  refine⟨⟨b.pc,φ,m,⟨?_,rfl,fun t=>?_⟩,fun id u hu=>z id u hu⟩,fun i u h=>z i u h⟩
  ·have:C.size=args.length:=by rw[hl,Array.length_toList]
   simp only[Array.size_append,Array.size_replicate];omega
  ·have hv:=hg t;simp only[qH];rcases Nat.lt_or_ge t C.size with q | q
   ·have e:(C++Array.replicate (fn.ntmps - C.size) undef).getD t undef=(C.toList[t]?).getD undef:=by simp[Array.getD_eq_getD_getElem?,Array.getElem?_append,q]
    rw[e];exact hv
   ·have:args[t]? = none:=List.getElem?_eq_none (by rw[hl,Array.length_toList];exact q);rw[this];simp only[Option.getD_none,V]
 refine wp_mono (h Bw b _ _ hR) fun e N w' ⟨σ',O,he,Ts,σ1,X,j⟩=>?_
 have key:N.defers=[]∧∃v,(results fn N.tmps).run P w' = .ok v w' ∧
   ∃v2 E p,Ending.returned v = .returned v2∧Mem Bw b E p (fun i=>look hout i) w'∧V (Fr (own p (fun i=>look hout i)) Bw w') E r v2:=by
  obtain⟨ρ,p,q1,q2,_⟩:=(X _ Bw b N w' O).ex;unfold Iz at j;split at j
  ·rename_i xs Y;split at j
   ·rename_i ys u I;simp only[Option.some.injEq,Prod.mk.injEq]at j;obtain⟨rfl,j⟩:=j;obtain⟨L,r1,r2⟩:=iN (P:=P) M q1 q2 Y;obtain⟨m1,f1,g1⟩:=p9 q1 I;have J:∀i o,look hout i=some o→apply u σ1.h i=some o:=fun i o e=>Dj (f:=fun i=>apply u σ1.h i) (g:=fun o=>some o) j _ (mW e)
    obtain⟨m2,f2⟩:=m1.less J;have r4:=kZ (P:=P) _ fn.results w' r1;refine⟨q2.df,(if h:L.toArray.size=1 then L.toArray[0]else .tuple L.toArray),?_,_,ρ,p,rfl,m2,?_⟩
    ·unfold results;rw[Sem.run_bind];exact(congrArg (fun r=>Result.andThen r (fun a w'=>Sem.run P (pure (if h:a.size=1 then a[0]else Value.tuple a)) w')) r4).trans rfl
    ·exact HW (iL.mono f2 (fun _ _ h=>h) (g1 L r2))
   ·cases j
  ·cases j
 rcases he with rfl | rfl
 ·exact key
 ·exact key
theorem jK.jC{f:FuncId}{fn:Func}{c:Code}(D:P.funcs[f]? = some fn)(p:(fn.name == "runtime.NumGoroutine")=false)(hb:fn.body=some c){args:List ag}(E:args.length≤fn.ntmps)
  {hin:Qw} {x:Value} (h:∀Bw w0,W P fn.ntmps Bw w0 c (qH args hin) (fun e _=>e = .panic [{ v:=x,recovered:=false }])):jK P f args hin x:=by
 refine⟨⟨fn,D,p,by rw[hb];rfl⟩,fun Bw b φ z m A j=>calls_of_wp D hb ?_⟩;obtain⟨hl,I⟩:=je A;have J:R fn.ntmps Bw b (qH args hin) { tmps:=z++Array.replicate (fn.ntmps - z.size) undef,defers:=[] } b.w:=by
  refine⟨⟨b.pc,φ,m,⟨?_,rfl,fun t=>?_⟩,fun id u hu=>j id u hu⟩,fun i u h=>j i u h⟩
  ·have:z.size=args.length:=by rw[hl,Array.length_toList]
   simp only[Array.size_append,Array.size_replicate];omega
  ·have L:=I t;simp only[qH];rcases Nat.lt_or_ge t z.size with q | q
   ·have e:(z++Array.replicate (fn.ntmps - z.size) undef).getD t undef=(z.toList[t]?).getD undef:=by simp[Array.getD_eq_getD_getElem?,Array.getElem?_append,q]
    rw[e];exact L
   ·have:args[t]? = none:=List.getElem?_eq_none (by rw[hl,Array.length_toList];exact q);rw[this];simp only[Option.getD_none,V]
 refine wp_mono (h Bw b _ _ J) fun e X w' ⟨σ',B,M⟩=>?_
 subst M;obtain⟨ρ,C,N,O,_⟩:=B.ex;exact⟨O.df,ρ,C,rfl,(N.less (fun i o e=>(by cases e))).1⟩
theorem jK.Bc{f:FuncId}{fn:Func}(I:P.funcs[f]? = some fn)(q:(fn.name == "runtime.NumGoroutine")=false)(hb:fn.body.isNone=false){J:ag}{u z:Bool}{A B:IntKind}{e a:Int}{hin:Qw}{x:Value}
  (h:∀v w,Calls P f #[v,.int A e,.int B a] w fun r w'=>r = .panicked [{ v:=x,recovered:=false }]∧w'=w):jK P f [J,.p u (.int A) e,.p z (.int B) a] hin x:=by
 refine⟨⟨fn,I,q,hb⟩,fun Bw b φ D m j E=>?_⟩;match C:D.toList,j with
 | [v0,v1,V],j =>
  have L:=bX j.2.1;have M:=bX j.2.2.1;subst L M;have:D = #[v0,.int A e,.int B a]:=Array.ext' C;subst this;exact(h v0 b.w).mono fun r w' ⟨N,O⟩=>⟨b.pc,φ,N,by subst O;exact(m.less (fun i o e=>(by cases e))).1⟩
theorem iQ.jC{f:FuncId}{fn:Func}{c:Code}(u:cg P tb)(z:P.funcs[f]? = some fn)(e:(fn.name == "runtime.NumGoroutine")=false)(hb:fn.body=some c){args:List ag}(j:args.length≤fn.ntmps)
  {hin:Qw} {q:(ag×Qw)⊕Value} (h:∀Bw w0,W P fn.ntmps Bw w0 c (qH args hin) (La tb fn.ntmps fn.results.toList q)):iQ P f args hin q:=by
 cases q with
 | inl p=>exact hY.jC u z e hb j h
 | inr x=>exact jK.jC z e hb j h
def Co{T:Type}(tb:bU)(n:NS)(f:List ResultVar)(g:T→ag×Qw)(v:T)(e:Exit)(σ:St):Prop:=e = .ret∧xy tb n f (g v).1 (g v).2 .ret σ
theorem xZ{T:Type}{e:List ResultVar}{g:T→ag×Qw}{v:T}(h:xy tb n e (g v).1 (g v).2 .ret σ):Co tb n e g v .ret σ:=⟨rfl,h⟩
end
section
variable{P:Program}{tb:bU}{an:An}{n:NS}{base:Nat}{ops:Array Oper}{Bw:Nat→Prop}{w0:cw P}{F W:Nat→QV}
theorem Ct{s e:Nat→ag}{h h':Nat→Qz}{i:Nat}{o:Oper}(f:∀t∈o.looksAt ops,s t=e t)(j:∀i∈jF h o.op (fp s o.op),h i=h' i):
  Ae P tb an n base ops i o s h=Ae P tb an n base ops i o e h':=by
 unfold Ae;rw[yc (wA f) j];split
 ·split
  ·rfl
  ·rename_i g p;rw[pY f p]
 ·rfl
structure HR(P:Program)(tb:bU)(an:An)(n:NS)(base:Nat)(ops:Array Oper)(F:Nat→QV)(QP:Value→Prop)(i:Nat)(s:Nat→ag)(h:Nat→Qz):Prop where
 ex:∃o u y c,ops[i]? = some o∧Ae P tb an n base ops i o s h=some (u,y,c)∧c∧(∀j∈jF h o.op (fp s o.op),j∈F i)∧QP y
def FD(P:Program)(tb:bU)(an:An)(n:NS)(base:Nat)(ops:Array Oper)(F W:Nat→QV)(Q:(Nat→ag)→(Nat→Qz)→Prop)(f:Value→Prop):Nat→Array Bool→(Nat→ag)→(Nat→Qz)→Prop
 | 0,listed,s,h=>Region.ready .any ops listed=[]∧Q s h
 | e+1,listed,s,h=>(Region.ready .any ops listed=[]→Q s h) ∧
  ∀i∈Region.ready .any ops listed,(∃j h',o5 P tb an n base ops F W i s h j h'∧FD P tb an n base ops F W Q f e (listed.setIfInBounds i true) j h')∨HR P tb an n base ops F f i s h
theorem Ez{I:Value→Prop}{i j:Nat}{B f:Oper}(hi:ops[i]? = some B)(J:ops[j]? = some f)(C:B.apart ops f=true)(V:yO (W i) (F j)=true)
  {s L:Nat→ag} {h q:Nat→Qz} (X:o5 P tb an n base ops F W i s h L q) (Y:HR P tb an n base ops F I j L q):HR P tb an n base ops F I j s h:=by
 obtain⟨o,x,u,c,M,e2,e3,e4,Z,rfl,rfl⟩:=X.ex;obtain⟨o',v,y,c',N,f2,f3,O,f5⟩:=Y.ex;rw[hi]at M;cases M;rw[J]at N;cases N;obtain⟨p1,p2,p3⟩:=Oper.apart_spec C;have z:∀t∈f.looksAt ops,ke s B.dst x t=s t:=fun t ht=>wm fun k hk e=>by subst e;exact p1 k hk ht
 have A:∀k∈jF (apply u h) f.op (fp (ke s B.dst x) f.op),apply u h k=h k:=fun k hk=>gK fun p hp e=>pr V (Z p hp) (by rw[e];exact O k hk)
 have g2:=Ct (P:=P) (tb:=tb) (an:=an) (n:=n) (base:=base) (i:=j) z A;rw[f2]at g2;have D:=nB z;have E:=om A;exact⟨f,v,y,c',J,g2.symm,f3,fun k hk=>O k (by rw[E,D];exact hk),f5⟩
theorem wj{Q:(Nat→ag)→(Nat→Qz)→Prop}{QP:Value→Prop}{i:Nat}{oi:Oper}(hi:ops[i]? = some oi):∀(q:Nat) (listed:Array Bool) {s C:Nat→ag} {h u:Nat→Qz},
  pg ops listed→(∀j D,ops[j]? = some D→j≠i→listed.getD j true=false→((pD ops).getD j 0).testBit i=false→sA ops F W i j oi D=true) →
  i∈Region.ready .any ops listed→o5 P tb an n base ops F W i s h C u→FD P tb an n base ops F W Q QP q (listed.setIfInBounds i true) C u→FD P tb an n base ops F W Q QP (q+1) listed s h
 | 0,listed,s,C,h,u,_,_,B,v,H=>by
  refine⟨fun e=>(by rw[e]at B;cases B),fun j E=>?_⟩;by_cases f:j=i
  ·subst f;exact .inl ⟨C,u,v,H⟩
  ·have:=ready_mono E f;rw[H.1]at this;cases this
 | q+1,listed,s,C,h,u,I,x,B,v,H=>by
  refine⟨fun e=>(by rw[e]at B;cases B),fun j E=>?_⟩;by_cases f:j=i
  ·subst f;exact .inl ⟨C,u,v,H⟩
  ·obtain⟨A,D,z,J⟩:=mem_ready.1 E;have L:((pD ops).getD j 0).testBit i=false:=by
    cases hb:((pD ops).getD j 0).testBit i with
    | false=>rfl
    | true =>
     have V:=p8 I (j+1) j D (by omega) z J hb;have h0:=(mem_ready.1 B).1;rcases Nat.lt_or_ge i listed.size with h' | h'
     ·simp[h']at h0 V;rw[h0]at V;cases V
     ·simp[Array.getElem?_eq_none h']at V
   have p:=x j D z f A L;simp only[sA,Bool.and_eq_true]at p;rcases H.2 j (ready_mono E f)with⟨a1,a3,a2,H2⟩ | M
   ·obtain⟨sj,X,b1,b2⟩:=u5 hi z p.1.1.1 p.1.1.2 p.1.2 p.2 v a2;refine .inl ⟨sj,X,b1,wj hi q (listed.setIfInBounds j true) (I.add E) (fun k ok hk Y N Z=>?_) (ready_mono B (Ne.symm f)) b2 ?_⟩
    ·refine x k ok hk Y ?_ Z;by_cases O:j=k
     ·subst O;exact A
     ·rw[getD_set_ne true O]at N;exact N
    ·rw[Array.setIfInBounds_comm _ _ f];exact H2
   ·exact .inr (Ez hi z p.1.1.1 p.1.1.2 v M)
theorem pT(E:cg P tb){QA:(Nat→ag)→(Nat→Qz)→Prop}{QP:Value→Prop}{Q:Exit→Act→World→Prop}
  (O:∀s h a w,QA s h→E3 n base Bw w0 (fun i=>i<ops.size) s h a w→Q .normal a w) (hP:∀y s h a w,QP y→E3 n base Bw w0 (fun i=>i<ops.size) s h a w→Q (.panic [{ v:=y,recovered:=false }]) a w):∀(f:Nat) (listed:Array Bool) {s:Nat→ag} {h:Nat→Qz} {a:Act} {w:World},listed.size=ops.size →
  E3 n base Bw w0 (fun i=>listed.getD i false=true) s h a w→FD P tb an n base ops F W QA QP f listed s h→wpAny P .any ops Q f listed a w
 | 0,listed,s,h,a,w,q,I,H=>by
  refine⟨H.1,O s h a w H.2 ?_⟩;obtain⟨ρ,φ,z,A,B⟩:=I.ex;refine⟨ρ,φ,z,A,fun id u hu=>(B id u hu).imp (fun h=>h) fun⟨i,j,p,C⟩=>⟨i,j,?_,C⟩⟩;rcases Nat.lt_or_ge i listed.size with h' | h'
  ·omega
  ·simp[Array.getElem?_eq_none h']at p
 | f+1,listed,s,h,a,w,q,I,H=>by
  refine⟨fun e=>O s h a w (H.1 e) ?_,fun i hi=>?_⟩
  ·obtain⟨ρ,φ,z,A,B⟩:=I.ex;refine⟨ρ,φ,z,A,fun id u hu=>(B id u hu).imp (fun h=>h) fun⟨i,j,p,C⟩=>⟨i,j,?_,C⟩⟩;rcases Nat.lt_or_ge i listed.size with h' | h'
   ·omega
   ·simp[Array.getElem?_eq_none h']at p
  ·obtain⟨J,oi,V,_⟩:=mem_ready.1 hi;have L:i<listed.size:=by rw[q];exact(Array.getElem?_eq_some_iff.1 V).1
   have M:¬(listed.getD i false=true):=fun e=>by simp[L]at J e;rw[J]at e;cases e
   rcases H.2 i hi with⟨s',h',X,H'⟩ | N
   ·obtain⟨o,x,u,c,Y,Z,e3,e4,e5,rfl,rfl⟩:=X.ex;refine jR E I Y M Z e3 fun a' w' D=>pT E O hP f _ (by simpa using q) ?_ H'
    obtain⟨ρ,φ,z,A,B⟩:=D.ex;refine⟨ρ,φ,z,A,fun id v hv=>(B id v hv).imp (fun h=>h) fun⟨j,j',p,C⟩=>⟨j,j',?_,C⟩⟩;rcases p with p | rfl
    ·exact getD_set_true p
    ·simp[L]
   ·obtain⟨o,u,y,c,Y,Z,e3,e4,e5⟩:=N.ex;refine vP I Y M Z e3 fun w' D=>hP y s (apply u h) a w' e5 ?_
    obtain⟨ρ,φ,z,A,B⟩:=D.ex;refine⟨ρ,φ,z,A,fun id v hv=>(B id v hv).imp (fun h=>h) fun⟨j,j',p,C⟩=>⟨j,j',?_,C⟩⟩;rcases p with p | rfl
    ·rcases Nat.lt_or_ge j listed.size with h' | h'
     ·omega
     ·simp[Array.getElem?_eq_none h']at p
    ·omega
inductive DT where
 | leaf
 | one (i:Nat) (t:DT)
 | two (i:Nat) (t:DT) (j:Nat) (u:DT)
 | dead (i:Nat)
 | twoD (i:Nat) (t:DT) (j:Nat)
def DT.depth:DT→Nat
 | .leaf=>0
 | .one _ t=>t.depth+1
 | .two _ t _ u=>max t.depth u.depth+1
 | .dead _=>1
 | .twoD _ t _=>t.depth+1
abbrev K3:=List ((Nat→ag)×(Nat→Qz))×List Prop×QY
def stepT(P:Program)(tb:bU)(an:An)(n:NS)(base:Nat)(ops:Array Oper)(F W:Nat→QV)(i:Nat)(s:Nat→ag)(h:Nat→Qz):Option ((Nat→ag)×(Nat→Qz)×Prop) :=
 match ops[i]? with
 | some o=>match oo P tb an n base ops i o s h with
  | some (x,u,c)=>if(jF h o.op (fp s o.op)).all (fun j=>(F i).contains j) && u.all (fun p=>(W i).contains p.1)then some (ke s o.dst x,apply u h,c)else none
  | none=>none
 | none=>none
def Ib(P:Program)(tb:bU)(an:An)(n:NS)(base:Nat)(ops:Array Oper)(F:Nat→QV)(i:Nat)(s:Nat→ag)(h:Nat→Qz):Option (Value×Prop) :=
 match ops[i]? with
 | some o=>match Ae P tb an n base ops i o s h with
  | some (_,y,c)=>if(jF h o.op (fp s o.op)).all (fun j=>(F i).contains j)then some (y,c)else none
  | none=>none
 | none=>none
def runT(P:Program)(tb:bU)(an:An)(n:NS)(base:Nat)(ops:Array Oper)(F W:Nat→QV)(A:QV):DT→Array Bool→(Nat→ag)→(Nat→Qz)→Option K3
 | .leaf,listed,s,h=>if(Region.ready .any ops listed).isEmpty then some ([(s,h)],[],[])else none
 | .one i t,listed,s,h=>if(Region.ready .any ops listed).contains i && Dn ops F W A listed i then match stepT P tb an n base ops F W i s h with
   | some (E,h',c)=>match runT P tb an n base ops F W A t (listed.setIfInBounds i true) E h' with
    | some (l,e,f)=>some (l,c::e,f)
    | none=>none
   | none=>none
  else none
 | .two i t j u,listed,s,h=>if Region.ready .any ops listed == [i,j]then match stepT P tb an n base ops F W i s h,stepT P tb an n base ops F W j s h with
   | some (p,q,v),some (I,J,x)=>match runT P tb an n base ops F W A t (listed.setIfInBounds i true) p q,runT P tb an n base ops F W A u (listed.setIfInBounds j true) I J with
    | some (L,z,B),some (M,C,D)=>some (L++M,v::x::(z++C),B++D)
    | _,_=>none
   | _,_=>none
  else none
 | .dead i,listed,s,h=>if Region.ready .any ops listed == [i]then match Ib P tb an n base ops F i s h with
   | some (y,c)=>some ([],[c],[y])
   | none=>none
  else none
 | .twoD i t j,listed,s,h=>if Region.ready .any ops listed == [i,j]then match stepT P tb an n base ops F W i s h,Ib P tb an n base ops F j s h with
   | some (p,q,v),some (y,x)=>match runT P tb an n base ops F W A t (listed.setIfInBounds i true) p q with
    | some (l,e,f)=>some (l,v::x::e,y::f)
    | none=>none
   | _,_=>none
  else none
theorem ma{i:Nat}{s j:Nat→ag}{h h':Nat→Qz}{c:Prop}(e:stepT P tb an n base ops F W i s h=some (j,h',c))(hc:c):o5 P tb an n base ops F W i s h j h':=by
 unfold stepT at e;split at e
 ·rename_i o p;split at e
  ·rename_i x u v q;split at e
   ·rename_i f;cases e;simp only[Bool.and_eq_true,List.all_eq_true,List.contains_eq_mem,decide_eq_true_eq]at f;exact⟨o,x,u,c,p,q,hc,f.1,f.2,rfl,rfl⟩
   ·cases e
  ·cases e
 ·cases e
theorem u4{f:Value→Prop}{i:Nat}{s:Nat→ag}{h:Nat→Qz}{y:Value}{c:Prop}(e:Ib P tb an n base ops F i s h=some (y,c))(hc:c)(p:f y):HR P tb an n base ops F f i s h:=by
 unfold Ib at e;split at e
 ·rename_i o q;split at e
  ·rename_i u x z v;split at e
   ·rename_i j;cases e;simp only[List.all_eq_true,List.contains_eq_mem,decide_eq_true_eq]at j;exact⟨o,u,y,c,q,v,hc,j,p⟩
   ·cases e
  ·cases e
 ·cases e
theorem tK:∀ {a b:List Prop},oU (a++b)→oU a∧oU b
 | [],_,h=>⟨trivial,h⟩
 | _::_,_,h=>let ⟨x,y⟩:=tK h.2;⟨⟨h.1,x⟩,y⟩
theorem lB{QA:(Nat→ag)→(Nat→Qz)→Prop}{QP:Value→Prop}:∀(t:DT) (f:Nat) (listed:Array Bool) {s:Nat→ag} {h:Nat→Qz} {l:List ((Nat→ag)×(Nat→Qz))} {z:List Prop} {A:QY},t.depth≤f→pg ops listed →
  runT P tb an n base ops F W (pD ops) t listed s h=some (l,z,A)→oU z→(∀p∈l,QA p.1 p.2)→(∀y∈A,QP y)→FD P tb an n base ops F W QA QP f listed s h
 | .leaf,f,listed,s,h,l,z,A,_,_,q,_,hl,_=>by
  simp only[runT]at q;split at q
  ·rename_i he;cases q;have I:Region.ready .any ops listed=[]:=by simpa using he
   have:=hl (s,h) (by simp);cases f with
   | zero=>exact⟨I,this⟩
   | succ f=>exact⟨fun _=>this,fun i hi=>by rw[I]at hi;cases hi⟩
  ·cases q
 | .one i t,0,listed,s,h,l,z,A,hd,_,_,_,_,_=>by simp[DT.depth]at hd
 | .one i t,f+1,listed,s,h,l,z,A,hd,x,q,hc,hl,B=>by
  simp only[runT]at q;split at q
  ·rename_i v;simp only[Bool.and_eq_true,List.contains_eq_mem,decide_eq_true_eq]at v;split at q
   ·rename_i s' h' c L;split at q
    ·rename_i l' a1 a2 M;cases q;obtain⟨_,oi,J,_⟩:=mem_ready.1 v.1;exact wj J f listed x (uZ J v.2) v.1 (ma L hc.1) (lB t f _ (by simp only[DT.depth]at hd;omega) (x.add v.1) M hc.2 hl B)
    ·cases q
   ·cases q
  ·cases q
 | .two i t j u,0,listed,s,h,l,z,A,hd,_,_,_,_,_=>by simp[DT.depth]at hd
 | .two i t j u,f+1,listed,s,h,l,z,A,hd,x,q,hc,hl,B=>by
  simp only[runT]at q;split at q
  ·rename_i v;simp only[beq_iff_eq]at v;split at q
   ·rename_i N O c1 s2 h2 c2 C D;split at q
    ·rename_i l1 V X l2 a3 a4 E Y;cases q;obtain⟨k1,k2⟩:=tK hc.2.2;simp only[DT.depth]at hd;have hi:i∈Region.ready .any ops listed:=by rw[v];simp
     have hj:j∈Region.ready .any ops listed:=by rw[v];simp
     refine⟨fun e=>(by rw[v]at e;cases e),fun k hk=>?_⟩;rw[v]at hk;simp only[List.mem_cons,List.not_mem_nil,or_false]at hk;rcases hk with rfl | rfl
     ·exact .inl ⟨N,O,ma C hc.1,lB t f _ (by omega) (x.add hi) E k1 (fun p Z=>hl p (List.mem_append_left _ Z)) (fun y h=>B y (List.mem_append_left _ h))⟩
     ·exact .inl ⟨s2,h2,ma D hc.2.1,lB u f _ (by omega) (x.add hj) Y k2 (fun p Z=>hl p (List.mem_append_right _ Z)) (fun y h=>B y (List.mem_append_right _ h))⟩
    ·cases q
   ·cases q
  ·cases q
 | .dead i,0,listed,s,h,l,z,A,hd,_,_,_,_,_=>by simp[DT.depth]at hd
 | .dead i,f+1,listed,s,h,l,z,A,hd,x,q,hc,hl,B=>by
  simp only[runT]at q;split at q
  ·rename_i v;simp only[beq_iff_eq]at v;split at q
   ·rename_i y c L;cases q;refine⟨fun e=>(by rw[v]at e;cases e),fun k hk=>?_⟩;rw[v]at hk;simp only[List.mem_cons,List.not_mem_nil,or_false]at hk;subst hk;exact .inr (u4 L hc.1 (B y (by simp)))
   ·cases q
  ·cases q
 | .twoD i t j,0,listed,s,h,l,z,A,hd,_,_,_,_,_=>by simp[DT.depth]at hd
 | .twoD i t j,f+1,listed,s,h,l,z,A,hd,x,q,hc,hl,B=>by
  simp only[runT]at q;split at q
  ·rename_i v;simp only[beq_iff_eq]at v;split at q
   ·rename_i N O c1 y c2 C D;split at q
    ·rename_i l1 V X E;cases q;simp only[DT.depth]at hd;have hi:i∈Region.ready .any ops listed:=by rw[v];simp
     refine⟨fun e=>(by rw[v]at e;cases e),fun k hk=>?_⟩;rw[v]at hk;simp only[List.mem_cons,List.not_mem_nil,or_false]at hk;rcases hk with rfl | rfl
     ·exact .inl ⟨N,O,ma C hc.1,lB t f _ (by omega) (x.add hi) E hc.2.2 hl (fun y h=>B y (List.mem_cons_of_mem _ h))⟩
     ·exact .inr (u4 D hc.2.1 (B y (by simp)))
    ·cases q
   ·cases q
  ·cases q
end
section
variable{P:Program}{tb:bU}{n:NS}{Bw:Nat→Prop}{w0:cw P}{σ:St}{Q:Exit→St→Prop}
def G6(e:List G)(f:QV)(l:List (Nat×ag))(m:Qw)(nx pn:Nat)(r:Option K3):Option (List (Option (List ag×List Qz))×List Prop×QY) :=
 match r with
 | some (j,q,u)=>some (j.map (fun p=>goal e f l m ⟨p.1,p.2,nx,pn⟩),q,u)
 | none=>none
theorem ox(I:cg P tb)(hm:P.follows .mixedOrders=true)(an:An)(t:DT)(E:List (QV×QV))(k:Nat)(ys:QY){id:Nat}{ops:Array Oper}(gs:List G)(f:QV)(l:List (Nat×ag))(m:Qw)(nx pn:Nat)(cs:List Prop)
  (B:G6 gs f l m (σ.nx+8*ops.size) σ.pn (runT P tb an n σ.nx ops (qn E) (qa E) (pD ops) t (Array.replicate ops.size false) σ.s σ.h)=some (List.replicate k (some (want f l m)),cs,ys)) (x:(σ.pn == pn && kG (GL f) l m nx pn && decide (t.depth≤ops.size))=true) (hc:oU cs)
  (hq:k≠0→∀σ',Le n σ' (aA l m nx pn)→Q .normal σ') (J:∀y∈ys,∀σ',Q (.panic [{ v:=y,recovered:=false }]) σ'):W P n Bw w0 (.region id ops true) σ Q:=fun a w L=>by
 rw[Bool.and_eq_true,decide_eq_true_eq]at x;obtain⟨x,C⟩:=x;unfold G6 at B;split at B
 ·rename_i ls a1 M N;simp only[Option.some.injEq,Prod.mk.injEq]at B;obtain⟨e1,rfl,rfl⟩:=B;obtain⟨ρ,φ,q1,q2,q3⟩:=L.ex;obtain⟨O,qF⟩:=q1.drew;refine wp_region_any hm ?_;have hB:=lB (P:=P) (tb:=tb) (an:=an) (n:=n) (base:=σ.nx) (ops:=ops) (F:=qn E) (W:=qa E) (QA:=fun s h=>Q .normal ⟨s,h,σ.nx+8*ops.size,σ.pn⟩) (QP:=fun y=>y∈M) t ops.size (Array.replicate ops.size false) C (fun k o hk hl=>by simp[Array.getD]at hl) N hc (fun p J=>by
   have D:goal gs f l m ⟨p.1,p.2,σ.nx+8*ops.size,σ.pn⟩∈List.replicate k (some (want f l m)):=by rw[←e1];exact List.mem_map.2 ⟨p,J,rfl⟩
   have hk:k≠0:=fun e=>by subst e;simp at D
   exact hq hk _ (uy (List.eq_of_mem_replicate D) x)) (fun y h=>h)
  refine pT (P:=P) (tb:=tb) (an:=an) (n:=n) (base:=σ.nx) (ops:=ops) (Bw:=Bw) (w0:=w0) I (fun s h a w V q=>?_) (fun y s h a w hy q=>?_) ops.size _ (by simp) ⟨ρ,φ,O,q2.mono qF (fun _ _ h=>h),fun id u hu=> .inl (q3 id u hu)⟩ hB
  ·obtain⟨z,A,X,Y,Z⟩:=q.ex;refine⟨⟨s,h,σ.nx+8*ops.size,σ.pn⟩,⟨⟨z,A,X,Y,fun id u hu=>?_⟩,L.pn⟩,V⟩;rcases Z id u hu with h1 | ⟨i,j,h1,h2,h3⟩ <;> simp only <;> omega
  ·obtain⟨z,A,X,Y,Z⟩:=q.ex;refine⟨⟨s,h,σ.nx+8*ops.size,σ.pn⟩,⟨⟨z,A,X,Y,fun id u hu=>?_⟩,L.pn⟩,J y hy _⟩;rcases Z id u hu with h1 | ⟨i,j,h1,h2,h3⟩ <;> simp only <;> omega
 ·cases B
end
end Go.Tv
