import Derived.Test.YtbedjpdfkmfplaaGreatDoorTvSm
import Derived.Lib.Bytealg
import Derived.WalkKit
import Derived.WalkLawsBesides
import Derived.Recover
namespace Go.Tv
open Go Go.RowKit
def wB:QX→Int→Int→Int
 | [],_,_=> -1
 | x::r,c,k=>if x == c.toNat.toUInt8 then k else wB r c (k+1)
theorem F9(c:Int):∀(l:QX) (k:Int),0≤k→wB l c k=if Lib.indexByte l c.toNat.toUInt8 == -1 then -1 else Lib.indexByte l c.toNat.toUInt8+k
 | [],k,_=>rfl
 | x::r,k,hk=>by
  have h:=Lib.indexByte_ge r c.toNat.toUInt8;simp only[wB,Lib.indexByte];rw[F9 c r (k+1) (by omega)];split
  ·simp
  ·split
   ·simp
   ·rename_i j e;simp only[beq_iff_eq]at e;have f:(Lib.indexByte r c.toNat.toUInt8+1 == -1)=false:=by simp only[beq_eq_false_iff_ne,ne_eq];omega
    rw[f];simp only[Bool.false_eq_true,if_false];omega
theorem Pure.LQ{P:Program}{f:FuncId}{fn:Func}(I:P.funcs[f]? = some fn)(q:(fn.name == "runtime.NumGoroutine")=false)(hb:fn.body.isNone=false){u z:Bool}{s:QX}{c:Int}
  (h:∀(s:ByteArray) w,Calls P f #[.string s,.int .u8 c] w fun e w'=>e = .returned (.int .i64 (Lib.indexByte s.data.toList c.toNat.toUInt8))∧w'=w):Pure P f [.p u .str s,.p z (.int .u8) c] (.p false (.int .i64) (wB s c 0)):=by
 refine⟨⟨fn,I,q,hb⟩,fun Bw w D B J j=>?_⟩;match C:D.toList,j with
 | [v0,v1],j =>
  have L:=pQ j.1;have M:=bR j.2.1;subst L M;have:D = #[.string ⟨List.toArray s⟩,.int .u8 c]:=Array.ext' C;subst this;refine(h ⟨List.toArray s⟩ w).mono fun r w' ⟨N,O⟩=>⟨_,N,by subst O;exact(Kept.refl (lJ B)).below,?_⟩
  have V:wB s c 0=Lib.indexByte s c.toNat.toUInt8:=by
   rw[F9 c s 0 (by omega)];split
   ·rename_i E;simp only[beq_iff_eq]at E;exact E.symm
   ·omega
  rw[V];exact dM _ _ _
section
variable{P:Program}{tb:bQ}
def tW(P:Program)(g:FuncId)(args:List ag)(hin hout:Qw)(x:Value):Prop :=
 ∀(Bw:Nat→Prop) (b:cE P) (φ:Nat→Nat→Prop) (f:QU),Mem Bw b b.pk φ (fun i=>look hin i) b.w →
  jf (Fr (own φ (fun i=>look hin i)) Bw b.w) b.pk args f.toList→(∀i u,b.pk i=some u→i<hin.length) →
  CallsD P g f (.panicking [{ v:=x,recovered:=false }]) b.w fun e u z=>∃v j q,e = .returned v∧u = .panicking [{ v:=x,recovered:=true }]∧Mem Bw b j q (fun i=>look hout i) z
def Lh(P:Program)(g:FuncId)(k:Nat):Prop :=
 ∀(f:QU) (w:World),f.size=k→CallsD P g f .returning w fun e u j=>(∃v,e = .returned v)∧u = .returning∧j=w
theorem B0{fn:Func}(h:fn.results = #[])(e:QU)(w:World):(results fn e).run P w = .ok (.tuple #[]) w:=by
 simp[results,h]
theorem tW.jZ{g:FuncId}{fn:Func}(hf:P.funcs[g]? = some fn){C o1:Oper}{id:Nat}{c:Code}(hb:fn.body=some (.seq (.region id #[C,o1] false) c))(E:fn.results = #[]){q I:Nat}
  (h0:C.op = .call { callee:= .builtin .recover,args:= #[],argTypes:= #[] }) (M:C.dst=some q) (N:C.guard=none) (h1:o1.op = .assign (.tmp q)) (O:o1.dst=some I) (X:o1.guard=none)
  (hd:(decide (2≤q) && decide (2≤I) && decide (q<fn.ntmps) && decide (I<fn.ntmps))=true) {a0 L:ag} {hin hout:Qw} {x:Value} {nx pn:Nat} (Y:hin.length=pn)
  (hK:∀Bw w0,W P fn.ntmps Bw w0 c (aA [(0,a0),(1,L),(I,.lit x)] hin pn pn) (o6 fn.ntmps (fun(_:Unit)=>aA [] hout nx pn) ())):tW P g [a0,L] hin hout x:=by
 subst Y;simp only[Bool.and_eq_true,decide_eq_true_eq]at hd;obtain⟨⟨⟨k0,k1⟩,k2⟩,k3⟩:=hd;refine fun Bw b φ z m j A=>callsD_of_wpS hf hb fun B cs hu=>?_
 match Z:z.toList,j with
 | [v0,v1],j =>
 have hv:z = #[v0,v1]:=Array.ext' Z;subst hv;apply wpS_seq;apply wpS_region;have e0:∀ρ:Operand→Value,(execOp ρ C).run P b.w = .ok .recover b.w:=fun ρ=>by simp[execOp,h0,resolve,invoke,builtin]
 have e1:∀ρ:Operand→Value,(execOp ρ o1).run P b.w = .ok (.value (ρ (.tmp q))) b.w:=fun ρ=>by simp[execOp,h1]
 have er:recoverD (B :: cs)=some (x,{ B with mode:= .panicking [{ v:=x,recovered:=true }] }::cs):=by simp[recoverD,hu]
 have a2:∀y,Region.wanted C y=true:=fun y=>by unfold Region.wanted;rw[N]
 have a3:∀y,Region.wanted o1 y=true:=fun y=>by unfold Region.wanted;rw[X]
 show wpOpsS P #[C,o1] _ [0,1] _ _ _;simp only[wpOpsS,List.getElem?_toArray,List.getElem?_cons_zero,List.getElem?_cons_succ,a2,a3,if_true,e0,er,e1,Oper.upon];simp only[Exit.thenS];refine wpS_of_wp ?_;have a4:bV (fn.ntmps:NS) (Fr (own φ (fun i=>look hin i)) Bw b.w) b.pk (fun t=>(([a0,L]:List ag)[t]?).getD .unk) { tmps:= #[v0,v1]++Array.replicate (fn.ntmps - 2) undef,defers:=[] }:=by
  refine⟨?_,rfl,fun t=>?_⟩
  ·grind
  ·match t with
   | 0 =>
    have g0:(#[v0,v1]++Array.replicate (fn.ntmps - 2) undef).getD 0 undef=v0:=by simp[Array.getD_eq_getD_getElem?,Array.getElem?_append]
    show V _ _ a0 ((#[v0,v1]++Array.replicate (fn.ntmps - 2) undef).getD 0 undef);rw[g0];exact j.1
   | 1 =>
    have g0:(#[v0,v1]++Array.replicate (fn.ntmps - 2) undef).getD 1 undef=v1:=by simp[Array.getD_eq_getD_getElem?,Array.getElem?_append]
    show V _ _ L ((#[v0,v1]++Array.replicate (fn.ntmps - 2) undef).getD 1 undef);rw[g0];exact j.2.1
   | t+2=>simp only[List.getElem?_cons_succ,List.getElem?_nil,Option.getD_none,V]
 have D:=(a4.put (x:= .lit x) (v:=x) (by simp only[V]) (d:=q) k2).put (x:= .lit x) (v:=x) (by simp only[V]) (d:=I) k3;have J:Act.eval (Act.put { tmps:= #[v0,v1]++Array.replicate (fn.ntmps - (#[v0,v1]:QU).size) undef,defers:=[] } (some q) x) (.tmp q)=x:=by simp[Act.eval,Act.put];omega
 rw[M,O,J];refine wp_mono (hK Bw b _ b.w ⟨⟨b.pk,φ,m,⟨D.tm,D.df,fun t=>?_⟩,fun id u hu=>A id u hu⟩,fun i u h=>A i u h⟩) fun e a' w' ⟨σ',a5,he,a6⟩=>?_
 ·have:=D.sl t;simp only[aA,look];by_cases q0:0=t
  ·grind (splits:=6) (ematch:=4) [aD]
  ·grind (splits:=6) (ematch:=4) [aD,av,V]
 ·subst he;obtain⟨a7,a8,q1,q2,_⟩:=(a6 _ Bw b a' w' a5).ex;exact⟨q2.df,_,rfl,_,B0 E _ _,_,a7,a8,rfl,rfl,q1⟩
def DQ{A E:Type}(n:NS)(tb:bQ)(q:List ResultVar)(g:A→List (Σ T:Ty,T.den))(f:E→Value)(u:List (Nat×ag))(mp:Qw)(j:Nat):A⊕E→Exit→St→Prop
 | .inl x=>gM tb q g x
 | .inr e=>fun ex σ=>ex = .panic [{ v:=f e,recovered:=false }]∧Le n σ (aA u mp j 2)
def KX{A E:Type}(g:A→List (Σ T:Ty,T.den))(f:E→List (Σ T:Ty,T.den)):A⊕E→List (Σ T:Ty,T.den)
 | .inl x=>g x
 | .inr e=>f e
theorem answers(C:bY P tb){fn:Func}{w:World}{b:cE P}(D:b.w=w){n:NS}{Bw:Nat→Prop}{ρ:Nat→QW}{φ:Nat→Nat→Prop}{s:Nat→ag}{h:Nat→Qz}{a:Act}{f:World}(E:∀k,k<w.heap.size→b.kp k)(m:Mem Bw b ρ φ h f)
  (I:bV n (Fr (own φ h) Bw f) ρ s a) {xs:List ag} {Ts:List Ty} {e:List (Σ T:Ty,T.den)} (J:uy tb s h fn.results.toList=some xs) (L:mS h xs Ts=some e) :
  ∃v,(results fn a.tmps).run P f = .ok v f∧∃z,Ending.returned v = .returned z∧Below w.heap.size w f∧V (fun _=>Fr gJ Bw f false) jF (aM (bg false e)) z:=by
 obtain⟨j,M,N⟩:=ji (P:=P) C m I J;have q:=ox m L N;have O:=mj (P:=P) _ fn.results f M;have A:Below w.heap.size w f:=by subst D;exact⟨m.kp.os,m.kp.tape,m.kp.output,m.kp.size,fun k hk=>m.kp.block k (E k hk)⟩
 refine⟨(if h:j.toArray.size=1 then j.toArray[0]else .tuple j.toArray),?_,_,rfl,A,?_⟩
 ·unfold results;rw[Sem.run_bind];exact(congrArg (fun r=>Result.andThen r (fun a f=>Sem.run P (pure (if h:a.size=1 then a[0]else Value.tuple a)) f)) O).trans rfl
 ·have u:=(jh q).1;generalize bg false e=ys at q u ⊢;match ys,j,q with
  | [],[],_=>simp only[aM,V];exact⟨#[],rfl,rfl,by simp only[VL]⟩
  | [y],[v],q=>exact q.1
  | y::X::ys,v::z::j,q =>
   have:¬((v::z::j).toArray.size=1):=by simp
   rw[dif_neg this];simp only[aM,V];refine⟨_,rfl,by simpa using u.symm,VL.mk fun k x hk=>?_⟩;have:=(jh q).2 k;rw[hk]at this;have B:k<(v::z::j).length:=by rw[←u];exact(List.getElem?_eq_some_iff.1 hk).1
   rw[List.getElem?_eq_getElem B]at this;exact⟨_,by simp[B],this⟩
theorem Pure.H3{A E:Type}(ad:bY P tb){f gd:FuncId}{fn fnd:Func}(hf:P.funcs[f]? = some fn)(a7:(fn.name == "runtime.NumGoroutine")=false)(be:P.funcs[gd]? = some fnd)(a4:(fnd.name == "runtime.NumGoroutine")=false)(ax:fnd.body.isNone=false){cA cB c3:Code}{id:Nat}{o0 o1:Oper}
  (hb:fn.body=some (.seq cA (.seq cB (.seq (.region id #[o0,o1] false) c3)))) {t2 t3 d:Nat}
  (h0:o0.op = .makeFunc (.func gd) #[] #[.tmp t2,.tmp t3]) (bi:o0.dst=some d) (bs:o0.guard=none) (h1:o1.op = .defer { callee:= .value (.tmp d),args:= #[],argTypes:= #[] }) (bv:o1.dst=none) (bx:o1.guard=none)
  {args:List ag} (dd:args.length≤fn.ntmps) (_:oZ args=true) {l:List (Nat×ag)} {m:Qw} {nx s2 s3:Nat} (z:(look l d).isNone=true) (b1:d<fn.ntmps) (de:look l t2=some (.adr 0 0 s2 0)) (di:look l t3=some (.adr 1 0 s3 0)) (_:2≤nx)
  (hA:∀Bw w0,W P fn.ntmps Bw w0 cA (oM args) (Ac P fn.ntmps Bw w0 cB (o6 fn.ntmps (fun(_:Unit)=>aA l m nx 0) ())))
  {g:A→List (Σ T:Ty,T.den)} {fv:E→Value} {lp:List (Nat×ag)} {mp:Qw} {nxp:Nat} {a8:A⊕E}
  (hC:∀Bw w0 D,W P ⟨fn.ntmps,D⟩ Bw w0 c3 (aA l m nx 2) (DQ ⟨fn.ntmps,D⟩ tb fn.results.toList g fv lp mp nxp a8))
  (a9:Lh P gd 2) {hin:Qw} {hout:E→Qw} (b2:∀e,tW P gd [.adr 0 0 s2 0,.adr 1 0 s3 0] hin (hout e) (fv e))
  (I:j8 [0,1] (aA lp mp nxp 2).h 0 [0,1]=some hin) (c1:∀e,uR [0,1] (hout e) .unk=true) (Ts:List Ty) {gp:E→List (Σ T:Ty,T.den)}
  (b3:∀e,(match uy tb (aA lp mp nxp 2).s (apply (vL [0,1] nxp (hout e)) (aA lp mp nxp 2).h) fn.results.toList with | some xs=>mS (apply (vL [0,1] nxp (hout e)) (aA lp mp nxp 2).h) xs Ts | none=>none)=some (gp e)) :
  Pure P f args (aM (bg false (KX g gp a8))):=by
 refine⟨⟨fn,hf,a7,by rw[hb];rfl⟩,fun Bw w us z c2 aa=>calls_of_wp_defers hf hb ?_⟩;have c4:∀β a v,Fr gJ Bw w β a v→Fr (own Fw (oM args).h) Bw w β a v:=fun β a v hh=>⟨fun⟨_,_,_,_,h3⟩=>h3,hh.2⟩
 obtain⟨hl,hg⟩:=jh aa;have hR:R fn.ntmps Bw (lJ z) (oM args) { tmps:=us++Array.replicate (fn.ntmps - us.size) undef,defers:=[] } w:=by
  refine⟨⟨jF,Fw,⟨fun id o h=>(by cases h),fun id o k h=>(by cases h),fun id dk o o' k h1=>(by cases h1),c2,fun k ⟨_,_,_,_,h3⟩=>h3.elim,Kept.refl _,fun i u h=>(by cases h)⟩,⟨?_,rfl,fun t=>?_⟩,fun id u hu=>(by cases hu)⟩,fun i u h=>(by cases h)⟩
  ·have:us.size=args.length:=by rw[hl,Array.length_toList]
   simp only[Array.size_append,Array.size_replicate];omega
  ·have hv:=V.mono c4 (fun _ _ h=>h) (hg t);simp only[oM];rcases Nat.lt_or_ge t us.size with q | q
   ·have e:(us++Array.replicate (fn.ntmps - us.size) undef).getD t undef=(us.toList[t]?).getD undef:=by simp[Array.getD_eq_getD_getElem?,Array.getElem?_append,q]
    rw[e];exact hv
   ·have:args[t]? = none:=List.getElem?_eq_none (by rw[hl,Array.length_toList];exact q);rw[this];simp only[Option.getD_none,V]
 refine wp_seq (wp_mono (hA Bw (lJ z) _ _ hR) fun e a1 w1 ⟨σ1,c5,O⟩=>?_);cases e with
 | exit _=>exact absurd O.1 (by simp)
 | goto _=>exact absurd O.1 (by simp)
 | ret=>exact absurd O.1 (by simp)
 | panic _=>exact absurd O.1 (by simp)
 | outgrown=>exact absurd O.1 (by simp)
 | normal =>
 refine wp_seq (wp_mono (O a1 w1 c5) fun e X w2 ⟨dm,c6,c7,b4⟩=>?_);subst c7;have c8:R fn.ntmps Bw (lJ z) (aA l m nx 0) X w2:=b4 _ Bw (lJ z) X w2 c6;obtain⟨ρ,φ,Z,q2,q3⟩:=c8.ex;have c9:=q2.sl t2;have cc:=q2.sl t3;generalize ch:X.tmps.getD t2 undef=B at c9;generalize cp:X.tmps.getD t3 undef=C at cc;have e0:∀w,(execOp X.eval o0).run P w = .ok (.value (.func (.func gd) #[] #[B,C])) w:=fun w=>by
  have:X.eval (.tmp t2)=B:=by rw[←ch];rfl
  have:X.eval (.tmp t3)=C:=by rw[←cp];rfl
  simp_all [execOp,Instr.makeFunc]
 have cs:(X.put (some d) (.func (.func gd) #[] #[B,C])).eval (.tmp d) = .func (.func gd) #[] #[B,C]:=by
  have cx:d<X.tmps.size:=by rw[q2.tm];exact b1
  simp[Act.eval,Act.put,Array.getD_eq_getD_getElem?,cx]
 let D0:Deferred:= { target:= .fn (.func gd) #[B,C],args:= #[] }
 have e1:∀w,(execOp (X.put (some d) (.func (.func gd) #[] #[B,C])).eval o1).run P w = .ok (.defer D0) w:=fun w=>by simp[execOp,h1,resolve,cs,Deferred.ofValue,D0]
 have b5:∀y,Region.wanted o0 y=true:=fun y=>by unfold Region.wanted;rw[bs]
 have b6:∀y,Region.wanted o1 y=true:=fun y=>by unfold Region.wanted;rw[bx]
 refine wp_seq (wp_region ?_);show wpOps P #[o0,o1] _ [0,1] _ _;simp only[wpOps_cons,wpOp,List.getElem?_toArray,List.getElem?_cons_zero,List.getElem?_cons_succ,b5,b6,if_true];refine .inl ?_;unfold Oper.wp;rw[e0];simp only[Oper.upon];rw[bi];simp only[wpOps_cons,wpOp,List.getElem?_toArray,List.getElem?_cons_zero,List.getElem?_cons_succ,b5,b6,if_true];refine .inl ?_;unfold Oper.wp;rw[e1];simp only[Oper.upon];rw[bv];show c3.wp P _ _ _;let b:cE P:=⟨w,fun k=>k<w.heap.size,fun _ h=>h,fun i=>if i<2 then ρ i else none,z,(lJ z).lk⟩
 have d1:Mem Bw b ρ φ (aA l m nx 0).h w2:=⟨Z.ob,Z.lt,Z.dj,Z.bw,Z.ow,⟨Z.kp.os,Z.kp.tape,Z.kp.output,Z.kp.size,Z.kp.block⟩,fun i u hu=>by
  simp only[b]at hu;split at hu
  ·exact hu
  ·cases hu⟩
 have hS:=q2.put (x:= .unk) (v:= .func (.func gd) #[] #[B,C]) (by simp only[V]) (d:=d) b1;have d2:R ⟨fn.ntmps,[D0]⟩ Bw b (aA l m nx 2) (({ X.put (some d) (.func (.func gd) #[] #[B,C])with defers:=D0::(X.put (some d) (.func (.func gd) #[] #[B,C])).defers }:Act).put none undef) w2:=by
  refine⟨⟨ρ,φ,d1,⟨hS.tm,?_,fun t=>?_⟩,q3⟩,fun i u hu=>?_⟩
  ·have:(X.put (some d) (.func (.func gd) #[] #[B,C])).defers=[]:=hS.df;show D0::_=_;rw[this]
  ·have:=hS.sl t;by_cases e:t=d
   ·subst e;have hn:look l t=none:=by simpa using z
    show V _ _ ((look l t).getD .unk) _;rw[hn];simp only[Option.getD_none,V]
   ·rw[aD _ _ e]at this;exact this
  ·simp only[b]at hu;split at hu
   ·assumption
   ·cases hu
 have N:∀ {Y:Nat→Nat→Prop} {J:Nat→QW} {h':Nat→Qz} {w':World},Mem Bw b J Y h' w'→∀i,i<2→∀u,ρ i=some u→J i=some u:=fun m i hi u hu=>m.pk i u (by simp only[b];rw[if_pos hi];exact hu)
 refine wp_mono (hC Bw b [D0] _ _ d2) fun e a3 w3 ⟨ds,b7,b8⟩=>?_
 have a6:∀w,(invoke (.fn (.func gd) #[B,C]) #[]).run P w = .ok (.enter gd #[B,C]) w:=fun w=>by
  have n1:¬fnd.name = "runtime.NumGoroutine" :=by simpa using a4
  have n2:¬fnd.body=none:=fun e=>by rw[e]at ax;cases ax
  simp[invoke,callFunc,be,n1,n2]
 cases a8 with
 | inl x =>
  obtain⟨rfl,xs,dt,r1,r2⟩:=b8;obtain⟨J,Y,p1,p2,_⟩:=b7.ex;have b9:=answers (P:=P) ad (fn:=fn) (w:=w) (b:=b) rfl (fun k hk=>hk) p1 p2 r1 r2;show Leaves P fn a3.tmps _ a3.defers .returning w3;rw[p2.df];refine leaves_cons (by simp) (a6 w3) ((a9 #[B,C] w3 rfl).mono ?_);rintro e u d3 ⟨⟨v,rfl⟩,rfl,rfl⟩;obtain⟨v,hv,hr⟩:=b9;exact⟨v,hv,hr⟩
 | inr ev =>
  obtain⟨rfl,d4⟩:=b8;obtain⟨J,Y,p1,p2,p3⟩:=(d4 _ Bw b a3 w3 b7).ex;show Leaves P fn a3.tmps _ a3.defers (.panicking [{ v:=fv ev,recovered:=false }]) w3;rw[p2.df];have hn:([0,1]:QV).Nodup:=by decide
  obtain⟨mc,L⟩:=rG p1 hn I;have hV:jf (Fr (own Y (aA lp mp nxp 2).h) Bw w3) J [.adr 0 0 s2 0,.adr 1 0 s3 0] [B,C]:=by
   have f2:V (Fr (own φ (aA l m nx 0).h) Bw w2) ρ (.adr 0 0 s2 0) B:=by simp_all [aA,Option.getD_some]
   have f3:V (Fr (own φ (aA l m nx 0).h) Bw w2) ρ (.adr 1 0 s3 0) C:=by simp_all [aA,Option.getD_some]
   simp only[V]at f2 f3;obtain⟨g2,k2,r2⟩:=f2;obtain⟨g3,k3,r3⟩:=f3;refine⟨?_,?_,trivial⟩
   ·simp only[V];exact⟨g2,k2.imp (N p1 0 (by omega) _) (fun⟨n,c,h⟩=>⟨n,c,N p1 0 (by omega) _ h⟩),r2⟩
   ·simp only[V];exact⟨g3,k3.imp (N p1 1 (by omega) _) (fun⟨n,c,h⟩=>⟨n,c,N p1 1 (by omega) _ h⟩),r3⟩
  have a5:=mF p1 L (xs:=[.adr 0 0 s2 0,.adr 1 0 s3 0]) (ys:=[.adr 0 0 s2 0,.adr 1 0 s3 0]) (by rfl) hV;have ac:=b2 ev (qK Y (less [0,1] (aA lp mp nxp 2).h) Bw) (fH p1 [0,1]) (fun i=>Y (([0,1]:QV).getD i 0)) #[B,C] mc a5 (fun i u e=>by
   rw[lg I];simp only[fH]at e;split at e
   ·assumption
   ·cases e)
  refine leaves_cons (by simp) (a6 w3) (ac.mono ?_);rintro e u d3 ⟨v,du,e2,rfl,rfl,m2⟩;have d5:∀j,j<8→J (nxp+j)=none:=fun j hj=>by
   cases hq:J (nxp+j)with
   | none=>rfl
   | some u=>have:=p3 _ u hq;simp only[aA]at this;omega
  obtain⟨e3,e4,s1,d6,d7,_,_⟩:=rL (r:= .unk) (v:=undef) p1 hn d5 (qp I) (c1 ev) m2 trivial;have d8:=p2.mono d6 d7;have M:=b3 ev;split at M
  ·rename_i xs d9;obtain⟨v,hv,hr⟩:=answers (P:=P) ad (fn:=fn) (w:=w) (b:=b) rfl (fun k hk=>hk) s1 d8 d9 M;exact⟨v,hv,hr⟩
  ·cases M
end
end Go.Tv
